/- ShareHolds: its walk. -/
import Derived.Test.YtkbjpackijdnkaaShHold
import Derived.Test.YtkbjpackijdnkaaSharePlays
namespace Go.Proofs.Ytkbjpackijdnkaa
open Go.Joins Go.ChangeShapes Go.WideShapes Go.RowKit Go.Deep Go.Proofs.YtkbjpackijdnkaaW.PrintLast
set_option linter.unusedVariables false
set_option linter.unusedSimpArgs false

theorem encW_ok : EncOk encW 5 := ⟨fun _ => rfl, fun o u hu => by simp [encW] at hu; rcases hu with rfl | rfl | rfl | rfl | rfl <;> rfl⟩
theorem tyW : ETy Try.prog 85 44 5 := ⟨by kernel_rfl, ⟨Try.t44, _, by kernel_rfl, by rfl, by rfl, by decide, by rfl⟩, by decide⟩
theorem low20 (x : Int) (w : World) : Calls Try.prog 13 #[.int .i64 x, .int .i64 20] w fun e w' => ∃ q : Int, (0 ≤ q ∧ q < 20) ∧ e = .returned (.int .i64 q) ∧ w = w' :=
  (low_any x 20 (by omega) (by omega) w).mono fun _ _ ⟨h1, h2⟩ => ⟨_, lowI_bd x 20 (by omega), h1, h2⟩
theorem lowNn (x n : Int) (h1 : 1 ≤ n) (h2 : n < 1000000) (w : World) : Calls Try.prog 13 #[.int .i64 x, .int .i64 n] w fun e w' => ∃ q : Int, (0 ≤ q ∧ q < n) ∧ e = .returned (.int .i64 q) ∧ w = w' :=
  (low_any x n h1 (by omega) w).mono fun _ _ ⟨h1', h2'⟩ => ⟨_, lowI_bd x n h1, h1', h2'⟩
theorem w1q {q : Int} (h : 0 ≤ q ∧ q < 1000000) : wrap64 (1 + q) = 1 + q := by unfold wrap64; omega
theorem wq1 {q : Nat} (h : q < 1000000) : wrap64 ((q : Int) + 1) = (q : Int) + 1 := by unfold wrap64; omega
theorem ShInv.natL {i : Nat} {last : Int} {M : List Sk} (h : ShInv i last M) : ∃ L : Nat, last = (L : Int) ∧ L ≤ i := ⟨last.toNat, by have := h.last0; omega, by have := h.last0; have := h.lasti; omega⟩

/-- What holds in the midst of a round. -/
def AfterHd (w : World) (b i L : Nat) (wx : World) : Prop := ∃ S M, SH wx b S (L : Int) M ∧ Own w wx S ∧ ShInv (i + 1) (L : Int) M

set_option maxHeartbeats 16000000 in
set_option maxRecDepth 100000 in
theorem shareHolds_walk (w : World) (la : Option Addr) (ln lc : Nat) (ds : List DeedP) (hs : Slc encDP 7 w la ln ds) (_hg : ∀ z ∈ ds, (Lit.int .i64 z.id).wf = true) :
    Calls Try.prog 11 #[.slice la ln lc] w fun e w' => e = .returned (.bool true) ∧ Ext [] w w' := by
  clear _hg
  have HS := Lib.hid hs
  clear hs
  by_cases h100 : 100 < ln
  · have d0 : decide (100 < (ln : Int)) = true := decide_eq_true (by omega)
    go_enter Try.func11, Try.ntmps11
    go_wp2_with fail
    refine (awakeP_any _).mono ?_
    rintro e w1 ⟨rfl, e1⟩
    go_wp2_with fail
    go_ret
    exact ⟨rfl, e1⟩
  have d0 : decide (100 < (ln : Int)) = false := decide_eq_false (by omega)
  have hln : ln ≤ 100 := by omega
  clear h100
  go_enter Try.func11, Try.ntmps11
  go_wp2_with fail
  refine (sh_new w).mono ?_
  rintro e w1 ⟨rfl, h1, x1⟩
  have o1 := Own.start x1 (S := [w.heap.size]) (by simp)
  obtain ⟨b, hb⟩ : ∃ b, w.heap.size = b := ⟨_, rfl⟩
  rw [hb] at h1 o1
  clear x1
  go_wp2_with fail
  clear hb
  go_loopw [4, 5] (fun lastv iv wr => ∃ (i L : Nat) (S : List Nat) (M : List Sk), i ≤ ln ∧ L ≤ i ∧ lastv = .int .i64 L ∧ iv = .int .i64 i ∧ SH wr b S (L : Int) M ∧ Own w wr S ∧ Hid (ShInv i (L : Int) M)) (fun _ iv _ => ln - (intOf iv).toNat)
  case atStart => exact ⟨0, 0, _, [], Nat.zero_le _, Nat.le_refl _, rfl, rfl, h1, o1, ShInv.nil⟩
  case round =>
    obtain ⟨i, L, S, M, hil, hLi, rfl, rfl, hw, ow, hinv⟩ := hrel
    clear h1 o1
    by_cases hi : i < ln
    · have d1 : decide (i < ln) = true := decide_eq_true hi
      obtain ⟨z, hz⟩ : ∃ z, ds[i]? = some z := ⟨_, List.getElem?_eq_getElem (by rw [HS.out.1]; exact hi)⟩
      have hza : ∃ ab ao, la = some ⟨ab, ao, none⟩ ∧ ab < w.heap.size ∧ ∀ (j : Nat) (v : Value), (encDP z)[j]? = some v → w.cell? ⟨ab, ao + (i * 7 + j), none⟩ = some v := by
        obtain ⟨ab, ao, g1, g2, g3⟩ := HS.out.2 (by omega)
        exact ⟨ab, ao, g1, g2, g3 i z hz⟩
      obtain ⟨ab, ao, rfl, hab, hcz⟩ := hza
      have hzz : ∀ W, Ext [] wr W → W.cell? ⟨ab, ao + i * 7, none⟩ = some (.int .i64 z.op) ∧ W.cell? ⟨ab, ao + i * 7 + 1, none⟩ = some (.int .i64 z.id) := fun W hW => by
        have g0 := ((ow.ext.trans hW (by simp)).cell (p := ⟨ab, ao + (i * 7 + 0), none⟩) hab (by simp)).trans (hcz 0 _ rfl)
        have g1 := ((ow.ext.trans hW (by simp)).cell (p := ⟨ab, ao + (i * 7 + 1), none⟩) hab (by simp)).trans (hcz 1 _ rfl)
        simp only [Nat.add_zero, ← Nat.add_assoc] at g0 g1
        exact ⟨g0, g1⟩
      obtain ⟨hz0, hz1⟩ := hzz wr (Ext.refl _ _)
      have b1 : (0 : Int) ≤ (i : Int) := by omega
      have b2 : (i : Int) < (ln : Int) := by omega
      have HW := Lib.hid hw; have HOW := Lib.hid ow
      clear hz hab hcz hzz hw ow
      go_wp2_with fail
      refine (low20 _ _).mono ?_
      rintro e w3 ⟨fq, hfq, rfl, rfl⟩
      have f1 := w1q (q := fq) (by omega)
      go_wp2_with fail
      clear f1
      refine (low4 _ _).mono ?_
      rintro e w3 ⟨lv, hlv, rfl, rfl⟩
      go_upto_block 2 with fail
      go_cut [4] (fun s4 wx => ∃ L' : Nat, L' ≤ i + 1 ∧ s4 = .int .i64 L' ∧ AfterHd w b i L' wx)
      case first =>
        have hM := hinv.out.len
        have hok := hinv.out.ok (by omega)
        have hl0 := hinv.out.last0
        rcases (show (lv = 0 ∨ lv = 1) ∨ lv = 2 ∨ lv = 3 by omega) with hlv2 | rfl | rfl
        · have hj := fun key => sh_join b S (L : Int) hl0 (by omega) M ⟨⟨#[]⟩, ⟨#[]⟩, false, key, ⟨#[]⟩⟩ (1 + fq) (by omega) hok wr HW.out
          have hja := fun key => join_last M (L : Int) ⟨⟨#[]⟩, ⟨#[]⟩, false, key, ⟨#[]⟩⟩ (1 + fq)
          have hni := fun key => hinv.out.join ⟨⟨#[]⟩, ⟨#[]⟩, false, key, ⟨#[]⟩⟩ (1 + fq)
          unfold JoinP at hj
          unfold encW at hj
          have HJ := Lib.hid hj; have HJA := Lib.hid hja; have HNI := Lib.hid hni
          clear hj hja hni hok hlv
          rcases hlv2 with rfl | rfl
          all_goals
            go_wp2_with fail
            refine (low4 _ _).mono ?_
            rintro e w3 ⟨kq, hkq, rfl, rfl⟩
            obtain ⟨key, hix⟩ := idx4 kq hkq
            clear hkq
            have hjk := HJ.out key; have hjl := HJA.out key; have hnk := HNI.out key
            generalize joinA M (L : Int) ⟨⟨#[]⟩, ⟨#[]⟩, false, key, ⟨#[]⟩⟩ (1 + fq) = q at hjk hjl hnk
            obtain ⟨⟨ja, jb, jc⟩, last', M'⟩ := q
            simp only at hjk hjl hnk
            obtain ⟨L', hL', hLi'⟩ := hnk.natL
            subst hL'
            have HJK := Lib.hid hjk; have HNK := Lib.hid hnk
            clear hjk hnk HJ HJA HNI
            cases jb with
            | true =>
              obtain ⟨rfl, rfl⟩ := hjl.1 rfl
              clear hjl
              go_wp2_with fail
              refine HJK.out.mono ?_
              rintro e w4 ⟨rfl, S4, h4, e4, g4⟩
              have H4 := Lib.hid h4; have E4 := Lib.hid e4; have G4 := Lib.hid g4
              clear h4 e4 g4
              go_wp2_with fail
              go_meet
              exact ⟨L', hLi', rfl, S4, M', H4.out, HOW.out.step E4.out G4.out, HNK.out⟩
            | false =>
              have hll := hjl.2 rfl
              have hll2 : L' = L := by omega
              clear hjl hll
              subst hll2
              go_wp2_with fail
              refine HJK.out.mono ?_
              rintro e w4 ⟨rfl, S4, h4, e4, g4⟩
              have H4 := Lib.hid h4; have E4 := Lib.hid e4; have G4 := Lib.hid g4
              clear h4 e4 g4
              go_wp2_with fail
              all_goals
                go_meet
                exact ⟨_, hLi', rfl, S4, M', H4.out, HOW.out.step E4.out G4.out, HNK.out⟩
        · have hj := sh_leave b S (L : Int) M (1 + fq) (by omega) hok wr HW.out
          have hni := hinv.out.leave (1 + fq)
          unfold LeaveP at hj
          generalize leaveA M (1 + fq) = q at hj hni
          obtain ⟨⟨ja, jb, jc⟩, M'⟩ := q
          simp only at hj hni
          have HJ := Lib.hid hj; have HNI := Lib.hid hni
          clear hj hni hok hlv
          go_wp2_with fail
          refine HJ.out.mono ?_
          rintro e w4 ⟨rfl, S4, h4, e4, g4⟩
          have H4 := Lib.hid h4; have E4 := Lib.hid e4; have G4 := Lib.hid g4
          clear h4 e4 g4
          go_wp2_with fail
          go_meet
          exact ⟨L, by omega, rfl, S4, M', H4.out, HOW.out.step E4.out G4.out, HNI.out⟩
        · have hj := fun pre => sh_done b S (L : Int) M pre (by omega) wr HW.out
          have hni := fun pre => hinv.out.done pre
          unfold DoneP at hj
          have HJ := Lib.hid hj; have HNI := Lib.hid hni
          have f1 := wq1 (q := L) (by omega)
          clear hj hni hok hlv
          go_wp2_with fail
          clear f1
          refine (lowNn _ _ (by omega) (by omega) _).mono ?_
          rintro e w3 ⟨dq, hdq, rfl, rfl⟩
          have f1 := w1q (q := dq) (by omega)
          go_wp2_with fail
          clear f1
          refine (HJ.out (1 + dq)).mono ?_
          rintro e w4 ⟨da, dc, rfl, dr, df, S4, h4, e4, g4⟩
          have H4 := Lib.hid h4; have E4 := Lib.hid e4; have G4 := Lib.hid g4
          clear dr df h4 e4 g4
          go_wp2_with fail
          go_meet
          exact ⟨L, by omega, rfl, S4, _, H4.out, HOW.out.step E4.out G4.out, HNI.out (1 + dq)⟩
      case rest =>
        obtain ⟨L', hL', rfl, S', M', hw', ow', hinv'⟩ := hcut
        clear hz0 hz1 HW HOW hinv hlv hfq
        have hM := hinv'.len
        have hok := hinv'.ok (by omega)
        have a1 := fun (p : Int) W (hW : Ext [] wc W) => sh_members b S' (L' : Int) M' p (by omega) hok W (hw'.keep0 hW)
        have a2 := fun (p : Int) W (hW : Ext [] wc W) => sh_want b S' (L' : Int) M' p (by omega) W (hw'.keep0 hW)
        have a3 := fun (x : Int) W (hW : Ext [] wc W) => sh_of b S' (L' : Int) M' x (by omega) hok W (hw'.keep0 hW)
        have a4 := fun W (hW : Ext [] wc W) => sh_len b S' (L' : Int) M' W (hw'.keep0 hW)
        have A1 := Lib.hid a1; have A2 := Lib.hid a2; have A3 := Lib.hid a3; have A4 := Lib.hid a4; have HINV := Lib.hid hinv'; have HWc := Lib.hid hw'; have HOWc := Lib.hid ow'
        have hM100 : M'.length ≤ 101 := by omega
        obtain ⟨ml, hml⟩ : ∃ ml, ml = M'.length := ⟨_, rfl⟩
        have HML := Lib.hid hml
        rw [← hml] at A4 hM100
        clear a1 a2 a3 a4 hok hM hw' ow' hinv' hml
        go_wp2_with fail
        go_loopw [10, 11, 12] (fun nv wv pv wr => ∃ (p nq q : Nat) (wa : Option Addr) (wcp : Nat) (wl : List Wt), 1 ≤ p ∧ p ≤ L' + 1 ∧ nq ≤ p ∧ q ≤ p ∧ nv = .int .i64 nq ∧ wv = .slice wa q wcp ∧ pv = .int .i64 p ∧ Rw encW 5 44 wr (.slice wa q wcp) wl ∧ Ext [] wc wr ∧ Hid (∀ g, (Value.slice wa q wcp).ownBlock = some g → wc.heap.size ≤ g) ∧ Hid (∀ x ∈ wl, ∃ s ∈ M', s.num < (p : Int) ∧ s.want = x) ∧ Hid (nq = cntB M' (p : Int))) (fun _ _ pv _ => L' + 1 - (intOf pv).toNat)
        case atStart => exact ⟨1, 0, 0, none, 0, [], Nat.le_refl _, by omega, by omega, by omega, rfl, rfl, rfl, Rw.nil _, Ext.refl _ _, fun g hg => by simp [Value.ownBlock] at hg, fun x hx => by simp at hx, (cntB_one (fun s hs => (HINV.out.each s hs).1)).symm⟩
        case round =>
          obtain ⟨p, nq, q, wa, wcp, wl, hp1, hpL, hnp, hqp, rfl, rfl, rfl, hR, her, hfr, hwl, hcn⟩ := hrel
          obtain ⟨wp, hwp⟩ : ∃ wp, wp = wr := ⟨_, rfl⟩
          subst hwp
          by_cases hp : p ≤ L'
          · have d2 : decide ((p : Int) ≤ (L' : Int)) = true := decide_eq_true (by omega)
            have d2' : decide (p ≤ L') = true := decide_eq_true hp
            have hmem := A1.out (p : Int) wp her
            have hwan := fun W (hW : Ext [] wp W) => A2.out (p : Int) W (her.trans hW (by simp))
            unfold MemP at hmem
            have HR := Lib.hid hR; have HER := Lib.hid her
            rcases hold_find M' (p : Int) with ⟨s, hs, hsn, hws, hms⟩ | ⟨hno, hws, hms⟩
            · rw [hms] at hmem; rw [hws] at hwan
              have hids := (HINV.out.each s hs).2.2.1
              have hidl := (HINV.out.each s hs).2.2.2
              obtain ⟨l, hl⟩ : ∃ l, l = s.ids.length := ⟨_, rfl⟩
              have hl0 : 0 < l := by
                rw [hl]; exact List.length_pos_iff.2 hids
              have hofs : ∀ x ∈ s.ids, ofA M' x = (p : Int) := fun x hx => by rw [hold_of HINV.out hs hx, hsn]
              have hnew : ∀ x ∈ wl, sameW x s.want = false := fun x hx => by
                obtain ⟨t, ht, htn, rfl⟩ := hwl.out x hx
                exact hold_want HINV.out ht hs (by omega)
              have hnx : ∀ x ∈ wl ++ [s.want], ∃ t ∈ M', t.num < ((p + 1 : Nat) : Int) ∧ t.want = x := fun x hx => by
                rcases List.mem_append.1 hx with hx | hx
                · obtain ⟨t, ht, htn, h8⟩ := hwl.out x hx
                  exact ⟨t, ht, by omega, h8⟩
                · simp at hx; exact ⟨s, hs, by omega, hx.symm⟩
              have hcx : nq + 1 = cntB M' ((p + 1 : Nat) : Int) := by
                have := cntB_some (p := (p : Int)) HINV.out.nums ⟨s, hs, hsn⟩
                rw [← hcn.out] at this
                rw [← this]; rfl
              rw [← hl] at hmem hidl
              have HOFS := Lib.hid hofs; have HNEW := Lib.hid hnew; have HNX := Lib.hid hnx; have HCX := Lib.hid hcx; have HL := Lib.hid hl; have HMEM := Lib.hid hmem; have HWAN := Lib.hid hwan
              obtain ⟨sids, hsids⟩ : ∃ x, x = s.ids := ⟨_, rfl⟩
              rw [← hsids] at HOFS HL HMEM
              generalize hsw : s.want = sw at HNEW HNX HWAN
              obtain ⟨vo, vu, vc, vm, vn⟩ := sw
              clear hs hsn hws hms hids hofs hnew hnx hcx hl hmem hwan hsids hsw hwl hcn hR her
              unfold encW at HWAN
              go_wp2_with fail
              refine HMEM.out.mono ?_
              rintro e w4 ⟨ma, mc, rfl, hr4, e4, hf4⟩
              have hr4 := Lib.hid hr4; have E4 := Lib.hid e4
              clear hf4 e4
              go_wp2_with fail
              refine (HWAN.out w4 E4.out).mono ?_
              rintro e w5 ⟨rfl, e5⟩
              have hY : Blk (w5.alloc (.cells #[.string vo, .string vu, .bool vc, .string vm, .string vn] 44 (0, 0))) w5.heap.size #[.string vo, .string vu, .bool vc, .string vm, .string vn] 44 := Blk.new _ _ _
              have e6 : Ext [] w4 (w5.alloc (.cells #[.string vo, .string vu, .bool vc, .string vm, .string vn] 44 (0, 0))) := e5.alloc _
              have HY := Lib.hid hY; have E6 := Lib.hid e6
              clear hY e6 e5
              have d3 : decide (0 < l) = true := decide_eq_true hl0
              go_wp2_with fail
              have hY := HY.out; have e6 := E6.out
              generalize hYe : w5.heap.size = Y at hY ⊢
              generalize hw6 : w5.alloc (Obj.cells #[Value.string vo, Value.string vu, Value.bool vc, Value.string vm, Value.string vn] 44) = w6 at hY e6 ⊢
              have HY6 := Lib.hid hY; have HR6 := Lib.hid (hr4.out.keep e6 (by simp)); have E06 := Lib.hid (E4.out.trans e6 (by simp))
              clear HY E6 hw6 hYe hY e6 hr4 E4
              go_loopw [16] (fun kv WX => ∃ (k : Nat), k ≤ l ∧ kv = .int .i64 k ∧ Ext [] w6 WX) (fun kv _ => l - (intOf kv).toNat)
              case atStart => exact ⟨0, Nat.zero_le _, rfl, Ext.refl _ _⟩
              case round =>
                obtain ⟨k, hkl, rfl, hek⟩ := hrel
                by_cases hk : k < l
                · have d4 : decide (k < l) = true := decide_eq_true hk
                  obtain ⟨x, hx⟩ : ∃ x, sids[k]? = some x := ⟨_, List.getElem?_eq_getElem (by rw [← HL.out]; exact hk)⟩
                  have hrk := HR6.out.keep hek (by simp)
                  obtain ⟨ig, rfl, hig⟩ := hrk.addr (by omega)
                  have i0 := hrk.cell encI_ok.len hx 0 (by omega)
                  simp only [encI, Nat.add_zero, Nat.mul_one, List.getElem?_cons_zero] at i0
                  have c1 := A3.out x wr ((HER.out.trans E06.out (by simp)).trans hek (by simp))
                  rw [HOFS.out x (List.mem_of_getElem? hx)] at c1
                  have b3 : (0 : Int) ≤ (k : Int) := by omega
                  have b4 : (k : Int) < (l : Int) := by omega
                  have C1 := Lib.hid c1; have HEK := Lib.hid hek
                  clear c1 hrk hx hek
                  go_wp2_with fail
                  refine C1.out.mono ?_
                  rintro e w9 ⟨rfl, e9⟩
                  go_wp2_with fail
                  exact ⟨⟨k + 1, by omega, by go_num, HEK.out.trans e9 (by simp)⟩, by simp [intOf]; omega⟩
                · have d4 : decide (k < l) = false := decide_eq_false hk
                  have HY7 := Lib.hid (HY6.out.keep hek (by simp)); have E07 := Lib.hid (E06.out.trans hek (by simp))
                  clear HY6 E06 HR6 hek
                  generalize wr = w7 at HY7 E07 ⊢
                  go_wp2_with fail
                  go_loopw [17] (fun kv WX => ∃ (k : Nat), k ≤ q ∧ kv = .int .i64 k ∧ Ext [] w7 WX) (fun kv _ => q - (intOf kv).toNat)
                  case atStart => exact ⟨0, Nat.zero_le _, rfl, Ext.refl _ _⟩
                  case round =>
                    obtain ⟨k2, hkq, rfl, hek⟩ := hrel
                    have hY := HY7.out.keep hek (by simp)
                    have hRk := HR.out.keep (E07.out.trans hek (by simp)) (by simp)
                    have y0 := hY.cell 0; have y1 := hY.cell 1; have y2 := hY.cell 2; have y3 := hY.cell 3; have y4 := hY.cell 4
                    simp only [List.getElem?_toArray, List.getElem?_cons_zero, List.getElem?_cons_succ] at y0 y1 y2 y3 y4
                    by_cases hk2 : k2 < q
                    · have d5 : decide (k2 < q) = true := decide_eq_true hk2
                      obtain ⟨x, hx⟩ : ∃ x, wl[k2]? = some x := ⟨_, List.getElem?_eq_getElem (by have := hRk.len; omega)⟩
                      obtain ⟨wg, rfl, hwg⟩ := hRk.addr (by omega)
                      have x0 := hRk.cell encW_ok.len hx 0 (by omega); have x1 := hRk.cell encW_ok.len hx 1 (by omega); have x2 := hRk.cell encW_ok.len hx 2 (by omega); have x3 := hRk.cell encW_ok.len hx 3 (by omega); have x4 := hRk.cell encW_ok.len hx 4 (by omega)
                      simp only [encW, Nat.add_zero, List.getElem?_cons_zero, List.getElem?_cons_succ] at x0 x1 x2 x3 x4
                      have hsp := want_split (HNEW.out x (List.mem_of_getElem? hx))
                      have b3 : (0 : Int) ≤ (k2 : Int) := by omega
                      have b4 : (k2 : Int) < (q : Int) := by omega
                      obtain ⟨xo, xu, xc, xm, xn⟩ := x
                      simp only at hsp x0 x1 x2 x3 x4
                      have HEK := Lib.hid hek
                      clear hx hRk hY hek
                      rcases hsp with hne | ⟨rfl, hne⟩ | ⟨rfl, rfl, hne⟩ | ⟨rfl, rfl, rfl, hne⟩ | ⟨rfl, rfl, rfl, rfl, hne⟩
                      · skip
                        go_wp2_with fail
                        go_quiet (fail)
                        go_wp2_with fail
                        exact ⟨⟨k2 + 1, by omega, by go_num, HEK.out.drewN _⟩, by simp [intOf]; omega⟩
                      · skip
                        go_wp2_with fail
                        go_quiet (fail)
                        go_wp2_with fail
                        exact ⟨⟨k2 + 1, by omega, by go_num, HEK.out.drewN _⟩, by simp [intOf]; omega⟩
                      · subst hne
                        cases vc with
                        | true =>
                          go_wp2_with fail
                          go_quiet (fail)
                          go_wp2_with fail
                          exact ⟨⟨k2 + 1, by omega, by go_num, HEK.out.drewN _⟩, by simp [intOf]; omega⟩
                        | false =>
                          go_wp2_with fail
                          go_quiet (fail)
                          go_wp2_with fail
                          exact ⟨⟨k2 + 1, by omega, by go_num, HEK.out.drewN _⟩, by simp [intOf]; omega⟩
                      · skip
                        go_wp2_with fail
                        go_quiet (fail)
                        go_wp2_with fail
                        exact ⟨⟨k2 + 1, by omega, by go_num, HEK.out.drewN _⟩, by simp [intOf]; omega⟩
                      · skip
                        go_wp2_with fail
                        go_quiet (fail)
                        go_wp2_with fail
                        exact ⟨⟨k2 + 1, by omega, by go_num, HEK.out.drewN _⟩, by simp [intOf]; omega⟩
                    · have d5 : decide (k2 < q) = false := decide_eq_false hk2
                      have hlen : LenIs wl [(⟨vo, vu, vc, vm, vn⟩ : Wt)] (q + 1) := by unfold LenIs; rw [← hRk.len]; rfl
                      have h63 : q + 1 ≤ 1000000 := by omega
                      have hsl := Sl.new (enc := encW) wr (⟨vo, vu, vc, vm, vn⟩ : Wt) 44
                      have hrw := hRk.alloc (.cells (encW ⟨vo, vu, vc, vm, vn⟩).toArray 44 (0, 0))
                      have e8 : Ext [] wc wr := HER.out.trans (E07.out.trans hek (by simp)) (by simp)
                      unfold encW at hsl hrw
                      have E8 := Lib.hid e8
                      clear hRk hY hek e8
                      go_wp2_with (at_builtin; refine wpList_appN tyW encW_ok (by rfl) _ _ (by rfl) hrw (by rfl) hsl (by rfl) hlen h63 ?_)
                      intro a5 c5 w9 hr5 hS5 hg5
                      have e9 : Ext [] wc w9 := (E8.out.alloc _).fresh (hS5 (Value.slice wa q wcp).ownBlock.toList (by simp +contextual)) (fun g hg => hfr.out g (by simpa using hg))
                      have hsz8 := E8.out.size
                      have hg6 : Hid (∀ g, (Value.slice a5 (q + 1) c5).ownBlock = some g → wc.heap.size ≤ g) := fun g hg => (hg5 g hg).elim (hfr.out g) (fun h => by
                        try simp only [World.size_alloc] at h
                        omega)
                      have HR5 := Lib.hid hr5; have E9 := Lib.hid e9
                      clear hS5 hg5 hr5 e9 hsl hrw hlen hfr
                      go_wp2_with fail
                      exact ⟨⟨p + 1, nq + 1, q + 1, a5, c5, _, by omega, by omega, by omega, by omega, by go_num, rfl, by go_num, HR5.out, E9.out, hg6, HNX.out, HCX.out⟩, by simp [intOf]; omega⟩
            · rw [hms] at hmem; rw [hws] at hwan
              have hnx : ∀ x ∈ wl, ∃ t ∈ M', t.num < ((p + 1 : Nat) : Int) ∧ t.want = x := fun x hx => by
                obtain ⟨t, ht, htn, h8⟩ := hwl.out x hx
                exact ⟨t, ht, by omega, h8⟩
              have hcx : nq = cntB M' ((p + 1 : Nat) : Int) := by
                have := cntB_none (p := (p : Int)) hno
                rw [← hcn.out] at this
                rw [← this]; rfl
              have HNX := Lib.hid hnx; have HCX := Lib.hid hcx; have HMEM := Lib.hid hmem; have HWAN := Lib.hid hwan
              clear hno hws hms hnx hcx hmem hwan hwl hcn hR her
              unfold noW encW at HWAN
              go_wp2_with fail
              refine HMEM.out.mono ?_
              rintro e w4 ⟨ma, mc, rfl, hr4, e4, hf4⟩
              have E4 := Lib.hid e4
              clear hf4 e4 hr4
              go_wp2_with fail
              refine (HWAN.out w4 E4.out).mono ?_
              rintro e w5 ⟨rfl, e5⟩
              have e6 : Ext [] w4 (w5.alloc (.cells #[.string ⟨#[]⟩, .string ⟨#[]⟩, .bool false, .string ⟨#[]⟩, .string ⟨#[]⟩] 44 (0, 0))) := e5.alloc _
              have E6 := Lib.hid e6
              clear e6 e5
              go_wp2_with fail
              have e6 := E4.out.trans E6.out (by simp)
              generalize hw6 : w5.alloc (Obj.cells #[Value.string ⟨#[]⟩, Value.string ⟨#[]⟩, Value.bool false, Value.string ⟨#[]⟩, Value.string ⟨#[]⟩] 44) = w6 at e6 ⊢
              generalize w5.heap.size = Y
              have E06 := Lib.hid e6
              clear E6 hw6 e6 E4
              go_loopw [16] (fun kv WX => kv = .int .i64 0 ∧ WX = w6) (fun kv _ => 0)
              case atStart => exact ⟨rfl, rfl⟩
              case round =>
                obtain ⟨rfl, hwx⟩ := hrel
                have hwx2 := hwx.symm
                subst hwx2
                go_wp2_with fail
                go_loopw [17] (fun kv WX => ∃ (k : Nat), k ≤ q ∧ kv = .int .i64 k ∧ Ext [] w6 WX) (fun kv _ => q - (intOf kv).toNat)
                case atStart => exact ⟨0, Nat.zero_le _, rfl, Ext.refl _ _⟩
                case round =>
                  obtain ⟨k2, hkq, rfl, hek⟩ := hrel
                  by_cases hk2 : k2 < q
                  · have d5 : decide (k2 < q) = true := decide_eq_true hk2
                    have HEK := Lib.hid hek
                    clear hek
                    go_wp2_with fail
                    go_quiet (fail)
                    go_wp2_with fail
                    exact ⟨⟨k2 + 1, by omega, by go_num, HEK.out.drewN _⟩, by simp [intOf]; omega⟩
                  · have d5 : decide (k2 < q) = false := decide_eq_false hk2
                    have e8 : Ext [] wp wr := E06.out.trans hek (by simp)
                    have E8 := Lib.hid e8
                    clear hek e8
                    go_wp2_with fail
                    exact ⟨⟨p + 1, nq, q, wa, wcp, wl, by omega, by omega, by omega, by omega, rfl, rfl, by go_num, HR.out.keep E8.out (by simp), HER.out.trans E8.out (by simp), hfr, HNX.out, HCX.out⟩, by simp [intOf]; omega⟩
          · have d2 : decide ((p : Int) ≤ (L' : Int)) = false := decide_eq_false (by omega)
            have d2' : decide (p ≤ L') = false := decide_eq_false hp
            have hall : nq = ml := by
              rw [hcn.out, HML.out]
              exact cntB_all (fun s hs => by have := (HINV.out.each s hs).2.1; omega)
            have c4 := A4.out wp her
            have C4 := Lib.hid c4; have HER := Lib.hid her
            clear hR hfr hwl hcn c4 her
            subst hall
            go_wp2_with fail
            refine C4.out.mono ?_
            rintro e w9 ⟨rfl, rfl⟩
            go_wp2_with fail
            exact ⟨⟨i + 1, L', S', M', by omega, hL', rfl, by go_num, HWc.out.keep0 HER.out, HOWc.out.quiet HER.out, HINV.out⟩, by simp [intOf]; omega⟩
    · have d1 : decide (i < ln) = false := decide_eq_false hi
      have HOW := Lib.hid ow
      clear hw ow hinv
      go_wp2_with fail
      refine (awakeP_any _).mono ?_
      rintro e w2 ⟨rfl, e2⟩
      go_wp2_with fail
      go_ret
      exact ⟨rfl, HOW.out.ext.trans e2 (by simp)⟩
end Go.Proofs.Ytkbjpackijdnkaa
