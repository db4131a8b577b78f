/- CacheApart: its walk. -/
import Derived.Test.YtkbjpackijdnkaaCaPure
import Derived.Test.YtkbjpackijdnkaaCacheAnew
import Derived.Test.YtkbjpackijdnkaaLow
import Derived.Deep.DeepCutAuto
namespace Go.Proofs.Ytkbjpackijdnkaa
open Go.Joins Go.ChangeShapes Go.WideShapes Go.RowKit Go.Deep Go.Proofs.YtkbjpackijdnkaaW.PrintLast
set_option linter.unusedVariables false
set_option linter.unusedSimpArgs false

theorem long_each : ∀ (ns : List ByteArray) (n : Int), longL n ns = false → (∀ s ∈ ns, (s.size : Int) < n) ∧ (0 ≤ n → (ns.length : Int) ≤ n)
  | [], n, _ => ⟨fun s hs => by simp at hs, fun h => by simpa using h⟩
  | s :: r, n, h => by
    rw [longL] at h
    by_cases hn : n ≤ (s.size : Int)
    · rw [if_pos hn] at h; simp at h
    · rw [if_neg hn] at h
      obtain ⟨h1, h2⟩ := long_each r _ h
      refine ⟨fun x hx => ?_, fun h0 => ?_⟩
      · rcases List.mem_cons.1 hx with rfl | hx
        · omega
        · have := h1 x hx; omega
      · have := h2 (by omega)
        rw [List.length_cons]; omega

theorem open_names {H : Type} {enc : TypeId × Value → H} {W : World} {a : Option Addr} {n c : Nat} {d : DataW H} {p : List MemPlace} (h : DataW.Trod enc Try.prog W 0 (fun _ => true) true 63 (.slice a n c) d p) :
    ∃ zs : List ByteArray, Slc encS 1 W a n zs ∧ ∀ z ∈ zs, n < 9223372036854775808 := by
  have hb : n < 9223372036854775808 := by
    obtain ⟨fuel, hf⟩ := h
    rcases open_slice Try.underlying63 hf with ⟨hcs, _⟩ | ⟨x, l, cp, m, n', D, Pl, hcs, _, hl, hm, _⟩
    · simp [Value.cells] at hcs
      omega
    · simp [Value.cells] at hcs
      unfold maxLen at hm
      omega
  obtain ⟨zs, h1, _⟩ := Slc.open_string Try.underlying63 Try.underlying9 (by kernel_rfl) h
  exact ⟨zs, h1, fun _ _ => hb⟩

theorem wrapNN {a b : Nat} (h : a + b ≤ 1000000) : wrap64 ((a : Int) + (b : Int)) = (a : Int) + (b : Int) := by unfold wrap64; omega
theorem info_cel : (Try.prog.info? 33).map (·.size) = some 3 := by
  have h : Try.prog.info? 33 = some Try.t33 := by kernel_rfl
  rw [h]; rfl

/-- What holds in the midst of a round. -/
def MidA (w : World) (c : Cel) (b r X B i : Nat) (S R : List Nat) (xs : List Ent) (wx : World) : Prop :=
  ∃ e : Ent, Blk wx B (encE e).toArray 35 ∧ CO 64 wx b S xs ∧ CO 64 wx r R (inC c xs) ∧ Own2 w wx S R ∧ Blk wx X (encC c).toArray 33

set_option maxHeartbeats 16000000 in
set_option maxRecDepth 100000 in
theorem cacheApart_walk (w : World) (la : Option Addr) (ln lc : Nat) (es : List Ent) (hs : Slc encE 6 w la ln es) (_hg : ∀ z ∈ es, True) (c : Cel) (_hc : True) (m : ByteArray) (hm : m.size ≤ 140737488351232) (na : Option Addr) (nn nc : Nat) (ns : List ByteArray) (hns : Slc encS 1 w na nn ns) (hnb : ∀ z ∈ ns, nn < 9223372036854775808) (now : Int) (hnow : (Lit.int .u64 now).wf = true) :
    Calls Try.prog 9 #[.slice la ln lc, .agg (encC c).toArray, .string m, .slice na nn nc, .int .u64 now] w fun e w' => e = .returned (.bool true) ∧ Ext [] w w' := by
  clear _hg _hc hnow
  have hnn0 : nn < 9223372036854775808 := by
    cases ns with
    | nil => have := hns.1; simp at this; omega
    | cons z r => exact hnb z (by simp)
  clear hnb
  obtain ⟨co, cu, cr⟩ := c
  have hX : Blk (w.alloc (.cells #[.string co, .string cu, .bool cr] 33 (0, 0))) w.heap.size #[.string co, .string cu, .bool cr] 33 := Blk.new _ _ _
  have e0 : Ext [] w (w.alloc (.cells #[.string co, .string cu, .bool cr] 33 (0, 0))) := (Ext.refl _ _).alloc _
  have hL1 := long_any 400 (by omega) (by omega) _ 3 3 [co, cu, m] _ (Slc.three_str (w.alloc (.cells #[.string co, .string cu, .bool cr] 33 (0, 0))) co cu m 9) (by omega)
  have hL2 := fun W (hW : Ext [] w W) => long_any 1200 (by omega) (by omega) na nn nc ns W (hns.keep hW) hnn0
  rw [World.size_alloc] at hL1
  obtain ⟨lk1, hlk1⟩ : ∃ l, longL 400 [co, cu, m] = l := ⟨_, rfl⟩
  obtain ⟨lk2, hlk2⟩ : ∃ l, longL 1200 ns = l := ⟨_, rfl⟩
  rw [hlk1] at hL1; rw [hlk2] at hL2
  have HX := Lib.hid hX; have HE0 := Lib.hid e0; have HL1 := Lib.hid hL1; have HL2 := Lib.hid hL2; have HS := Lib.hid hs; have HNS := Lib.hid hns; have HLK2 := Lib.hid hlk2
  clear hX e0 hL1 hL2 hs hns hlk1 hlk2
  unfold encC
  by_cases h30 : 30 < ln
  · have d0 : decide (30 < (ln : Int)) = true := decide_eq_true (by omega)
    go_enter Try.func9, Try.ntmps9
    go_wp2_with fail
    refine (awakeC_any _).mono ?_
    rintro e w1 ⟨rfl, e1⟩
    go_wp2_with fail
    go_ret
    exact ⟨rfl, HE0.out.trans e1 (by simp)⟩
  have d0 : decide (30 < (ln : Int)) = false := decide_eq_false (by omega)
  have hln : ln ≤ 30 := by omega
  clear h30
  cases lk1 with
  | true =>
    go_enter Try.func9, Try.ntmps9
    go_wp2_with fail
    refine HL1.out.mono ?_
    rintro e w1 ⟨rfl, rfl⟩
    go_wp2_with fail
    refine (awakeC_any _).mono ?_
    rintro e w1 ⟨rfl, e1⟩
    go_wp2_with fail
    go_ret
    exact ⟨rfl, (HE0.out.alloc _).trans e1 (by simp)⟩
  | false =>
    cases lk2 with
    | true =>
      go_enter Try.func9, Try.ntmps9
      go_wp2_with fail
      refine HL1.out.mono ?_
      rintro e w1 ⟨rfl, rfl⟩
      go_wp2_with fail
      refine (HL2.out _ (HE0.out.alloc _)).mono ?_
      rintro e w1 ⟨rfl, rfl⟩
      go_wp2_with fail
      refine (awakeC_any _).mono ?_
      rintro e w1 ⟨rfl, e1⟩
      go_wp2_with fail
      go_ret
      exact ⟨rfl, (HE0.out.alloc _).trans e1 (by simp)⟩
    | false =>
      obtain ⟨hsz, hnl⟩ := long_each ns 1200 HLK2.out
      have hnn : nn < 1000000 := by have := hnl (by omega); have := HNS.out.1; omega
      have hsz2 : ∀ s ∈ ns, s.size ≤ 140737488351232 := fun s hs => by have := hsz s hs; omega
      have HSZ := Lib.hid hsz2
      have hnew := fun W => co_new 64 W
      rw [show clampC 64 = 64 by unfold clampC; omega] at hnew
      have HNEW := Lib.hid hnew
      clear hsz hnl hsz2 hnew HLK2 hnn0
      go_enter Try.func9, Try.ntmps9
      go_wp2_with fail
      refine HL1.out.mono ?_
      rintro e w1 ⟨rfl, rfl⟩
      go_wp2_with fail
      refine (HL2.out _ (HE0.out.alloc _)).mono ?_
      rintro e w1 ⟨rfl, rfl⟩
      have hX := HX.out.alloc (.cells #[.string co, .string cu, .string m] 9 (0, 0))
      have e0 := HE0.out.alloc (.cells #[.string co, .string cu, .string m] 9 (0, 0))
      generalize (w.alloc (Obj.cells #[.string co, .string cu, .bool cr] 33 (0, 0))).alloc (Obj.cells #[.string co, .string cu, .string m] 9 (0, 0)) = w0 at hX e0 ⊢
      have HX0 := Lib.hid hX; have HE1 := Lib.hid e0
      clear hX e0 HX HE0 HL1 HL2
      go_wp2_with fail
      refine (HNEW.out w0).mono ?_
      rintro e w1 ⟨rfl, h1, x1⟩
      have o1 := Own.start (HE1.out.trans x1 (by simp)) (S := [w0.heap.size]) (by simpa using HE1.out.size)
      have hX1 := HX0.out.keep x1 (by simp)
      have hXl := HX0.out.lt
      have hXl1 := hX1.lt
      obtain ⟨b, hb⟩ : ∃ b, w0.heap.size = b := ⟨_, rfl⟩
      rw [hb] at h1 o1 hXl
      have H1 := Lib.hid h1; have O1 := Lib.hid o1; have HX1 := Lib.hid hX1
      clear h1 o1 hX1 x1 HX0 HE1
      go_wp2_with fail
      refine (HNEW.out w1).mono ?_
      rintro e w2 ⟨rfl, h2, x2⟩
      have o2 := Own2.start O1.out H1.out.lt x2 (R := [w1.heap.size]) (by simp)
      have h1 := H1.out.keep0 x2
      have hX2 := HX1.out.keep x2 (by simp)
      obtain ⟨r, hr⟩ : ∃ r, w1.heap.size = r := ⟨_, rfl⟩
      rw [hr] at h2 o2 hXl1
      obtain ⟨X, hXe⟩ : ∃ X, w.heap.size = X := ⟨_, rfl⟩
      rw [hXe] at hX2 hXl hXl1
      have hSX : Hid (∀ x ∈ [b], x ≠ X) := by intro x hx; simp at hx; omega
      have hRX : Hid (∀ x ∈ [r], x ≠ X) := by intro x hx; simp at hx; omega
      clear x2 H1 O1 HX1 hXl hXl1
      go_wp2_with fail
      clear hb hr hXe
      go_loopw [13, 14] (fun nv iv wr => ∃ (i : Nat) (S R : List Nat) (xs : List Ent) (N : Nat), i ≤ ln ∧ nv = .int .i64 N ∧ iv = .int .i64 i ∧ CO 64 wr b S xs ∧ CO 64 wr r R (inC ⟨co, cu, cr⟩ xs) ∧ Own2 w wr S R ∧ xs.length ≤ i ∧ N ≤ i ∧ Blk wr X #[.string co, .string cu, .bool cr] 33 ∧ Hid (TilOk xs) ∧ Hid (xs.length ≤ (inC ⟨co, cu, cr⟩ xs).length + N) ∧ Hid (∀ x ∈ S, x ≠ X) ∧ Hid (∀ x ∈ R, x ≠ X)) (fun _ iv _ => ln - (intOf iv).toNat)
      case atStart => exact ⟨0, _, _, [], 0, Nat.zero_le _, rfl, rfl, h1, h2, o2, Nat.le_refl _, Nat.le_refl _, hX2, TilOk.nil, Nat.le_refl _, hSX, hRX⟩
      case round =>
        obtain ⟨i, S, R, xs, N, hil, rfl, rfl, hw, hwr, ow, hxl, hNi, hXw, htil, hlen, hSX, hRX⟩ := hrel
        clear h1 h2 o2 hX2 HNEW
        by_cases hi : i < ln
        · have d1 : decide (i < ln) = true := decide_eq_true hi
          obtain ⟨z, hz⟩ : ∃ z, es[i]? = some z := ⟨_, List.getElem?_eq_getElem (by rw [HS.out.1]; exact hi)⟩
          have hza : ∃ ab ao, la = some ⟨ab, ao, none⟩ ∧ ab < w.heap.size ∧ ∀ (j : Nat) (v : Value), (encE z)[j]? = some v → w.cell? ⟨ab, ao + (i * 6 + j), none⟩ = some v := by
            obtain ⟨ab, ao, g1, g2, g3⟩ := HS.out.2 (by omega)
            exact ⟨ab, ao, g1, g2, g3 i z hz⟩
          obtain ⟨ab, ao, rfl, hab, hcz⟩ := hza
          have hz0 := (ow.ext.cell (p := ⟨ab, ao + (i * 6 + 0), none⟩) hab (by simp)).trans (hcz 0 _ rfl)
          have hz1 := (ow.ext.cell (p := ⟨ab, ao + (i * 6 + 1), none⟩) hab (by simp)).trans (hcz 1 _ rfl)
          have hz2 := (ow.ext.cell (p := ⟨ab, ao + (i * 6 + 2), none⟩) hab (by simp)).trans (hcz 2 _ rfl)
          have hz3 := (ow.ext.cell (p := ⟨ab, ao + (i * 6 + 3), none⟩) hab (by simp)).trans (hcz 3 _ rfl)
          have hz4 := (ow.ext.cell (p := ⟨ab, ao + (i * 6 + 4), none⟩) hab (by simp)).trans (hcz 4 _ rfl)
          have hz5 := (ow.ext.cell (p := ⟨ab, ao + (i * 6 + 5), none⟩) hab (by simp)).trans (hcz 5 _ rfl)
          simp only [Nat.add_zero, ← Nat.add_assoc] at hz0 hz1 hz2 hz3 hz4 hz5
          have b1 : (0 : Int) ≤ (i : Int) := by omega
          have b2 : (i : Int) < (ln : Int) := by omega
          have hgr := great_any z (wr.alloc (.cells (encE z).toArray 35 (0, 0)))
          have hB : Blk (wr.alloc (.cells (encE z).toArray 35 (0, 0))) wr.heap.size (encE z).toArray 35 := Blk.new _ _ _
          have e3 : Ext [] wr (wr.alloc (.cells (encE z).toArray 35 (0, 0))) := (Ext.refl _ _).alloc _
          have hlw := hw.lt; have hlr := hwr.lt; have hlX := hXw.lt
          have hBS : Hid (∀ x ∈ S, x ≠ wr.heap.size) := fun x hx => by have := hlw x hx; omega
          have hBR : Hid (∀ x ∈ R, x ≠ wr.heap.size) := fun x hx => by have := hlr x hx; omega
          have hBX : wr.heap.size ≠ X := by omega
          have HGR := Lib.hid hgr; have HB := Lib.hid hB; have E3 := Lib.hid e3; have HW := Lib.hid hw; have HWR := Lib.hid hwr; have HOW := Lib.hid ow; have HXW := Lib.hid hXw
          clear hz hab hcz hgr hB e3 hw hwr ow hXw hlw hlr
          unfold encE at HGR HB E3
          obtain ⟨gb, hgb⟩ : ∃ g, greatE z = g := ⟨_, rfl⟩
          rw [hgb] at HGR
          clear hgb
          cases gb with
          | true =>
            go_wp2_with fail
            refine HGR.out.mono ?_
            rintro e w3 ⟨rfl, x3⟩
            go_wp2_with fail
            refine (awakeC_any _).mono ?_
            rintro e w4 ⟨rfl, x4⟩
            go_wp2_with fail
            go_ret
            exact ⟨rfl, ((HOW.out.ext.trans E3.out (by simp)).trans x3 (by simp)).trans x4 (by simp)⟩
          | false =>
            go_wp2_with fail
            refine HGR.out.mono ?_
            rintro e w3 ⟨rfl, x3⟩
            have x5 := E3.out.trans x3 (by simp)
            have hBx := HB.out.keep x3 (by simp)
            have hw := HW.out.keep0 x5; have hwr := HWR.out.keep0 x5; have ow := HOW.out.quiet x5; have hXw := HXW.out.keep x5 (by simp)
            obtain ⟨B, hBe⟩ : ∃ B, wr.heap.size = B := ⟨_, rfl⟩
            have hBge : w.heap.size ≤ wr.heap.size := HOW.out.ext.size
            rw [hBe] at hBx hBS hBR hBX hBge
            have HBx := Lib.hid hBx; have HW2 := Lib.hid hw; have HWR2 := Lib.hid hwr; have HOW2 := Lib.hid ow; have HXW2 := Lib.hid hXw
            clear hBx hw hwr ow hXw x3 x5 HGR HB E3 HW HWR HOW HXW hz0 hz1 hz2 hz3 hz4 hz5 hlX
            rw [hBe]
            clear hBe
            go_upto_if 57 with fail
            go_cut [15] (fun s15 wx => s15 = .pointer (some ⟨B, 0, none⟩) ∧ MidA w ⟨co, cu, cr⟩ b r X B i S R xs wx)
            case first =>
              cases pe : (((i : Int) % 2) == 0) with
              | false =>
                go_wp2_with fail
                go_meet
                exact ⟨rfl, z, HBx.out, HW2.out, HWR2.out, HOW2.out, HXW2.out⟩
              | true =>
                have hXw := HXW2.out
                have q0 := hXw.cell 0; have q1 := hXw.cell 1; have q2 := hXw.cell 2
                simp only [List.getElem?_toArray, List.getElem?_cons_zero, List.getElem?_cons_succ] at q0 q1 q2
                have ht : w3.there B 0 3 := fun j hj => ⟨by rw [Nat.zero_add, HBx.out.cell j]; match j, hj with | 0, _ => rfl | 1, _ => rfl | 2, _ => rfl, HBx.out.free _⟩
                have hone : (#[Value.string co, .string cu, .bool cr].all (·.oneCell')) = true := by simp [Value.oneCell']
                have hB2 : Blk (w3.setCells B 0 [.string co, .string cu, .bool cr]) B (encE ⟨co, cu, cr, z.meth, z.head, z.til⟩).toArray 35 := ((HBx.out.set 0 (.string co)).set 1 (.string cu)).set 2 (.bool cr)
                have e4 : Ext [B] w3 (w3.setCells B 0 [.string co, .string cu, .bool cr]) := Ext.setCells (Or.inl (by simp)) _ _ _ (Ext.refl _ _)
                have HB2 := Lib.hid hB2; have E4 := Lib.hid e4
                clear hXw hB2 e4
                go_wp2_with (refine wpList_store_mid ?_ ?_ 33 (.tmp 59) (.tmp 58) ?_ B 0 #[.string co, .string cu, .bool cr] ?_ ?_ ht info_cel hone ?_; exact rfl; exact rfl; exact rfl; exact rfl; exact rfl; generalize hW5 : World.setCells w3 B 0 _ = w5)
                have hW6 : World.setCells w3 B 0 [.string co, .string cu, .bool cr] = w5 := hW5
                rw [hW6] at HB2 E4
                clear hW5 hW6 ht hone q0 q1 q2
                go_wp2_with fail
                go_meet
                have hBS' : ∀ x ∈ S, x ∉ [B] := fun x hx hm => hBS.out x hx (by simpa using hm)
                have hBR' : ∀ x ∈ R, x ∉ [B] := fun x hx hm => hBR.out x hx (by simpa using hm)
                exact ⟨rfl, _, HB2.out, HW2.out.keep E4.out hBS', HWR2.out.keep E4.out hBR', ⟨HOW2.out.ext.trans E4.out (fun x hx => .inr (by simp at hx; omega)), HOW2.out.ges, HOW2.out.ger, HOW2.out.ne⟩, HXW2.out.keep E4.out (by simp; exact fun e => hBX e.symm)⟩
            case rest =>
              obtain ⟨rfl, e1, hBc, hw', hwr', ow', hXc⟩ := hcut
              obtain ⟨eo, eu, ec, em, eh, et⟩ := e1
              have hcp := co_put 64 b S xs ⟨eo, eu, ec, em, eh, et⟩ 0 (by omega) (by omega) wc hw'
              unfold PutP at hcp
              have ht2 := put_til htil.out (by omega) ⟨eo, eu, ec, em, eh, et⟩
              have hin := fun h => put_in (c := ⟨co, cu, cr⟩) htil.out (by omega) (e := ⟨eo, eu, ec, em, eh, et⟩) h
              have hinl := fun h => put_in_len (c := ⟨co, cu, cr⟩) htil.out (by omega) (e := ⟨eo, eu, ec, em, eh, et⟩) h hlen.out
              have hout := fun h => put_out (c := ⟨co, cu, cr⟩) htil.out (by omega) (e := ⟨eo, eu, ec, em, eh, et⟩) h
              generalize putM 64 ⟨eo, eu, ec, em, eh, et⟩ 0 xs = q at hcp ht2 hin hinl hout
              obtain ⟨ok, xs'⟩ := q
              have hilen : (inC ⟨co, cu, cr⟩ xs).length < 10000 := Nat.lt_of_le_of_lt (List.length_filter_le _ _) (by omega)
              have hcd := fun W (hW : CO 64 W r R (inC ⟨co, cu, cr⟩ xs)) => co_put 64 r R (inC ⟨co, cu, cr⟩ xs) ⟨eo, eu, ec, em, eh, et⟩ 0 hilen (by omega) W hW
              unfold PutP at hcd
              have hcp : Calls Try.prog 16 #[.pointer (some ⟨b, 0, none⟩), .agg #[.string eo, .string eu, .bool ec, .string em, .string eh, .int .u64 et], .int .u64 0] wc fun e w' => e = .returned (.bool ok) ∧ Chg (fun w' S' => CO 64 w' b S' xs') S wc w' := hcp
              have HCP := Lib.hid hcp; have HT2 := Lib.hid ht2; have HIN := Lib.hid hin; have HINL := Lib.hid hinl; have HOUT := Lib.hid hout; have HCD := Lib.hid hcd
              have kx := hBc; have k0 := kx.cell 0; have k1 := kx.cell 1; have k2 := kx.cell 2; have k3 := kx.cell 3; have k4 := kx.cell 4; have k5 := kx.cell 5; have xx := hXc; have q0 := xx.cell 0; have q1 := xx.cell 1; have q2 := xx.cell 2
              simp only [encE, encC, List.getElem?_toArray, List.getElem?_cons_zero, List.getElem?_cons_succ] at k0 k1 k2 k3 k4 k5 q0 q1 q2
              have HBc := Lib.hid hBc; have HWR3 := Lib.hid hwr'; have HOW3 := Lib.hid ow'; have HXC := Lib.hid hXc; have HTIL := htil
              clear kx xx hcp ht2 hin hinl hout hcd hBc hw' hwr' ow' hXc hilen HBx HW2 HWR2 HOW2 HXW2 htil
              go_wp2_with fail
              refine HCP.out.mono ?_
              rintro e w4 ⟨rfl, S', h4, x4, g4⟩
              have hB4 := HBc.out.keep x4 (fun hm => hBS.out B hm rfl); have hX4 := HXC.out.keep x4 (fun hm => hSX.out X hm rfl)
              have hR4 := HWR3.out.keep x4 (fun x hx hs => HOW3.out.ne x hs hx)
              have o4 := HOW3.out.left HWR3.out.lt x4 g4
              have hSX4 : Hid (∀ x ∈ S', x ≠ X) := own_ne hSX.out g4 HXC.out.lt
              clear k0 k1 k2 k3 k4 k5 q0 q1 q2
              have kx := hB4; have k0 := kx.cell 0; have k1 := kx.cell 1; have k2 := kx.cell 2; have k3 := kx.cell 3; have k4 := kx.cell 4; have k5 := kx.cell 5; have xx := hX4; have q0 := xx.cell 0; have q1 := xx.cell 1; have q2 := xx.cell 2
              simp only [encE, encC, List.getElem?_toArray, List.getElem?_cons_zero, List.getElem?_cons_succ] at k0 k1 k2 k3 k4 k5 q0 q1 q2
              have H4 := Lib.hid h4; have HB4 := Lib.hid hB4; have HX4 := Lib.hid hX4; have HR4 := Lib.hid hR4; have HO4 := Lib.hid o4
              clear kx xx h4 hB4 hX4 hR4 o4 x4 g4 HCP HBc HXC HWR3 HOW3 hSX
              have hNl : xs.length ≤ i := hxl
              by_cases hc : ofCell ⟨co, cu, cr⟩ ⟨eo, eu, ec, em, eh, et⟩ = true
              · have hin := HIN.out hc; have hinl := HINL.out hc
                have hcd : ∀ W, CO 64 W r R (inC ⟨co, cu, cr⟩ xs) → Calls Try.prog 16 #[.pointer (some ⟨r, 0, none⟩), .agg #[.string eo, .string eu, .bool ec, .string em, .string eh, .int .u64 et], .int .u64 0] W fun e w' => e = .returned (.bool ok) ∧ Chg (fun w' S' => CO 64 w' r S' (inC ⟨co, cu, cr⟩ xs')) R W w' := by
                  have := HCD.out
                  rw [hin] at this
                  exact this
                have hcc : eo = co ∧ eu = cu ∧ ec = cr := by
                  unfold ofCell at hc
                  simp only [Bool.and_eq_true, decide_eq_true_eq, beq_iff_eq] at hc
                  exact ⟨hc.1.1, hc.1.2, hc.2⟩
                have HCD2 := Lib.hid hcd; have HINL2 := Lib.hid hinl
                clear hin hcd hinl hc HIN HINL HOUT HCD
                obtain ⟨rfl, rfl, rfl⟩ := hcc
                go_wp2_with fail
                refine (HCD2.out _ HR4.out).mono ?_
                rintro e w5 ⟨rfl, R', h5, x5, g5⟩
                have o5 := HO4.out.right H4.out.lt x5 g5
                have hX5 := HX4.out.keep x5 (fun hm => hRX.out X hm rfl)
                have hw5 := H4.out.keep x5 (fun x hx hr => HO4.out.ne x hx hr)
                have hRX5 : Hid (∀ x ∈ R', x ≠ X) := own_ne hRX.out g5 HX4.out.lt
                have H5 := Lib.hid h5; have HO5 := Lib.hid o5; have HX5 := Lib.hid hX5; have HW5 := Lib.hid hw5
                clear h5 o5 hX5 hw5 x5 g5 k0 k1 k2 k3 k4 k5 q0 q1 q2 H4 HX4 HR4 HO4 hRX
                go_wp2_with fail
                exact ⟨⟨i + 1, S', R', xs', N, by omega, rfl, by go_num, HW5.out, H5.out, HO5.out, by have := HT2.out.2; omega, by omega, HX5.out, HT2.out.1, HINL2.out, hSX4, hRX5⟩, by simp [intOf]; omega⟩
              · have hcf : ofCell ⟨co, cu, cr⟩ ⟨eo, eu, ec, em, eh, et⟩ = false := by simpa using hc
                obtain ⟨ho1, ho2⟩ := HOUT.out hcf
                have HO1 := Lib.hid ho1; have HO2' := Lib.hid ho2
                have hr4 : CO 64 w4 r R (inC ⟨co, cu, cr⟩ xs') := by rw [HO1.out]; exact HR4.out
                have HR5 := Lib.hid hr4
                clear ho1 ho2 hr4 HIN HINL HOUT HCD hc
                have hsplit : (¬ eo.toList = co.toList) ∨ (eo = co ∧ ¬ eu.toList = cu.toList) ∨ (eo = co ∧ eu = cu ∧ ec = !cr) := by
                  unfold ofCell at hcf
                  by_cases g1 : eo = co
                  · by_cases g2 : eu = cu
                    · right; right
                      refine ⟨g1, g2, ?_⟩
                      simp only [g1, g2, decide_true, Bool.true_and] at hcf
                      revert hcf
                      cases ec <;> cases cr <;> simp
                    · right; left; exact ⟨g1, fun h => g2 (bytes_inj.1 h)⟩
                  · left; exact fun h => g1 (bytes_inj.1 h)
                clear hcf
                rcases hsplit with hne | ⟨rfl, hne⟩ | ⟨rfl, rfl, hne⟩
                · skip
                  cases ok with
                  | true =>
                    go_wp2_with fail
                    exact ⟨⟨i + 1, S', R, xs', N + 1, by omega, by go_num, by go_num, H4.out, HR5.out, HO4.out, by have := HT2.out.2; omega, by omega, HX4.out, HT2.out.1, by show _ ≤ _; have h8 := HO2'.out; have h9 := hlen.out; rw [HO1.out]; simp at h8; omega, hSX4, hRX⟩, by simp [intOf]; omega⟩
                  | false =>
                    go_wp2_with fail
                    exact ⟨⟨i + 1, S', R, xs', N, by omega, rfl, by go_num, H4.out, HR5.out, HO4.out, by have := HT2.out.2; omega, by omega, HX4.out, HT2.out.1, by show _ ≤ _; have h8 := HO2'.out; have h9 := hlen.out; rw [HO1.out]; simp at h8; omega, hSX4, hRX⟩, by simp [intOf]; omega⟩
                · skip
                  cases ok with
                  | true =>
                    go_wp2_with fail
                    exact ⟨⟨i + 1, S', R, xs', N + 1, by omega, by go_num, by go_num, H4.out, HR5.out, HO4.out, by have := HT2.out.2; omega, by omega, HX4.out, HT2.out.1, by show _ ≤ _; have h8 := HO2'.out; have h9 := hlen.out; rw [HO1.out]; simp at h8; omega, hSX4, hRX⟩, by simp [intOf]; omega⟩
                  | false =>
                    go_wp2_with fail
                    exact ⟨⟨i + 1, S', R, xs', N, by omega, rfl, by go_num, H4.out, HR5.out, HO4.out, by have := HT2.out.2; omega, by omega, HX4.out, HT2.out.1, by show _ ≤ _; have h8 := HO2'.out; have h9 := hlen.out; rw [HO1.out]; simp at h8; omega, hSX4, hRX⟩, by simp [intOf]; omega⟩
                · subst hne
                  cases cr with
                  | true =>
                    cases ok with
                    | true =>
                      go_wp2_with fail
                      exact ⟨⟨i + 1, S', R, xs', N + 1, by omega, by go_num, by go_num, H4.out, HR5.out, HO4.out, by have := HT2.out.2; omega, by omega, HX4.out, HT2.out.1, by show _ ≤ _; have h8 := HO2'.out; have h9 := hlen.out; rw [HO1.out]; simp at h8; omega, hSX4, hRX⟩, by simp [intOf]; omega⟩
                    | false =>
                      go_wp2_with fail
                      exact ⟨⟨i + 1, S', R, xs', N, by omega, rfl, by go_num, H4.out, HR5.out, HO4.out, by have := HT2.out.2; omega, by omega, HX4.out, HT2.out.1, by show _ ≤ _; have h8 := HO2'.out; have h9 := hlen.out; rw [HO1.out]; simp at h8; omega, hSX4, hRX⟩, by simp [intOf]; omega⟩
                  | false =>
                    cases ok with
                    | true =>
                      go_wp2_with fail
                      exact ⟨⟨i + 1, S', R, xs', N + 1, by omega, by go_num, by go_num, H4.out, HR5.out, HO4.out, by have := HT2.out.2; omega, by omega, HX4.out, HT2.out.1, by show _ ≤ _; have h8 := HO2'.out; have h9 := hlen.out; rw [HO1.out]; simp at h8; omega, hSX4, hRX⟩, by simp [intOf]; omega⟩
                    | false =>
                      go_wp2_with fail
                      exact ⟨⟨i + 1, S', R, xs', N, by omega, rfl, by go_num, H4.out, HR5.out, HO4.out, by have := HT2.out.2; omega, by omega, HX4.out, HT2.out.1, by show _ ≤ _; have h8 := HO2'.out; have h9 := hlen.out; rw [HO1.out]; simp at h8; omega, hSX4, hRX⟩, by simp [intOf]; omega⟩
        · have d1 : decide (i < ln) = false := decide_eq_false hi
          obtain ⟨ys, hys⟩ : ∃ ys, ys = inC ⟨co, cu, cr⟩ xs := ⟨_, rfl⟩
          have hcov := cov_in ⟨co, cu, cr⟩ xs m ns now
          have hmet := meth_in ⟨co, cu, cr⟩ xs m now
          have hclr := clear_in ⟨co, cu, cr⟩ xs
          rw [← hys] at hwr hlen hcov hmet hclr
          have hyl : ys.length ≤ xs.length := by rw [hys]; exact List.length_filter_le _ _
          have nsl := fun W (hW : Ext [] wr.drew W) => HNS.out.keep ((ow.ext.drew).trans hW (by simp))
          have hdb : CO 64 wr.drew b S xs := hw.keep0 (Ext.refl [] wr).drew
          have hdr : CO 64 wr.drew r R ys := hwr.keep0 (Ext.refl [] wr).drew
          have a1 : ∀ W, Ext [] wr.drew W → Calls Try.prog 39 #[.pointer (some ⟨b, 0, none⟩), .agg #[.string co, .string cu, .bool cr], .string m, .slice na nn nc, .int .u64 now] W fun e w' => e = .returned (.bool (covM xs ⟨co, cu, cr⟩ m ns now)) ∧ Ext [] W w' := fun W hW => co_covers 64 b S xs ⟨co, cu, cr⟩ m hm na nn nc ns HSZ.out hnn now (by omega) W (hdb.keep0 hW) (nsl W hW)
          have a2 : ∀ W, Ext [] wr.drew W → Calls Try.prog 39 #[.pointer (some ⟨r, 0, none⟩), .agg #[.string co, .string cu, .bool cr], .string m, .slice na nn nc, .int .u64 now] W fun e w' => e = .returned (.bool (covM ys ⟨co, cu, cr⟩ m ns now)) ∧ Ext [] W w' := fun W hW => co_covers 64 r R ys ⟨co, cu, cr⟩ m hm na nn nc ns HSZ.out hnn now (by omega) W (hdr.keep0 hW) (nsl W hW)
          have a3 : ∀ W, Ext [] wr.drew W → Calls Try.prog 20 #[.pointer (some ⟨b, 0, none⟩), .agg #[.string co, .string cu, .bool cr], .string m, .int .u64 now] W fun e w' => e = .returned (.bool (methM xs ⟨co, cu, cr⟩ m now)) ∧ Ext [] W w' := fun W hW => co_method 64 b S xs ⟨co, cu, cr⟩ m now (by omega) W (hdb.keep0 hW)
          have a4 : ∀ W, Ext [] wr.drew W → Calls Try.prog 20 #[.pointer (some ⟨r, 0, none⟩), .agg #[.string co, .string cu, .bool cr], .string m, .int .u64 now] W fun e w' => e = .returned (.bool (methM ys ⟨co, cu, cr⟩ m now)) ∧ Ext [] W w' := fun W hW => co_method 64 r R ys ⟨co, cu, cr⟩ m now (by omega) W (hdr.keep0 hW)
          rw [hcov] at a1; rw [hmet] at a3
          generalize covM ys ⟨co, cu, cr⟩ m ns now = p1 at a1 a2
          generalize methM ys ⟨co, cu, cr⟩ m now = p2 at a3 a4
          obtain ⟨lx, hlx⟩ : ∃ l, l = xs.length := ⟨_, rfl⟩
          obtain ⟨ly, hly⟩ : ∃ l, l = ys.length := ⟨_, rfl⟩
          have a5 : ∀ W, Ext [] wr.drew W → Calls Try.prog 15 #[.pointer (some ⟨b, 0, none⟩)] W fun e w' => ∃ (a1 : Option Addr) (c1 : Nat), e = .returned (.slice a1 lx c1) ∧ Ext [] W w' := fun W hW => by rw [hlx]; exact (co_entries 64 b S xs (by omega) W (hdb.keep0 hW)).mono fun e w' ⟨a1, c1, g1, g2, g3, g4⟩ => ⟨a1, c1, g1, g3⟩
          have hne : ∀ x ∈ R, x ∉ S := fun x hx hs => ow.ne x hs hx
          have a6 : ∀ W, Ext S wr.drew W → Calls Try.prog 15 #[.pointer (some ⟨r, 0, none⟩)] W fun e w' => ∃ (a1 : Option Addr) (c1 : Nat), e = .returned (.slice a1 ly c1) ∧ Ext [] W w' := fun W hW => by rw [hly]; exact (co_entries 64 r R ys (by omega) W (hdr.keep hW hne)).mono fun e w' ⟨a1, c1, g1, g2, g3, g4⟩ => ⟨a1, c1, g1, g3⟩
          have a7 : ∀ W, Ext [] wr.drew W → Calls Try.prog 19 #[.pointer (some ⟨b, 0, none⟩), .agg #[.string co, .string cu, .bool cr]] W fun e w' => e = .returned (.int .i64 ly) ∧ Ext S W w' := fun W hW => by
            have := co_clear 64 b S xs ⟨co, cu, cr⟩ (by omega) W (hdb.keep0 hW)
            unfold DropP at this
            rw [hclr, ← hly] at this
            exact this.mono fun e w' ⟨g1, g2, g3⟩ => ⟨g1, g3⟩
          have hXS : X ∉ S := fun hm => hSX.out X hm rfl
          have hXd := hXw.drew
          have kx : ∀ W, Ext S wr.drew W → W.cell? ⟨X, 0, none⟩ = some (.string co) ∧ W.cell? ⟨X, 1, none⟩ = some (.string cu) ∧ W.cell? ⟨X, 2, none⟩ = some (.bool cr) := fun W hW => by
            have := hXd.keep hW hXS
            exact ⟨this.cell 0, this.cell 1, this.cell 2⟩
          have q0 : wr.drew.cell? ⟨X, 0, none⟩ = some (.string co) := hXd.cell 0
          have q1 : wr.drew.cell? ⟨X, 1, none⟩ = some (.string cu) := hXd.cell 1
          have q2 : wr.drew.cell? ⟨X, 2, none⟩ = some (.bool cr) := hXd.cell 2
          have hlen2 : lx ≤ ly + N := by rw [hlx, hly]; exact hlen.out
          have d2 : decide (lx ≤ ly + N) = true := decide_eq_true hlen2
          have d3 : decide ((lx : Int) ≤ (ly : Int) + (N : Int)) = true := decide_eq_true (by omega)
          have hsum : ly + N ≤ 1000000 := by omega
          have A1 := Lib.hid a1; have A2 := Lib.hid a2; have A3 := Lib.hid a3; have A4 := Lib.hid a4; have A5 := Lib.hid a5; have A6 := Lib.hid a6; have A7 := Lib.hid a7; have KX := Lib.hid kx; have HOW := Lib.hid ow
          clear a1 a2 a3 a4 a5 a6 a7 kx hXd hXw hw hwr ow hdb hdr nsl hys hcov hmet hclr hyl hlx hly hXS hne hlen htil hSX hRX hxl hlen2
          have hw64 := wrapNN hsum
          go_wp2_with fail
          refine start_ (n := 50) (S := fun w' => w'.cell? ⟨X, 0, none⟩ = some (.string co) ∧ w'.cell? ⟨X, 1, none⟩ = some (.string cu) ∧ w'.cell? ⟨X, 2, none⟩ = some (.bool cr)) (ds := []) #[false, false, false, false, false, false, false, false, false, false, false, false, false, false, false, false, false, false, false, false, false, false, false, false, false, false, false, false, false, false, false, false, false, false, false, false, false, false, false, false, false, false, false, false, false, false, false, false, false, false] (by kernel_rfl) rfl rfl ⟨q0, q1, q2⟩ (fun hHeld => ?_)
          refine pure_ (i := 0) (N := some 75) (v := ?_) (a' := ?_) #[true, false, false, false, false, false, false, false, false, false, false, false, false, false, false, false, false, false, false, false, false, false, false, false, false, false, false, false, false, false, false, false, false, false, false, false, false, false, false, false, false, false, false, false, false, false, false, false, false, false] rfl rfl (by kernel_rfl) (fun _ _ _ h => h) (Or.inl ⟨by rfl, ?_⟩) ?_ ?_
          rotate_left
          · intro w'
            go_simp
            with_reducible rfl
          rotate_left
          · simp only [Act.put, List.setIfInBounds_toArray, List.set_cons_zero, List.set_cons_succ, i64_w, i32_w]
            rfl
          refine pure_ (i := 2) (N := some 77) (v := ?_) (a' := ?_) #[true, false, true, false, false, false, false, false, false, false, false, false, false, false, false, false, false, false, false, false, false, false, false, false, false, false, false, false, false, false, false, false, false, false, false, false, false, false, false, false, false, false, false, false, false, false, false, false, false, false] rfl rfl (by kernel_rfl) (fun _ _ _ h => h) (Or.inl ⟨by rfl, ?_⟩) ?_ ?_
          rotate_left
          · intro w'
            go_simp
            with_reducible rfl
          rotate_left
          · simp only [Act.put, List.setIfInBounds_toArray, List.set_cons_zero, List.set_cons_succ, i64_w, i32_w]
            rfl
          refine pure_ (i := 3) (N := some 78) (v := ?_) (a' := ?_) #[true, false, true, true, false, false, false, false, false, false, false, false, false, false, false, false, false, false, false, false, false, false, false, false, false, false, false, false, false, false, false, false, false, false, false, false, false, false, false, false, false, false, false, false, false, false, false, false, false, false] rfl rfl (by kernel_rfl) (fun _ _ _ h => h) (Or.inl ⟨by rfl, ?_⟩) ?_ ?_
          rotate_left
          · intro w'
            go_simp
            with_reducible rfl
          rotate_left
          · simp only [Act.put, List.setIfInBounds_toArray, List.set_cons_zero, List.set_cons_succ, i64_w, i32_w]
            rfl
          refine pure_ (i := 4) (N := some 79) (v := ?_) (a' := ?_) #[true, false, true, true, true, false, false, false, false, false, false, false, false, false, false, false, false, false, false, false, false, false, false, false, false, false, false, false, false, false, false, false, false, false, false, false, false, false, false, false, false, false, false, false, false, false, false, false, false, false] rfl rfl (by kernel_rfl) (fun _ _ _ h => h) (Or.inl ⟨by rfl, ?_⟩) ?_ ?_
          rotate_left
          · intro w'
            go_simp
            with_reducible rfl
          rotate_left
          · simp only [Act.put, List.setIfInBounds_toArray, List.set_cons_zero, List.set_cons_succ, i64_w, i32_w]
            rfl
          refine pure_ (i := 6) (N := some 81) (v := ?_) (a' := ?_) #[true, false, true, true, true, false, true, false, false, false, false, false, false, false, false, false, false, false, false, false, false, false, false, false, false, false, false, false, false, false, false, false, false, false, false, false, false, false, false, false, false, false, false, false, false, false, false, false, false, false] rfl rfl (by kernel_rfl) (fun _ _ _ h => h) (Or.inl ⟨by rfl, ?_⟩) ?_ ?_
          rotate_left
          · intro w'
            go_simp
            with_reducible rfl
          rotate_left
          · simp only [Act.put, List.setIfInBounds_toArray, List.set_cons_zero, List.set_cons_succ, i64_w, i32_w]
            rfl
          refine pure_ (i := 8) (N := some 83) (v := ?_) (a' := ?_) #[true, false, true, true, true, false, true, false, true, false, false, false, false, false, false, false, false, false, false, false, false, false, false, false, false, false, false, false, false, false, false, false, false, false, false, false, false, false, false, false, false, false, false, false, false, false, false, false, false, false] rfl rfl (by kernel_rfl) (fun _ _ _ h => h) (Or.inl ⟨by rfl, ?_⟩) ?_ ?_
          rotate_left
          · intro w'
            go_simp
            with_reducible rfl
          rotate_left
          · simp only [Act.put, List.setIfInBounds_toArray, List.set_cons_zero, List.set_cons_succ, i64_w, i32_w]
            rfl
          refine pure_ (i := 9) (N := some 84) (v := ?_) (a' := ?_) #[true, false, true, true, true, false, true, false, true, true, false, false, false, false, false, false, false, false, false, false, false, false, false, false, false, false, false, false, false, false, false, false, false, false, false, false, false, false, false, false, false, false, false, false, false, false, false, false, false, false] rfl rfl (by kernel_rfl) (fun _ _ _ h => h) (Or.inl ⟨by rfl, ?_⟩) ?_ ?_
          rotate_left
          · intro w'
            go_simp
            with_reducible rfl
          rotate_left
          · simp only [Act.put, List.setIfInBounds_toArray, List.set_cons_zero, List.set_cons_succ, i64_w, i32_w]
            rfl
          refine pure_ (i := 10) (N := some 85) (v := ?_) (a' := ?_) #[true, false, true, true, true, false, true, false, true, true, true, false, false, false, false, false, false, false, false, false, false, false, false, false, false, false, false, false, false, false, false, false, false, false, false, false, false, false, false, false, false, false, false, false, false, false, false, false, false, false] rfl rfl (by kernel_rfl) (fun _ _ _ h => h) (Or.inl ⟨by rfl, ?_⟩) ?_ ?_
          rotate_left
          · intro w'
            go_simp
            with_reducible rfl
          rotate_left
          · simp only [Act.put, List.setIfInBounds_toArray, List.set_cons_zero, List.set_cons_succ, i64_w, i32_w]
            rfl
          refine take_ (i := 1) (N := some 76) (v := ?_) (a' := ?_) #[true, true, true, true, true, false, true, false, true, true, true, false, false, false, false, false, false, false, false, false, false, false, false, false, false, false, false, false, false, false, false, false, false, false, false, false, false, false, false, false, false, false, false, false, false, false, false, false, false, false] rfl rfl (by kernel_rfl) (fun _ _ _ h => h) (Or.inl ⟨by rfl, ?_⟩) hHeld ?_ ?_
          rotate_left
          · rintro w' ⟨s0, s1, s2⟩
            go_simp
            with_reducible rfl
          rotate_left
          · simp only [Act.put, List.setIfInBounds_toArray, List.set_cons_zero, List.set_cons_succ, i64_w, i32_w]
            rfl
          refine take_ (i := 7) (N := some 82) (v := ?_) (a' := ?_) #[true, true, true, true, true, false, true, true, true, true, true, false, false, false, false, false, false, false, false, false, false, false, false, false, false, false, false, false, false, false, false, false, false, false, false, false, false, false, false, false, false, false, false, false, false, false, false, false, false, false] rfl rfl (by kernel_rfl) (fun _ _ _ h => h) (Or.inl ⟨by rfl, ?_⟩) hHeld ?_ ?_
          rotate_left
          · rintro w' ⟨s0, s1, s2⟩
            go_simp
            with_reducible rfl
          rotate_left
          · simp only [Act.put, List.setIfInBounds_toArray, List.set_cons_zero, List.set_cons_succ, i64_w, i32_w]
            rfl
          refine one_ (i := 5) (N := some 80) #[true, true, true, true, true, true, true, true, true, true, true, false, false, false, false, false, false, false, false, false, false, false, false, false, false, false, false, false, false, false, false, false, false, false, false, false, false, false, false, false, false, false, false, false, false, false, false, false, false, false] rfl rfl (by kernel_rfl) (by decide) (fun K hK => ?_)
          refine goes_ Try.func39 (by kernel_rfl) rfl #[.pointer (some ⟨b, 0, none⟩), .agg #[.string co, .string cu, .bool cr], .string m, .slice na nn nc, .int .u64 now] (by rfl) rfl rfl (by simp only [List.map_toArray, List.map_cons, List.map_nil]; rfl) ?_
          with_reducible refine (A1.out _ (Ext.refl [] wr.drew)).mono ?_
          rintro e w3 ⟨rfl, f3⟩
          refine ⟨_, rfl, ?_⟩
          have e3 := (Ext.refl [] wr.drew).trans f3 (by simp)
          have m3 : Ext S wr.drew w3 := e3.mono (by simp)
          refine hK.out _ _ ⟨(KX.out _ m3).1, (KX.out _ m3).2.1, (KX.out _ m3).2.2⟩ (fun hHeld => ?_)
          clear hK K
          refine norm_ (a' := ?_) ?_ ?_
          rotate_left
          · show Act.put _ (some 80) _ = _
            simp only [Act.put, List.setIfInBounds_toArray, List.set_cons_zero, List.set_cons_succ, i64_w, i32_w]
            rfl
          refine one_ (i := 11) (N := some 86) #[true, true, true, true, true, true, true, true, true, true, true, true, false, false, false, false, false, false, false, false, false, false, false, false, false, false, false, false, false, false, false, false, false, false, false, false, false, false, false, false, false, false, false, false, false, false, false, false, false, false] rfl rfl (by kernel_rfl) (by decide) (fun K hK => ?_)
          refine goes_ Try.func39 (by kernel_rfl) rfl #[.pointer (some ⟨r, 0, none⟩), .agg #[.string co, .string cu, .bool cr], .string m, .slice na nn nc, .int .u64 now] (by rfl) rfl rfl (by simp only [List.map_toArray, List.map_cons, List.map_nil]; rfl) ?_
          with_reducible refine (A2.out _ e3).mono ?_
          rintro e w4 ⟨rfl, f4⟩
          refine ⟨_, rfl, ?_⟩
          have e4 := e3.trans f4 (by simp)
          have m4 : Ext S wr.drew w4 := e4.mono (by simp)
          refine hK.out _ _ ⟨(KX.out _ m4).1, (KX.out _ m4).2.1, (KX.out _ m4).2.2⟩ (fun hHeld => ?_)
          clear hK K
          refine norm_ (a' := ?_) ?_ ?_
          rotate_left
          · show Act.put _ (some 86) _ = _
            simp only [Act.put, List.setIfInBounds_toArray, List.set_cons_zero, List.set_cons_succ, i64_w, i32_w]
            rfl
          refine pure_ (i := 12) (N := some 87) (v := ?_) (a' := ?_) #[true, true, true, true, true, true, true, true, true, true, true, true, true, false, false, false, false, false, false, false, false, false, false, false, false, false, false, false, false, false, false, false, false, false, false, false, false, false, false, false, false, false, false, false, false, false, false, false, false, false] rfl rfl (by kernel_rfl) (fun _ _ _ h => h) (Or.inl ⟨by rfl, ?_⟩) ?_ ?_
          rotate_left
          · intro w'
            go_simp
            with_reducible rfl
          rotate_left
          · simp only [Act.put, List.setIfInBounds_toArray, List.set_cons_zero, List.set_cons_succ, i64_w, i32_w]
            rfl
          refine pure_ (i := 13) (N := some 88) (v := ?_) (a' := ?_) #[true, true, true, true, true, true, true, true, true, true, true, true, true, true, false, false, false, false, false, false, false, false, false, false, false, false, false, false, false, false, false, false, false, false, false, false, false, false, false, false, false, false, false, false, false, false, false, false, false, false] rfl rfl (by kernel_rfl) (fun _ _ _ h => h) (Or.inl ⟨by rfl, ?_⟩) ?_ ?_
          rotate_left
          · intro w'
            go_simp
            with_reducible rfl
          rotate_left
          · simp only [Act.put, List.setIfInBounds_toArray, List.set_cons_zero, List.set_cons_succ, i64_w, i32_w]
            rfl
          refine pure_ (i := 14) (N := some 89) (v := ?_) (a' := ?_) #[true, true, true, true, true, true, true, true, true, true, true, true, true, true, true, false, false, false, false, false, false, false, false, false, false, false, false, false, false, false, false, false, false, false, false, false, false, false, false, false, false, false, false, false, false, false, false, false, false, false] rfl rfl (by kernel_rfl) (fun _ _ _ h => h) (Or.inl ⟨by rfl, ?_⟩) ?_ ?_
          rotate_left
          · intro w'
            go_simp
            with_reducible rfl
          rotate_left
          · simp only [Act.put, List.setIfInBounds_toArray, List.set_cons_zero, List.set_cons_succ, i64_w, i32_w]
            rfl
          refine pure_ (i := 16) (N := some 91) (v := ?_) (a' := ?_) #[true, true, true, true, true, true, true, true, true, true, true, true, true, true, true, false, true, false, false, false, false, false, false, false, false, false, false, false, false, false, false, false, false, false, false, false, false, false, false, false, false, false, false, false, false, false, false, false, false, false] rfl rfl (by kernel_rfl) (fun _ _ _ h => h) (Or.inl ⟨by rfl, ?_⟩) ?_ ?_
          rotate_left
          · intro w'
            go_simp
            with_reducible rfl
          rotate_left
          · simp only [Act.put, List.setIfInBounds_toArray, List.set_cons_zero, List.set_cons_succ, i64_w, i32_w]
            rfl
          refine pure_ (i := 17) (N := some 92) (v := ?_) (a' := ?_) #[true, true, true, true, true, true, true, true, true, true, true, true, true, true, true, false, true, true, false, false, false, false, false, false, false, false, false, false, false, false, false, false, false, false, false, false, false, false, false, false, false, false, false, false, false, false, false, false, false, false] rfl rfl (by kernel_rfl) (fun _ _ _ h => h) (Or.inl ⟨by rfl, ?_⟩) ?_ ?_
          rotate_left
          · intro w'
            go_simp
            with_reducible rfl
          rotate_left
          · simp only [Act.put, List.setIfInBounds_toArray, List.set_cons_zero, List.set_cons_succ, i64_w, i32_w]
            rfl
          refine pure_ (i := 19) (N := some 94) (v := ?_) (a' := ?_) #[true, true, true, true, true, true, true, true, true, true, true, true, true, true, true, false, true, true, false, true, false, false, false, false, false, false, false, false, false, false, false, false, false, false, false, false, false, false, false, false, false, false, false, false, false, false, false, false, false, false] rfl rfl (by kernel_rfl) (fun _ _ _ h => h) (Or.inl ⟨by rfl, ?_⟩) ?_ ?_
          rotate_left
          · intro w'
            go_simp
            with_reducible rfl
          rotate_left
          · simp only [Act.put, List.setIfInBounds_toArray, List.set_cons_zero, List.set_cons_succ, i64_w, i32_w]
            rfl
          refine pure_ (i := 21) (N := some 96) (v := ?_) (a' := ?_) #[true, true, true, true, true, true, true, true, true, true, true, true, true, true, true, false, true, true, false, true, false, true, false, false, false, false, false, false, false, false, false, false, false, false, false, false, false, false, false, false, false, false, false, false, false, false, false, false, false, false] rfl rfl (by kernel_rfl) (fun _ _ _ h => h) (Or.inl ⟨by rfl, ?_⟩) ?_ ?_
          rotate_left
          · intro w'
            go_simp
            with_reducible rfl
          rotate_left
          · simp only [Act.put, List.setIfInBounds_toArray, List.set_cons_zero, List.set_cons_succ, i64_w, i32_w]
            rfl
          refine pure_ (i := 22) (N := some 97) (v := ?_) (a' := ?_) #[true, true, true, true, true, true, true, true, true, true, true, true, true, true, true, false, true, true, false, true, false, true, true, false, false, false, false, false, false, false, false, false, false, false, false, false, false, false, false, false, false, false, false, false, false, false, false, false, false, false] rfl rfl (by kernel_rfl) (fun _ _ _ h => h) (Or.inl ⟨by rfl, ?_⟩) ?_ ?_
          rotate_left
          · intro w'
            go_simp
            with_reducible rfl
          rotate_left
          · simp only [Act.put, List.setIfInBounds_toArray, List.set_cons_zero, List.set_cons_succ, i64_w, i32_w]
            rfl
          refine take_ (i := 15) (N := some 90) (v := ?_) (a' := ?_) #[true, true, true, true, true, true, true, true, true, true, true, true, true, true, true, true, true, true, false, true, false, true, true, false, false, false, false, false, false, false, false, false, false, false, false, false, false, false, false, false, false, false, false, false, false, false, false, false, false, false] rfl rfl (by kernel_rfl) (fun _ _ _ h => h) (Or.inl ⟨by rfl, ?_⟩) hHeld ?_ ?_
          rotate_left
          · rintro w' ⟨s0, s1, s2⟩
            go_simp
            with_reducible rfl
          rotate_left
          · simp only [Act.put, List.setIfInBounds_toArray, List.set_cons_zero, List.set_cons_succ, i64_w, i32_w]
            rfl
          refine take_ (i := 20) (N := some 95) (v := ?_) (a' := ?_) #[true, true, true, true, true, true, true, true, true, true, true, true, true, true, true, true, true, true, false, true, true, true, true, false, false, false, false, false, false, false, false, false, false, false, false, false, false, false, false, false, false, false, false, false, false, false, false, false, false, false] rfl rfl (by kernel_rfl) (fun _ _ _ h => h) (Or.inl ⟨by rfl, ?_⟩) hHeld ?_ ?_
          rotate_left
          · rintro w' ⟨s0, s1, s2⟩
            go_simp
            with_reducible rfl
          rotate_left
          · simp only [Act.put, List.setIfInBounds_toArray, List.set_cons_zero, List.set_cons_succ, i64_w, i32_w]
            rfl
          refine one_ (i := 18) (N := some 93) #[true, true, true, true, true, true, true, true, true, true, true, true, true, true, true, true, true, true, true, true, true, true, true, false, false, false, false, false, false, false, false, false, false, false, false, false, false, false, false, false, false, false, false, false, false, false, false, false, false, false] rfl rfl (by kernel_rfl) (by decide) (fun K hK => ?_)
          refine goes_ Try.func20 (by kernel_rfl) rfl #[.pointer (some ⟨b, 0, none⟩), .agg #[.string co, .string cu, .bool cr], .string m, .int .u64 now] (by rfl) rfl rfl (by simp only [List.map_toArray, List.map_cons, List.map_nil]; rfl) ?_
          with_reducible refine (A3.out _ e4).mono ?_
          rintro e w5 ⟨rfl, f5⟩
          refine ⟨_, rfl, ?_⟩
          have e5 := e4.trans f5 (by simp)
          have m5 : Ext S wr.drew w5 := e5.mono (by simp)
          refine hK.out _ _ ⟨(KX.out _ m5).1, (KX.out _ m5).2.1, (KX.out _ m5).2.2⟩ (fun hHeld => ?_)
          clear hK K
          refine norm_ (a' := ?_) ?_ ?_
          rotate_left
          · show Act.put _ (some 93) _ = _
            simp only [Act.put, List.setIfInBounds_toArray, List.set_cons_zero, List.set_cons_succ, i64_w, i32_w]
            rfl
          refine one_ (i := 23) (N := some 98) #[true, true, true, true, true, true, true, true, true, true, true, true, true, true, true, true, true, true, true, true, true, true, true, true, false, false, false, false, false, false, false, false, false, false, false, false, false, false, false, false, false, false, false, false, false, false, false, false, false, false] rfl rfl (by kernel_rfl) (by decide) (fun K hK => ?_)
          refine goes_ Try.func20 (by kernel_rfl) rfl #[.pointer (some ⟨r, 0, none⟩), .agg #[.string co, .string cu, .bool cr], .string m, .int .u64 now] (by rfl) rfl rfl (by simp only [List.map_toArray, List.map_cons, List.map_nil]; rfl) ?_
          with_reducible refine (A4.out _ e5).mono ?_
          rintro e w6 ⟨rfl, f6⟩
          refine ⟨_, rfl, ?_⟩
          have e6 := e5.trans f6 (by simp)
          have m6 : Ext S wr.drew w6 := e6.mono (by simp)
          refine hK.out _ _ ⟨(KX.out _ m6).1, (KX.out _ m6).2.1, (KX.out _ m6).2.2⟩ (fun hHeld => ?_)
          clear hK K
          refine norm_ (a' := ?_) ?_ ?_
          rotate_left
          · show Act.put _ (some 98) _ = _
            simp only [Act.put, List.setIfInBounds_toArray, List.set_cons_zero, List.set_cons_succ, i64_w, i32_w]
            rfl
          refine pure_ (i := 24) (N := some 99) (v := ?_) (a' := ?_) #[true, true, true, true, true, true, true, true, true, true, true, true, true, true, true, true, true, true, true, true, true, true, true, true, true, false, false, false, false, false, false, false, false, false, false, false, false, false, false, false, false, false, false, false, false, false, false, false, false, false] rfl rfl (by kernel_rfl) (fun _ _ _ h => h) (Or.inl ⟨by rfl, ?_⟩) ?_ ?_
          rotate_left
          · intro w'
            go_simp
            with_reducible rfl
          rotate_left
          · simp only [Act.put, List.setIfInBounds_toArray, List.set_cons_zero, List.set_cons_succ, i64_w, i32_w]
            rfl
          refine pure_ (i := 25) (N := some 100) (v := ?_) (a' := ?_) #[true, true, true, true, true, true, true, true, true, true, true, true, true, true, true, true, true, true, true, true, true, true, true, true, true, true, false, false, false, false, false, false, false, false, false, false, false, false, false, false, false, false, false, false, false, false, false, false, false, false] rfl rfl (by kernel_rfl) (fun _ _ _ h => h) (Or.inl ⟨by rfl, ?_⟩) ?_ ?_
          rotate_left
          · intro w'
            go_simp
            with_reducible rfl
          rotate_left
          · simp only [Act.put, List.setIfInBounds_toArray, List.set_cons_zero, List.set_cons_succ, i64_w, i32_w]
            rfl
          refine pure_ (i := 26) (N := some 101) (v := ?_) (a' := ?_) #[true, true, true, true, true, true, true, true, true, true, true, true, true, true, true, true, true, true, true, true, true, true, true, true, true, true, true, false, false, false, false, false, false, false, false, false, false, false, false, false, false, false, false, false, false, false, false, false, false, false] rfl rfl (by kernel_rfl) (fun _ _ _ h => h) (Or.inl ⟨by rfl, ?_⟩) ?_ ?_
          rotate_left
          · intro w'
            go_simp
            with_reducible rfl
          rotate_left
          · simp only [Act.put, List.setIfInBounds_toArray, List.set_cons_zero, List.set_cons_succ, i64_w, i32_w]
            rfl
          refine pure_ (i := 27) (N := some 102) (v := ?_) (a' := ?_) #[true, true, true, true, true, true, true, true, true, true, true, true, true, true, true, true, true, true, true, true, true, true, true, true, true, true, true, true, false, false, false, false, false, false, false, false, false, false, false, false, false, false, false, false, false, false, false, false, false, false] rfl rfl (by kernel_rfl) (fun _ _ _ h => h) (Or.inl ⟨by rfl, ?_⟩) ?_ ?_
          rotate_left
          · intro w'
            go_simp
            with_reducible rfl
          rotate_left
          · simp only [Act.put, List.setIfInBounds_toArray, List.set_cons_zero, List.set_cons_succ, i64_w, i32_w]
            rfl
          refine pure_ (i := 30) (N := some 105) (v := ?_) (a' := ?_) #[true, true, true, true, true, true, true, true, true, true, true, true, true, true, true, true, true, true, true, true, true, true, true, true, true, true, true, true, false, false, true, false, false, false, false, false, false, false, false, false, false, false, false, false, false, false, false, false, false, false] rfl rfl (by kernel_rfl) (fun _ _ _ h => h) (Or.inl ⟨by rfl, ?_⟩) ?_ ?_
          rotate_left
          · intro w'
            go_simp
            with_reducible rfl
          rotate_left
          · simp only [Act.put, List.setIfInBounds_toArray, List.set_cons_zero, List.set_cons_succ, i64_w, i32_w]
            rfl
          refine pure_ (i := 33) (N := some 108) (v := ?_) (a' := ?_) #[true, true, true, true, true, true, true, true, true, true, true, true, true, true, true, true, true, true, true, true, true, true, true, true, true, true, true, true, false, false, true, false, false, true, false, false, false, false, false, false, false, false, false, false, false, false, false, false, false, false] rfl rfl (by kernel_rfl) (fun _ _ _ h => h) (Or.inl ⟨by rfl, ?_⟩) ?_ ?_
          rotate_left
          · intro w'
            go_simp
            with_reducible rfl
          rotate_left
          · simp only [Act.put, List.setIfInBounds_toArray, List.set_cons_zero, List.set_cons_succ, i64_w, i32_w]
            rfl
          refine one_ (i := 28) (N := some 103) #[true, true, true, true, true, true, true, true, true, true, true, true, true, true, true, true, true, true, true, true, true, true, true, true, true, true, true, true, true, false, true, false, false, true, false, false, false, false, false, false, false, false, false, false, false, false, false, false, false, false] rfl rfl (by kernel_rfl) (by decide) (fun K hK => ?_)
          refine goes_ Try.func15 (by kernel_rfl) rfl #[.pointer (some ⟨b, 0, none⟩)] (by rfl) rfl rfl (by simp only [List.map_toArray, List.map_cons, List.map_nil]; rfl) ?_
          with_reducible refine (A5.out _ e6).mono ?_
          rintro e w7 ⟨a7, c7, rfl, f7⟩
          refine ⟨_, rfl, ?_⟩
          have e7 := e6.trans f7 (by simp)
          have m7 : Ext S wr.drew w7 := e7.mono (by simp)
          refine hK.out _ _ ⟨(KX.out _ m7).1, (KX.out _ m7).2.1, (KX.out _ m7).2.2⟩ (fun hHeld => ?_)
          clear hK K
          refine norm_ (a' := ?_) ?_ ?_
          rotate_left
          · show Act.put _ (some 103) _ = _
            simp only [Act.put, List.setIfInBounds_toArray, List.set_cons_zero, List.set_cons_succ, i64_w, i32_w]
            rfl
          refine pure_ (i := 29) (N := some 104) (v := ?_) (a' := ?_) #[true, true, true, true, true, true, true, true, true, true, true, true, true, true, true, true, true, true, true, true, true, true, true, true, true, true, true, true, true, true, true, false, false, true, false, false, false, false, false, false, false, false, false, false, false, false, false, false, false, false] rfl rfl (by kernel_rfl) (fun _ _ _ h => h) (Or.inl ⟨by rfl, ?_⟩) ?_ ?_
          rotate_left
          · intro w'
            go_simp
            with_reducible rfl
          rotate_left
          · simp only [Act.put, List.setIfInBounds_toArray, List.set_cons_zero, List.set_cons_succ, i64_w, i32_w]
            rfl
          refine one_ (i := 31) (N := some 106) #[true, true, true, true, true, true, true, true, true, true, true, true, true, true, true, true, true, true, true, true, true, true, true, true, true, true, true, true, true, true, true, true, false, true, false, false, false, false, false, false, false, false, false, false, false, false, false, false, false, false] rfl rfl (by kernel_rfl) (by decide) (fun K hK => ?_)
          refine goes_ Try.func15 (by kernel_rfl) rfl #[.pointer (some ⟨r, 0, none⟩)] (by rfl) rfl rfl (by simp only [List.map_toArray, List.map_cons, List.map_nil]; rfl) ?_
          with_reducible refine (A6.out _ m7).mono ?_
          rintro e w8 ⟨a8, c8, rfl, f8⟩
          refine ⟨_, rfl, ?_⟩
          have e8 := e7.trans f8 (by simp)
          have m8 : Ext S wr.drew w8 := e8.mono (by simp)
          refine hK.out _ _ ⟨(KX.out _ m8).1, (KX.out _ m8).2.1, (KX.out _ m8).2.2⟩ (fun hHeld => ?_)
          clear hK K
          refine norm_ (a' := ?_) ?_ ?_
          rotate_left
          · show Act.put _ (some 106) _ = _
            simp only [Act.put, List.setIfInBounds_toArray, List.set_cons_zero, List.set_cons_succ, i64_w, i32_w]
            rfl
          refine pure_ (i := 32) (N := some 107) (v := ?_) (a' := ?_) #[true, true, true, true, true, true, true, true, true, true, true, true, true, true, true, true, true, true, true, true, true, true, true, true, true, true, true, true, true, true, true, true, true, true, false, false, false, false, false, false, false, false, false, false, false, false, false, false, false, false] rfl rfl (by kernel_rfl) (fun _ _ _ h => h) (Or.inl ⟨by rfl, ?_⟩) ?_ ?_
          rotate_left
          · intro w'
            go_simp
            with_reducible rfl
          rotate_left
          · simp only [Act.put, List.setIfInBounds_toArray, List.set_cons_zero, List.set_cons_succ, i64_w, i32_w]
            rfl
          refine pure_ (i := 34) (N := some 109) (v := ?_) (a' := ?_) #[true, true, true, true, true, true, true, true, true, true, true, true, true, true, true, true, true, true, true, true, true, true, true, true, true, true, true, true, true, true, true, true, true, true, true, false, false, false, false, false, false, false, false, false, false, false, false, false, false, false] rfl rfl (by kernel_rfl) (fun _ _ _ h => h) (Or.inl ⟨by rfl, ?_⟩) ?_ ?_
          rotate_left
          · intro w'
            go_simp
            with_reducible rfl
          rotate_left
          · simp only [Act.put, List.setIfInBounds_toArray, List.set_cons_zero, List.set_cons_succ, i64_w, i32_w]
            rfl
          refine pure_ (i := 35) (N := some 110) (v := ?_) (a' := ?_) #[true, true, true, true, true, true, true, true, true, true, true, true, true, true, true, true, true, true, true, true, true, true, true, true, true, true, true, true, true, true, true, true, true, true, true, true, false, false, false, false, false, false, false, false, false, false, false, false, false, false] rfl rfl (by kernel_rfl) (fun _ _ _ h => h) (Or.inl ⟨by rfl, ?_⟩) ?_ ?_
          rotate_left
          · intro w'
            go_simp
            with_reducible rfl
          rotate_left
          · simp only [Act.put, List.setIfInBounds_toArray, List.set_cons_zero, List.set_cons_succ, i64_w, i32_w]
            rfl
          refine pure_ (i := 36) (N := some 111) (v := ?_) (a' := ?_) #[true, true, true, true, true, true, true, true, true, true, true, true, true, true, true, true, true, true, true, true, true, true, true, true, true, true, true, true, true, true, true, true, true, true, true, true, true, false, false, false, false, false, false, false, false, false, false, false, false, false] rfl rfl (by kernel_rfl) (fun _ _ _ h => h) (Or.inl ⟨by rfl, ?_⟩) ?_ ?_
          rotate_left
          · intro w'
            go_simp
            with_reducible rfl
          rotate_left
          · simp only [Act.put, List.setIfInBounds_toArray, List.set_cons_zero, List.set_cons_succ, i64_w, i32_w]
            rfl
          refine pure_ (i := 37) (N := some 112) (v := ?_) (a' := ?_) #[true, true, true, true, true, true, true, true, true, true, true, true, true, true, true, true, true, true, true, true, true, true, true, true, true, true, true, true, true, true, true, true, true, true, true, true, true, true, false, false, false, false, false, false, false, false, false, false, false, false] rfl rfl (by kernel_rfl) (fun _ _ _ h => h) (Or.inl ⟨by rfl, ?_⟩) ?_ ?_
          rotate_left
          · intro w'
            go_simp
            with_reducible rfl
          rotate_left
          · simp only [Act.put, List.setIfInBounds_toArray, List.set_cons_zero, List.set_cons_succ, i64_w, i32_w]
            rfl
          refine pure_ (i := 38) (N := some 113) (v := ?_) (a' := ?_) #[true, true, true, true, true, true, true, true, true, true, true, true, true, true, true, true, true, true, true, true, true, true, true, true, true, true, true, true, true, true, true, true, true, true, true, true, true, true, true, false, false, false, false, false, false, false, false, false, false, false] rfl rfl (by kernel_rfl) (fun _ _ _ h => h) (Or.inl ⟨by rfl, ?_⟩) ?_ ?_
          rotate_left
          · intro w'
            go_simp
            with_reducible rfl
          rotate_left
          · simp only [Act.put, List.setIfInBounds_toArray, List.set_cons_zero, List.set_cons_succ, i64_w, i32_w]
            rfl
          refine pure_ (i := 41) (N := some 116) (v := ?_) (a' := ?_) #[true, true, true, true, true, true, true, true, true, true, true, true, true, true, true, true, true, true, true, true, true, true, true, true, true, true, true, true, true, true, true, true, true, true, true, true, true, true, true, false, false, true, false, false, false, false, false, false, false, false] rfl rfl (by kernel_rfl) (fun _ _ _ h => h) (Or.inl ⟨by rfl, ?_⟩) ?_ ?_
          rotate_left
          · intro w'
            go_simp
            with_reducible rfl
          rotate_left
          · simp only [Act.put, List.setIfInBounds_toArray, List.set_cons_zero, List.set_cons_succ, i64_w, i32_w]
            rfl
          refine take_ (i := 39) (N := some 114) (v := ?_) (a' := ?_) #[true, true, true, true, true, true, true, true, true, true, true, true, true, true, true, true, true, true, true, true, true, true, true, true, true, true, true, true, true, true, true, true, true, true, true, true, true, true, true, true, false, true, false, false, false, false, false, false, false, false] rfl rfl (by kernel_rfl) (fun _ _ _ h => h) (Or.inl ⟨by rfl, ?_⟩) hHeld ?_ ?_
          rotate_left
          · rintro w' ⟨s0, s1, s2⟩
            go_simp
            with_reducible rfl
          rotate_left
          · simp only [Act.put, List.setIfInBounds_toArray, List.set_cons_zero, List.set_cons_succ, i64_w, i32_w]
            rfl
          refine one_ (i := 40) (N := some 115) #[true, true, true, true, true, true, true, true, true, true, true, true, true, true, true, true, true, true, true, true, true, true, true, true, true, true, true, true, true, true, true, true, true, true, true, true, true, true, true, true, true, true, false, false, false, false, false, false, false, false] rfl rfl (by kernel_rfl) (by decide) (fun K hK => ?_)
          refine goes_ Try.func19 (by kernel_rfl) rfl #[.pointer (some ⟨b, 0, none⟩), .agg #[.string co, .string cu, .bool cr]] (by rfl) rfl rfl (by simp only [List.map_toArray, List.map_cons, List.map_nil]; rfl) ?_
          with_reducible refine (A7.out _ e8).mono ?_
          rintro e w9 ⟨rfl, f9⟩
          refine ⟨_, rfl, ?_⟩
          have m9 : Ext S wr.drew w9 := m8.trans f9 (fun x hx => .inl hx)
          refine hK.out _ _ ⟨(KX.out _ m9).1, (KX.out _ m9).2.1, (KX.out _ m9).2.2⟩ (fun hHeld => ?_)
          clear hK K
          refine norm_ (a' := ?_) ?_ ?_
          rotate_left
          · show Act.put _ (some 115) _ = _
            simp only [Act.put, List.setIfInBounds_toArray, List.set_cons_zero, List.set_cons_succ, i64_w, i32_w]
            rfl
          refine one_ (i := 42) (N := some 117) #[true, true, true, true, true, true, true, true, true, true, true, true, true, true, true, true, true, true, true, true, true, true, true, true, true, true, true, true, true, true, true, true, true, true, true, true, true, true, true, true, true, true, true, false, false, false, false, false, false, false] rfl rfl (by kernel_rfl) (by decide) (fun K hK => ?_)
          refine goes_ Try.func15 (by kernel_rfl) rfl #[.pointer (some ⟨r, 0, none⟩)] (by rfl) rfl rfl (by simp only [List.map_toArray, List.map_cons, List.map_nil]; rfl) ?_
          with_reducible refine (A6.out _ m9).mono ?_
          rintro e w10 ⟨a10, c10, rfl, f10⟩
          refine ⟨_, rfl, ?_⟩
          have m10 : Ext S wr.drew w10 := m9.trans f10 (by simp)
          refine hK.out _ _ ⟨(KX.out _ m10).1, (KX.out _ m10).2.1, (KX.out _ m10).2.2⟩ (fun hHeld => ?_)
          clear hK K
          refine norm_ (a' := ?_) ?_ ?_
          rotate_left
          · show Act.put _ (some 117) _ = _
            simp only [Act.put, List.setIfInBounds_toArray, List.set_cons_zero, List.set_cons_succ, i64_w, i32_w]
            rfl
          refine pure_ (i := 43) (N := some 118) (v := ?_) (a' := ?_) #[true, true, true, true, true, true, true, true, true, true, true, true, true, true, true, true, true, true, true, true, true, true, true, true, true, true, true, true, true, true, true, true, true, true, true, true, true, true, true, true, true, true, true, true, false, false, false, false, false, false] rfl rfl (by kernel_rfl) (fun _ _ _ h => h) (Or.inl ⟨by rfl, ?_⟩) ?_ ?_
          rotate_left
          · intro w'
            go_simp
            with_reducible rfl
          rotate_left
          · simp only [Act.put, List.setIfInBounds_toArray, List.set_cons_zero, List.set_cons_succ, i64_w, i32_w]
            rfl
          refine pure_ (i := 44) (N := some 119) (v := ?_) (a' := ?_) #[true, true, true, true, true, true, true, true, true, true, true, true, true, true, true, true, true, true, true, true, true, true, true, true, true, true, true, true, true, true, true, true, true, true, true, true, true, true, true, true, true, true, true, true, true, false, false, false, false, false] rfl rfl (by kernel_rfl) (fun _ _ _ h => h) (Or.inl ⟨by rfl, ?_⟩) ?_ ?_
          rotate_left
          · intro w'
            go_simp
            with_reducible rfl
          rotate_left
          · simp only [Act.put, List.setIfInBounds_toArray, List.set_cons_zero, List.set_cons_succ, i64_w, i32_w]
            rfl
          refine pure_ (i := 45) (N := some 120) (v := ?_) (a' := ?_) #[true, true, true, true, true, true, true, true, true, true, true, true, true, true, true, true, true, true, true, true, true, true, true, true, true, true, true, true, true, true, true, true, true, true, true, true, true, true, true, true, true, true, true, true, true, true, false, false, false, false] rfl rfl (by kernel_rfl) (fun _ _ _ h => h) (Or.inl ⟨by rfl, ?_⟩) ?_ ?_
          rotate_left
          · intro w'
            go_simp
            with_reducible rfl
          rotate_left
          · simp only [Act.put, List.setIfInBounds_toArray, List.set_cons_zero, List.set_cons_succ, i64_w, i32_w]
            rfl
          refine pure_ (i := 46) (N := some 121) (v := ?_) (a' := ?_) #[true, true, true, true, true, true, true, true, true, true, true, true, true, true, true, true, true, true, true, true, true, true, true, true, true, true, true, true, true, true, true, true, true, true, true, true, true, true, true, true, true, true, true, true, true, true, true, false, false, false] rfl rfl (by kernel_rfl) (fun _ _ _ h => h) (Or.inl ⟨by rfl, ?_⟩) ?_ ?_
          rotate_left
          · intro w'
            go_simp
            with_reducible rfl
          rotate_left
          · simp only [Act.put, List.setIfInBounds_toArray, List.set_cons_zero, List.set_cons_succ, i64_w, i32_w]
            rfl
          refine one_ (i := 47) (N := some 122) #[true, true, true, true, true, true, true, true, true, true, true, true, true, true, true, true, true, true, true, true, true, true, true, true, true, true, true, true, true, true, true, true, true, true, true, true, true, true, true, true, true, true, true, true, true, true, true, true, false, false] rfl rfl (by kernel_rfl) (by decide) (fun K hK => ?_)
          refine goes_ Try.func12 (by kernel_rfl) rfl #[] (by rfl) rfl rfl (by simp only [List.map_toArray, List.map_nil]) ?_
          with_reducible refine (awakeC_any _).mono ?_
          rintro e w11 ⟨rfl, f11⟩
          refine ⟨_, rfl, ?_⟩
          have m11 : Ext S wr.drew w11 := m10.trans f11 (by simp)
          refine hK.out _ _ ⟨(KX.out _ m11).1, (KX.out _ m11).2.1, (KX.out _ m11).2.2⟩ (fun hHeld => ?_)
          clear hK K
          refine norm_ (a' := ?_) ?_ ?_
          rotate_left
          · show Act.put _ (some 122) _ = _
            simp only [Act.put, List.setIfInBounds_toArray, List.set_cons_zero, List.set_cons_succ, i64_w, i32_w]
            rfl
          refine pure_ (i := 48) (N := some 123) (v := ?_) (a' := ?_) #[true, true, true, true, true, true, true, true, true, true, true, true, true, true, true, true, true, true, true, true, true, true, true, true, true, true, true, true, true, true, true, true, true, true, true, true, true, true, true, true, true, true, true, true, true, true, true, true, true, false] rfl rfl (by kernel_rfl) (fun _ _ _ h => h) (Or.inl ⟨by rfl, ?_⟩) ?_ ?_
          rotate_left
          · intro w'
            go_simp
            with_reducible rfl
          rotate_left
          · simp only [Act.put, List.setIfInBounds_toArray, List.set_cons_zero, List.set_cons_succ, i64_w, i32_w]
            rfl
          refine pure_ (i := 49) (N := some 10) (v := ?_) (a' := ?_) #[true, true, true, true, true, true, true, true, true, true, true, true, true, true, true, true, true, true, true, true, true, true, true, true, true, true, true, true, true, true, true, true, true, true, true, true, true, true, true, true, true, true, true, true, true, true, true, true, true, true] rfl rfl (by kernel_rfl) (fun _ _ _ h => h) (Or.inl ⟨by rfl, ?_⟩) ?_ ?_
          rotate_left
          · intro w'
            go_simp
            with_reducible rfl
          rotate_left
          · simp only [Act.put, List.setIfInBounds_toArray, List.set_cons_zero, List.set_cons_succ, i64_w, i32_w]
            rfl
          refine done_ (by kernel_rfl) ?_
          go_wp2_with fail
          go_ret
          exact ⟨rfl, (HOW.out.ext.drew).fresh m11 HOW.out.ges⟩
end Go.Proofs.Ytkbjpackijdnkaa
