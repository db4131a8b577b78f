/- HostsPlays: its walk. -/
import Derived.Test.YtmmhpjodnceipaaRefHostsUse
import Derived.Test.YtmmhpjodnceipaaLow
import Derived.Test.YtmmhpjodnceipaaLong
import Derived.Test.YtmmhpjodnceipaaStructs
import Derived.Deep.DeepCutAuto
namespace Go.Proofs.Ytmmhpjodnceipaa
open Go.RowKit Go.Proofs.YtmmhpjodnceipaaW.PrintLast
set_option linter.unusedVariables false
set_option linter.unusedSimpArgs false

theorem rt_used (most : Int) (b : Nat) (S : List Nat) (xs : List Hs) (key : ByteArray) (hx : xs.length < 1000000) (w : World) (h : RT most w b S xs) :
    Calls Try.prog 38 #[.pointer (some ⟨b, 0, none⟩), .string key] w fun e w' => e = .returned (.int .i64 (usedM xs key)) ∧ w = w' := by
  obtain ⟨v, h, rfl⟩ := h; exact rused_any most b v xs key hx w h
theorem rt_has (most : Int) (b : Nat) (S : List Nat) (xs : List Hs) (key : ByteArray) (hx : xs.length < 1000000) (w : World) (h : RT most w b S xs) :
    Calls Try.prog 40 #[.pointer (some ⟨b, 0, none⟩), .string key] w fun e w' => e = .returned (.bool (xs.any (hasKey key))) ∧ w = w' := by
  obtain ⟨v, h, rfl⟩ := h; exact rhas_any most b v xs key hx w h
theorem rt_keys (most : Int) (b : Nat) (S : List Nat) (xs : List Hs) (hx : xs.length < 100000) (w : World) (h : RT most w b S xs) :
    Calls Try.prog 37 #[.pointer (some ⟨b, 0, none⟩)] w (KeysP (xs.map keyOf) w) := by
  obtain ⟨v, h, rfl⟩ := h; exact rkeys_any most b v xs hx w h
theorem rt_free (most : Int) (b : Nat) (S : List Nat) (xs : List Hs) (key : ByteArray) (hx : xs.length < 1000000) (w : World) (h : RT most w b S xs) (hok : HsOk xs) :
    Calls Try.prog 33 #[.pointer (some ⟨b, 0, none⟩), .string key] w fun e w' => e = .returned (.int .i64 (freeM xs key).1) ∧ RT most w' b S (freeM xs key).2 ∧ Ext S w w' := by
  obtain ⟨v, h, rfl⟩ := h
  exact (rfree_any most b v xs key hx w h hok).mono fun _ _ ⟨h1, h2, h3⟩ => ⟨h1, ⟨_, h2, rfl⟩, h3⟩
theorem rt_use (most : Int) (b : Nat) (S : List Nat) (xs : List Hs) (key : ByteArray) (hx : xs.length < 100000) (w : World) (h : RT most w b S xs) (hok : HsOk xs) :
    Calls Try.prog 34 #[.pointer (some ⟨b, 0, none⟩), .string key] w fun e w' => e = .returned (.tuple #[.string (useM most xs key).1, .int .i64 (useM most xs key).2.1]) ∧ Chg (fun w' S' => RT most w' b S' (useM most xs key).2.2) S w w' := by
  obtain ⟨v, h, rfl⟩ := h
  refine (ruse_any most b v xs key hx w h hok).mono ?_
  rintro e w' ⟨h1, v', h2, h3, h4⟩
  exact ⟨h1, _, ⟨v', h2, rfl⟩, h3, h4⟩

structure DeedH where
  op : Int
  key : ByteArray
def encDH (d : DeedH) : List Value := [.int .i64 d.op, .string d.key]

theorem open_deedH {H : Type} {enc : TypeId × Value → H} {W : World} {a : Option Addr} {n c : Nat} {d : DataW H} {p : List MemPlace} (h : DataW.Trod enc Try.prog W 0 (fun _ => true) true 59 (.slice a n c) d p) :
    ∃ zs : List DeedH, Slc encDH 2 W a n zs ∧ ∀ z ∈ zs, True := by
  refine Slc.open_structs (E := encDH) (good := fun _ => True) Try.underlying59 Try.underlying63 (by kernel_rfl) (by kernel_rfl) (by decide) ?_ h
  intro cs hc
  obtain ⟨z0, h0, _⟩ := hc.int 0 _ .i64 rfl Try.underlying3
  obtain ⟨z1, h1⟩ := hc.str 1 _ rfl Try.underlying9
  have hl : cs.length = 2 := hc.1
  match cs, hl with
  | [c0, c1], _ =>
    simp at h0 h1
    exact ⟨⟨z0, z1⟩, by simp [encDH, h0, h1], trivial⟩

theorem Slc.struct_at {α : Type} {enc : α → List Value} {k : Nat} {w : World} {a : Option Addr} {n : Nat} {xs : List α} (h : Slc enc k w a n xs) :
    ∃ b off, ∀ i z, xs[i]? = some z → a = some ⟨b, off, none⟩ ∧ b < w.heap.size ∧ ∀ (j : Nat) (v : Value), (enc z)[j]? = some v → w.cell? ⟨b, off + (i * k + j), none⟩ = some v := by
  by_cases hn : 0 < n
  · obtain ⟨b, off, ha, hb, hc⟩ := h.2 hn
    exact ⟨b, off, fun i z hz => ⟨ha, hb, hc i z hz⟩⟩
  · have : xs = [] := List.length_eq_zero_iff.1 (by have := h.1; omega)
    subst this
    exact ⟨0, 0, fun i z hz => by simp at hz⟩

theorem Slc.one_str (w : World) (s : ByteArray) (T : TypeId) : Slc encS 1 (w.alloc (.cells #[.string s] T (0, 0))) (some ⟨w.heap.size, 0, none⟩) 1 [s] := by
  refine ⟨rfl, fun _ => ⟨w.heap.size, 0, rfl, by simp, fun i x hx j v hv => ?_⟩⟩
  match i, hx with
  | 0, hx =>
    have hx' : x = s := by simpa using hx.symm
    rw [hx'] at hv
    match j, hv with
    | 0, hv =>
      have hv' : v = .string s := by simpa [encS] using hv.symm
      rw [hv']
      exact (Blk.new w #[.string s] T).cell 0

/-- What holds in the midst of a round. -/
def AfterH (most : Int) (w : World) (z : DeedH) (b r B j : Nat) (wx : World) : Prop :=
  Blk wx B (encDH z).toArray 63 ∧ ∃ S R L, TO most wx b S L ∧ RT most wx r R L ∧ Own2 w wx S R ∧ HsOk L ∧ L.length ≤ j + 1 ∧ (∀ x ∈ S, x ≠ B) ∧ (∀ x ∈ R, x ≠ B)

set_option maxHeartbeats 6400000 in
set_option maxRecDepth 100000 in
theorem hostsPlays_walk (w : World) (mo : Int) (hmo : (Lit.int .i64 mo).wf = true) (a : Option Addr) (n c : Nat) (xs : List DeedH) (hs : Slc encDH 2 w a n xs) (_hg : ∀ z ∈ xs, True) (key : ByteArray) (hkey : key.size ≤ 140737488351232) :
    Calls Try.prog 8 #[.int .i64 mo, .slice a n c, .string key] w fun e w' => e = .returned (.bool true) ∧ Ext [] w w' := by
  clear hmo hkey _hg
  by_cases hn : 200 < n
  · go_enter Try.func8, Try.ntmps8
    go_wp2_with fail
    refine (awakeH_any _).mono ?_
    rintro e w1 ⟨rfl, e1⟩
    go_wp2_with fail
    go_ret
    exact ⟨rfl, e1⟩
  have hn' : n ≤ 200 := by omega
  have HS := Lib.hid hs
  clear hs hn
  have hL1 := long_any 50 (by omega) (by omega) _ 1 1 [key] _ (Slc.one_str w key 9) (by omega)
  cases hlk : longL 50 [key] with
  | true =>
    rw [hlk] at hL1
    have HL1 := Lib.hid hL1
    clear hL1 hlk
    go_enter Try.func8, Try.ntmps8
    go_wp2_with fail
    refine HL1.out.mono ?_
    rintro e w1 ⟨rfl, rfl⟩
    go_wp2_with fail
    refine (awakeH_any _).mono ?_
    rintro e w1 ⟨rfl, e1⟩
    go_wp2_with fail
    go_ret
    exact ⟨rfl, ((Ext.refl _ _).alloc _).trans e1 (by simp)⟩
  | false =>
    rw [hlk] at hL1
    have HL1 := Lib.hid hL1
    clear hL1 hlk
    go_enter Try.func8, Try.ntmps8
    go_wp2_with fail
    refine HL1.out.mono ?_
    rintro e w0 ⟨rfl, rfl⟩
    have e0 : Ext [] w (w.alloc (Obj.cells #[Value.string key] 9)) := (Ext.refl _ _).alloc _
    generalize w.alloc (Obj.cells #[Value.string key] 9) = w0 at e0 ⊢
    clear HL1
    go_wp2_with fail
    refine (to_new mo w0).mono ?_
    rintro e w1 ⟨rfl, h1, e1⟩
    have o1 := Own.start (e0.trans e1 (by simp)) (S := [w0.heap.size]) (by simp; exact e0.size)
    obtain ⟨b, hb⟩ : ∃ b, w0.heap.size = b := ⟨_, rfl⟩
    rw [hb] at h1 o1
    go_wp2_with fail
    refine (rt_new mo w1).mono ?_
    rintro e w2 ⟨rfl, h2, e2⟩
    have o2 := Own2.start o1 h1.lt e2 (R := [w1.heap.size]) (by simp)
    have h1 := h1.keep0 e2
    obtain ⟨r, hr⟩ : ∃ r, w1.heap.size = r := ⟨_, rfl⟩
    rw [hr] at h2 o2
    generalize clampH mo = most at h1 h2
    clear e0 e1 e2 o1
    go_wp2_with fail
    go_loopw [9] (fun iv wr => ∃ (j : Nat) (S R : List Nat) (L : List Hs), j ≤ n ∧ iv = .int .i64 j ∧ TO most wr b S L ∧ RT most wr r R L ∧ Own2 w wr S R ∧ L.length ≤ j ∧ Hid (HsOk L)) (fun iv _ => n - (intOf iv).toNat)
    case atStart => exact ⟨0, _, _, [], Nat.zero_le _, rfl, h1, h2, o2, Nat.le_refl _, ok_nil⟩
    case round =>
      obtain ⟨j, S, R, L, hjn, rfl, hw, hwr, ow, hlen, hok⟩ := hrel
      clear h1 h2 o2 hb hr
      by_cases hj : j < n
      · have d1 : decide (j < n) = true := decide_eq_true hj
        have b1 : (0 : Int) ≤ (j : Int) := by omega
        have b2 : (j : Int) < (n : Int) := by omega
        obtain ⟨ab, ao, hsa⟩ := HS.out.struct_at
        obtain ⟨z, hz⟩ : ∃ z, xs[j]? = some z := ⟨_, List.getElem?_eq_getElem (by rw [HS.out.1]; exact hj)⟩
        obtain ⟨rfl, hab, hcz⟩ := hsa j z hz
        have hz0 := (ow.ext.cell (p := ⟨ab, ao + (j * 2 + 0), none⟩) hab (by simp)).trans (hcz 0 _ rfl)
        have hz1 := (ow.ext.cell (p := ⟨ab, ao + (j * 2 + 1), none⟩) hab (by simp)).trans (hcz 1 _ rfl)
        simp only [Nat.add_zero, ← Nat.add_assoc] at hz0 hz1
        have hm := long_any 50 (by omega) (by omega) _ 1 1 [z.key] _ (Slc.one_str (wr.alloc (.cells (encDH z).toArray 63 (0, 0))) z.key 9) (by omega)
        rw [World.size_alloc] at hm
        have hLow := low_any z.op 3 (by omega) (by omega)
        have HM := Lib.hid hm; have HLOW := Lib.hid hLow
        have hlb := ow.ext.size
        have hSB : ∀ x ∈ S, x ≠ wr.heap.size := fun x hx => by have := hw.lt x hx; omega
        have hRB : ∀ x ∈ R, x ≠ wr.heap.size := fun x hx => by have := hwr.lt x hx; omega
        clear hsa hz hab hcz hm hLow
        go_upto_region 12 with ((go_at_call 11; refine HM.out.mono ?_; rintro e w3 ⟨rfl, rfl⟩))
        · have e3 : Ext [] wr ((wr.alloc (Obj.cells (encDH z).toArray 63)).alloc (Obj.cells #[Value.string z.key] 9)) := ((Ext.refl _ _).alloc _).alloc _
          generalize (wr.alloc (Obj.cells (encDH z).toArray 63)).alloc (Obj.cells #[Value.string z.key] 9) = w3 at e3 ⊢
          refine (awakeH_any _).mono ?_
          rintro e w4 ⟨rfl, e4⟩
          go_wp2_with fail
          go_ret
          exact ⟨rfl, ((ow.quiet e3).quiet e4).ext⟩
        have e3 : Ext [] wr ((wr.alloc (Obj.cells (encDH z).toArray 63)).alloc (Obj.cells #[Value.string z.key] 9)) := ((Ext.refl _ _).alloc _).alloc _
        have hB : Blk ((wr.alloc (Obj.cells (encDH z).toArray 63)).alloc (Obj.cells #[Value.string z.key] 9)) wr.heap.size (encDH z).toArray 63 := (Blk.new _ _ _).alloc _
        generalize (wr.alloc (Obj.cells (encDH z).toArray 63)).alloc (Obj.cells #[Value.string z.key] 9) = w3 at e3 hB ⊢
        have ow := ow.quiet e3
        have hw := hw.keep0 e3
        have hwr := hwr.keep0 e3
        generalize wr.heap.size = B at hB hSB hRB ⊢
        have hc0 : w3.cell? ⟨B, 0, none⟩ = some (.int .i64 z.op) := hB.cell 0
        clear hz0 hz1 e3 HM
        go_upto_if 48 with ((go_at_call 16; refine (HLOW.out _).mono ?_; rintro e w4 ⟨rfl, rfl⟩))
        go_cut [10] (fun s10 wx => s10 = .pointer (some ⟨B, 0, none⟩) ∧ AfterH most w z b r B j wx)
        case first =>
          have hc1 : w3.cell? ⟨B, 1, none⟩ = some (.string z.key) := hB.cell 1
          have hBS : B ∉ S := fun h => hSB B h rfl
          have hBR : B ∉ R := fun h => hRB B h rfl
          cases hq : (lowI z.op 3 == 2) with
          | true =>
            have hgv := to_free most b S L z.key (by omega) w3.drew hw.drew hok.out
            have hgr := fun W (hW : RT most W r R L) => rt_free most r R L z.key (by omega) W hW hok.out
            have hll := freeM_len L z.key
            have hko := freeM_ok z.key hok.out
            have HW := Lib.hid hw; have HWR := Lib.hid hwr; have HOW := Lib.hid ow; have HB := Lib.hid hB; have HKO := Lib.hid hko
            generalize freeM L z.key = q at hgv hgr HKO hll
            have HGV := Lib.hid hgv; have HGR := Lib.hid hgr; have HLL := Lib.hid hll
            clear hgv hgr hw hwr ow hB hko hll
            go_wp2_with fail
            refine start_ (n := 9) (S := fun w' => w'.cell? ⟨B, 1, none⟩ = some (.string z.key)) (ds := []) #[false, false, false, false, false, false, false, false, false] (by kernel_rfl) rfl rfl (hc1) (fun hHeld => ?_)
            refine pure_ (i := 0) (N := some 49) (v := ?_) (a' := ?_) #[true, false, false, false, false, false, false, false, false] rfl rfl (by kernel_rfl) (fun _ _ _ h => h) (Or.inl ⟨by rfl, ?_⟩) ?_ ?_
            rotate_left
            · intro w'
              go_simp
              with_reducible rfl
            rotate_left
            · simp only [Act.put, List.setIfInBounds_toArray, List.set_cons_zero, List.set_cons_succ, i64_w, i32_w]
              rfl
            refine pure_ (i := 1) (N := some 50) (v := ?_) (a' := ?_) #[true, true, false, false, false, false, false, false, false] rfl rfl (by kernel_rfl) (fun _ _ _ h => h) (Or.inl ⟨by rfl, ?_⟩) ?_ ?_
            rotate_left
            · intro w'
              go_simp
              with_reducible rfl
            rotate_left
            · simp only [Act.put, List.setIfInBounds_toArray, List.set_cons_zero, List.set_cons_succ, i64_w, i32_w]
              rfl
            refine pure_ (i := 4) (N := some 53) (v := ?_) (a' := ?_) #[true, true, false, false, true, false, false, false, false] rfl rfl (by kernel_rfl) (fun _ _ _ h => h) (Or.inl ⟨by rfl, ?_⟩) ?_ ?_
            rotate_left
            · intro w'
              go_simp
              with_reducible rfl
            rotate_left
            · simp only [Act.put, List.setIfInBounds_toArray, List.set_cons_zero, List.set_cons_succ, i64_w, i32_w]
              rfl
            refine pure_ (i := 5) (N := some 54) (v := ?_) (a' := ?_) #[true, true, false, false, true, true, false, false, false] rfl rfl (by kernel_rfl) (fun _ _ _ h => h) (Or.inl ⟨by rfl, ?_⟩) ?_ ?_
            rotate_left
            · intro w'
              go_simp
              with_reducible rfl
            rotate_left
            · simp only [Act.put, List.setIfInBounds_toArray, List.set_cons_zero, List.set_cons_succ, i64_w, i32_w]
              rfl
            refine take_ (i := 2) (N := some 51) (v := ?_) (a' := ?_) #[true, true, true, false, true, true, false, false, false] rfl rfl (by kernel_rfl) (fun _ _ _ h => h) (Or.inl ⟨by rfl, ?_⟩) hHeld ?_ ?_
            rotate_left
            · intro w' s0
              go_simp
              with_reducible rfl
            rotate_left
            · simp only [Act.put, List.setIfInBounds_toArray, List.set_cons_zero, List.set_cons_succ, i64_w, i32_w]
              rfl
            refine take_ (i := 6) (N := some 55) (v := ?_) (a' := ?_) #[true, true, true, false, true, true, true, false, false] rfl rfl (by kernel_rfl) (fun _ _ _ h => h) (Or.inl ⟨by rfl, ?_⟩) hHeld ?_ ?_
            rotate_left
            · intro w' s0
              go_simp
              with_reducible rfl
            rotate_left
            · simp only [Act.put, List.setIfInBounds_toArray, List.set_cons_zero, List.set_cons_succ, i64_w, i32_w]
              rfl
            refine one_ (i := 3) (N := some 52) #[true, true, true, true, true, true, true, false, false] rfl rfl (by kernel_rfl) (by decide) (fun K hK => ?_)
            refine goes_ Try.func17 (by kernel_rfl) rfl #[.pointer (some ⟨b, 0, none⟩), .string z.key] (by rfl) rfl rfl (by simp only [List.map_toArray, List.map_cons, List.map_nil]; rfl) ?_
            with_reducible refine (HGV.out).mono ?_
            rintro e w4 ⟨rfl, h4, e4⟩
            refine ⟨_, rfl, ?_⟩
            have hB4 := (HB.out.drew).keep e4 hBS
            have hR4 := HWR.out.drew.keep e4 (fun x hx hs => HOW.out.ne x hs hx)
            refine hK.out _ _ ((hB4.cell 1)) (fun hHeld => ?_)
            clear hK K
            refine norm_ (a' := ?_) ?_ ?_
            rotate_left
            · show Act.put _ (some 52) _ = _
              simp only [Act.put, List.setIfInBounds_toArray, List.set_cons_zero, List.set_cons_succ, i64_w, i32_w]
              rfl
            refine one_ (i := 7) (N := some 56) #[true, true, true, true, true, true, true, true, false] rfl rfl (by kernel_rfl) (by decide) (fun K hK => ?_)
            refine goes_ Try.func33 (by kernel_rfl) rfl #[.pointer (some ⟨r, 0, none⟩), .string z.key] (by rfl) rfl rfl (by simp only [List.map_toArray, List.map_cons, List.map_nil]; rfl) ?_
            with_reducible refine (HGR.out _ hR4).mono ?_
            rintro e w5 ⟨rfl, h5, e5⟩
            refine ⟨_, rfl, ?_⟩
            have hB5 := hB4.keep e5 hBR
            refine hK.out _ _ ((hB5.cell 1)) (fun hHeld => ?_)
            clear hK K
            refine norm_ (a' := ?_) ?_ ?_
            rotate_left
            · show Act.put _ (some 56) _ = _
              simp only [Act.put, List.setIfInBounds_toArray, List.set_cons_zero, List.set_cons_succ, i64_w, i32_w]
              rfl
            refine pure_ (i := 8) (N := some 57) (v := ?_) (a' := ?_) #[true, true, true, true, true, true, true, true, true] rfl rfl (by kernel_rfl) (fun _ _ _ h => h) (Or.inl ⟨by rfl, ?_⟩) ?_ ?_
            rotate_left
            · intro w'
              go_simp
              with_reducible rfl
            rotate_left
            · simp only [Act.put, List.setIfInBounds_toArray, List.set_cons_zero, List.set_cons_succ, i64_w, i32_w]
              rfl
            refine done_ (by kernel_rfl) ?_
            go_wp2_with fail
            go_meet
            have o4 := (HOW.out.quiet (Ext.refl [] w3).drew).left HWR.out.drew.lt e4 (fun x h => .inl h)
            exact ⟨rfl, hB5, S, R, _, h4.keep e5 (fun x hx hr => HOW.out.ne x hx hr), h5, o4.right h4.lt e5 (fun x h => .inl h), HKO.out, by rw [HLL.out]; omega, hSB, hRB⟩
          | false =>
            have htk := to_use most b S L z.key (by omega) w3 hw hok.out
            have htr := fun W (hW : RT most W r R L) => rt_use most r R L z.key (by omega) W hW hok.out
            have hll := useM_len most L z.key
            have hko := useM_ok most z.key hok.out
            have HW := Lib.hid hw; have HWR := Lib.hid hwr; have HOW := Lib.hid ow; have HB := Lib.hid hB; have HKO := Lib.hid hko
            generalize useM most L z.key = q at htk htr HKO hll
            have HGV := Lib.hid htk; have HGR := Lib.hid htr; have HLL := Lib.hid hll
            clear htk htr hw hwr ow hB hko hll
            go_wp2_with fail
            refine HGV.out.mono ?_
            rintro e w4 ⟨rfl, S4, h4, e4, k4⟩
            have hB4 := HB.out.keep e4 hBS
            have hR4 := HWR.out.keep e4 (fun x hx hs => HOW.out.ne x hs hx)
            have hc4 : w4.cell? ⟨B, 1, none⟩ = some (.string z.key) := hB4.cell 1
            have HB4 := Lib.hid hB4; have HR4 := Lib.hid hR4; have H4 := Lib.hid h4
            clear hB4 hR4 h4
            go_wp2_with fail
            refine (HGR.out _ HR4.out).mono ?_
            rintro e w5 ⟨rfl, R5, h5, e5, k5⟩
            have hB5 := HB4.out.keep e5 hBR
            go_wp2_with fail
            go_meet
            have o4 := HOW.out.left HWR.out.lt e4 k4
            exact ⟨rfl, hB5, S4, R5, _, H4.out.keep e5 (fun x hx hr => o4.ne x hx hr), h5, o4.right H4.out.lt e5 k5, HKO.out, by have := HLL.out; omega, own_ne hSB k4 HB.out.lt, own_ne hRB k5 HB4.out.lt⟩
        case rest =>
          obtain ⟨rfl, hBc, S', R', L', hw', hwr', ow', hok', hlen', hSB', hRB'⟩ := hcut
          have hd1 : TO most wc.drew b S' L' := hw'.drew
          have hd2 : RT most wc.drew r R' L' := hwr'.drew
          have hlB := hBc.lt
          have hc1 : wc.cell? ⟨B, 1, none⟩ = some (.string z.key) := hBc.cell 1
          have hsz : L'.length < 100000 := by omega
          obtain ⟨ks, hks⟩ : ∃ ks, ks = L'.map keyOf := ⟨_, rfl⟩
          have hkl : ks.length < 1000000 := by rw [hks, List.length_map]; omega
          have a1 := to_keys most b S' L' hsz wc.drew hd1
          have a2 := fun W (hW : Ext [] wc.drew W) => rt_keys most r R' L' hsz W (hd2.keep0 hW)
          rw [← hks] at a1; rw [← hks] at a2
          have a3 := fun (v v' : Value) W (h : Rw encS 1 9 W v ks) (h' : Rw encS 1 9 W v' ks) => texts_any v v' ks ks hkl hkl W h h'
          have hdk : decide (ks = ks) = true := decide_eq_true rfl
          rw [hdk] at a3
          have a4 := fun W (hW : Ext [] wc.drew W) => to_used most b S' L' z.key (by omega) W (hd1.keep0 hW)
          have a5 := fun W (hW : Ext [] wc.drew W) => rt_used most r R' L' z.key (by omega) W (hd2.keep0 hW)
          have a6 := fun W (hW : Ext [] wc.drew W) => to_used most b S' L' key (by omega) W (hd1.keep0 hW)
          have a7 := fun W (hW : Ext [] wc.drew W) => rt_used most r R' L' key (by omega) W (hd2.keep0 hW)
          have a8 := fun W (hW : Ext [] wc.drew W) => to_has most b S' L' key (by omega) W (hd1.keep0 hW)
          have a9 := fun W (hW : Ext [] wc.drew W) => rt_has most r R' L' key (by omega) W (hd2.keep0 hW)
          generalize usedM L' z.key = p1 at a4 a5
          generalize usedM L' key = p2 at a6 a7
          generalize L'.any (hasKey key) = p3 at a8 a9
          have A1 := Lib.hid a1; have A2 := Lib.hid a2; have A3 := Lib.hid a3; have A4 := Lib.hid a4; have A5 := Lib.hid a5; have A6 := Lib.hid a6; have A7 := Lib.hid a7; have A8 := Lib.hid a8; have A9 := Lib.hid a9
          have HW := Lib.hid hw'; have HWR := Lib.hid hwr'; have HOW := Lib.hid ow'; have HOK := Lib.hid hok'
          clear a1 a2 a3 a4 a5 a6 a7 a8 a9 hd1 hd2 hw' hwr' ow' hok' hc0 hks hdk hkl hok hBc
          have keepf : ∀ W, Ext [] wc.drew W → W.cell? ⟨B, 1, none⟩ = some (.string z.key) := fun W hW => (hW.cell (p := ⟨B, 1, none⟩) hlB (by simp)).trans hc1
          have KF := Lib.hid keepf
          clear keepf
          go_wp2_with fail
          refine start_ (n := 35) (S := fun w' => w'.cell? ⟨B, 1, none⟩ = some (.string z.key)) (ds := []) #[false, false, false, false, false, false, false, false, false, false, false, false, false, false, false, false, false, false, false, false, false, false, false, false, false, false, false, false, false, false, false, false, false, false, false] (by kernel_rfl) rfl rfl (hc1) (fun hHeld => ?_)
          refine pure_ (i := 0) (N := some 80) (v := ?_) (a' := ?_) #[true, false, false, false, false, false, false, false, false, false, false, false, false, false, false, false, false, false, false, false, false, false, false, false, false, false, false, false, false, false, false, false, false, false, false] rfl rfl (by kernel_rfl) (fun _ _ _ h => h) (Or.inl ⟨by rfl, ?_⟩) ?_ ?_
          rotate_left
          · intro w'
            go_simp
            with_reducible rfl
          rotate_left
          · simp only [Act.put, List.setIfInBounds_toArray, List.set_cons_zero, List.set_cons_succ, i64_w, i32_w]
            rfl
          refine pure_ (i := 2) (N := some 82) (v := ?_) (a' := ?_) #[true, false, true, false, false, false, false, false, false, false, false, false, false, false, false, false, false, false, false, false, false, false, false, false, false, false, false, false, false, false, false, false, false, false, false] rfl rfl (by kernel_rfl) (fun _ _ _ h => h) (Or.inl ⟨by rfl, ?_⟩) ?_ ?_
          rotate_left
          · intro w'
            go_simp
            with_reducible rfl
          rotate_left
          · simp only [Act.put, List.setIfInBounds_toArray, List.set_cons_zero, List.set_cons_succ, i64_w, i32_w]
            rfl
          refine one_ (i := 1) (N := some 81) #[true, true, true, false, false, false, false, false, false, false, false, false, false, false, false, false, false, false, false, false, false, false, false, false, false, false, false, false, false, false, false, false, false, false, false] rfl rfl (by kernel_rfl) (by decide) (fun K hK => ?_)
          refine goes_ Try.func36 (by kernel_rfl) rfl #[.pointer (some ⟨b, 0, none⟩)] (by rfl) rfl rfl (by simp only [List.map_toArray, List.map_cons, List.map_nil]; rfl) ?_
          with_reducible refine (A1.out).mono ?_
          rintro e w4 ⟨a4, c4, rfl, hr4, e4, hf4⟩
          refine ⟨_, rfl, ?_⟩
          refine hK.out _ _ ((KF.out _ e4)) (fun hHeld => ?_)
          clear hK K
          refine norm_ (a' := ?_) ?_ ?_
          rotate_left
          · show Act.put _ (some 81) _ = _
            simp only [Act.put, List.setIfInBounds_toArray, List.set_cons_zero, List.set_cons_succ, i64_w, i32_w]
            rfl
          refine one_ (i := 3) (N := some 83) #[true, true, true, true, false, false, false, false, false, false, false, false, false, false, false, false, false, false, false, false, false, false, false, false, false, false, false, false, false, false, false, false, false, false, false] rfl rfl (by kernel_rfl) (by decide) (fun K hK => ?_)
          refine goes_ Try.func37 (by kernel_rfl) rfl #[.pointer (some ⟨r, 0, none⟩)] (by rfl) rfl rfl (by simp only [List.map_toArray, List.map_cons, List.map_nil]; rfl) ?_
          with_reducible refine (A2.out _ e4).mono ?_
          rintro e w5 ⟨a5, c5, rfl, hr5, f5, hf5⟩
          refine ⟨_, rfl, ?_⟩
          have e5 := e4.trans f5 (by simp)
          have hr45 := hr4.keep f5 (by simp)
          refine hK.out _ _ ((KF.out _ e5)) (fun hHeld => ?_)
          clear hK K
          refine norm_ (a' := ?_) ?_ ?_
          rotate_left
          · show Act.put _ (some 83) _ = _
            simp only [Act.put, List.setIfInBounds_toArray, List.set_cons_zero, List.set_cons_succ, i64_w, i32_w]
            rfl
          refine one_ (i := 4) (N := some 84) #[true, true, true, true, true, false, false, false, false, false, false, false, false, false, false, false, false, false, false, false, false, false, false, false, false, false, false, false, false, false, false, false, false, false, false] rfl rfl (by kernel_rfl) (by decide) (fun K hK => ?_)
          refine goes_ Try.func35 (by kernel_rfl) rfl #[.slice a4 ks.length c4, .slice a5 ks.length c5] (by rfl) rfl rfl (by simp only [List.map_toArray, List.map_cons, List.map_nil]; rfl) ?_
          with_reducible refine (A3.out _ _ _ hr45 hr5).mono ?_
          rintro e w6 ⟨rfl, f6⟩
          refine ⟨_, rfl, ?_⟩
          have e6 := e5.trans f6 (by simp)
          refine hK.out _ _ ((KF.out _ e6)) (fun hHeld => ?_)
          clear hK K
          refine norm_ (a' := ?_) ?_ ?_
          rotate_left
          · show Act.put _ (some 84) _ = _
            simp only [Act.put, List.setIfInBounds_toArray, List.set_cons_zero, List.set_cons_succ, i64_w, i32_w]
            rfl
          refine pure_ (i := 5) (N := some 85) (v := ?_) (a' := ?_) #[true, true, true, true, true, true, false, false, false, false, false, false, false, false, false, false, false, false, false, false, false, false, false, false, false, false, false, false, false, false, false, false, false, false, false] rfl rfl (by kernel_rfl) (fun _ _ _ h => h) (Or.inl ⟨by rfl, ?_⟩) ?_ ?_
          rotate_left
          · intro w'
            go_simp
            with_reducible rfl
          rotate_left
          · simp only [Act.put, List.setIfInBounds_toArray, List.set_cons_zero, List.set_cons_succ, i64_w, i32_w]
            rfl
          refine pure_ (i := 6) (N := some 86) (v := ?_) (a' := ?_) #[true, true, true, true, true, true, true, false, false, false, false, false, false, false, false, false, false, false, false, false, false, false, false, false, false, false, false, false, false, false, false, false, false, false, false] rfl rfl (by kernel_rfl) (fun _ _ _ h => h) (Or.inl ⟨by rfl, ?_⟩) ?_ ?_
          rotate_left
          · intro w'
            go_simp
            with_reducible rfl
          rotate_left
          · simp only [Act.put, List.setIfInBounds_toArray, List.set_cons_zero, List.set_cons_succ, i64_w, i32_w]
            rfl
          refine pure_ (i := 7) (N := some 87) (v := ?_) (a' := ?_) #[true, true, true, true, true, true, true, true, false, false, false, false, false, false, false, false, false, false, false, false, false, false, false, false, false, false, false, false, false, false, false, false, false, false, false] rfl rfl (by kernel_rfl) (fun _ _ _ h => h) (Or.inl ⟨by rfl, ?_⟩) ?_ ?_
          rotate_left
          · intro w'
            go_simp
            with_reducible rfl
          rotate_left
          · simp only [Act.put, List.setIfInBounds_toArray, List.set_cons_zero, List.set_cons_succ, i64_w, i32_w]
            rfl
          refine pure_ (i := 8) (N := some 88) (v := ?_) (a' := ?_) #[true, true, true, true, true, true, true, true, true, false, false, false, false, false, false, false, false, false, false, false, false, false, false, false, false, false, false, false, false, false, false, false, false, false, false] rfl rfl (by kernel_rfl) (fun _ _ _ h => h) (Or.inl ⟨by rfl, ?_⟩) ?_ ?_
          rotate_left
          · intro w'
            go_simp
            with_reducible rfl
          rotate_left
          · simp only [Act.put, List.setIfInBounds_toArray, List.set_cons_zero, List.set_cons_succ, i64_w, i32_w]
            rfl
          refine pure_ (i := 11) (N := some 91) (v := ?_) (a' := ?_) #[true, true, true, true, true, true, true, true, true, false, false, true, false, false, false, false, false, false, false, false, false, false, false, false, false, false, false, false, false, false, false, false, false, false, false] rfl rfl (by kernel_rfl) (fun _ _ _ h => h) (Or.inl ⟨by rfl, ?_⟩) ?_ ?_
          rotate_left
          · intro w'
            go_simp
            with_reducible rfl
          rotate_left
          · simp only [Act.put, List.setIfInBounds_toArray, List.set_cons_zero, List.set_cons_succ, i64_w, i32_w]
            rfl
          refine pure_ (i := 12) (N := some 92) (v := ?_) (a' := ?_) #[true, true, true, true, true, true, true, true, true, false, false, true, true, false, false, false, false, false, false, false, false, false, false, false, false, false, false, false, false, false, false, false, false, false, false] rfl rfl (by kernel_rfl) (fun _ _ _ h => h) (Or.inl ⟨by rfl, ?_⟩) ?_ ?_
          rotate_left
          · intro w'
            go_simp
            with_reducible rfl
          rotate_left
          · simp only [Act.put, List.setIfInBounds_toArray, List.set_cons_zero, List.set_cons_succ, i64_w, i32_w]
            rfl
          refine take_ (i := 9) (N := some 89) (v := ?_) (a' := ?_) #[true, true, true, true, true, true, true, true, true, true, false, true, true, false, false, false, false, false, false, false, false, false, false, false, false, false, false, false, false, false, false, false, false, false, false] rfl rfl (by kernel_rfl) (fun _ _ _ h => h) (Or.inl ⟨by rfl, ?_⟩) hHeld ?_ ?_
          rotate_left
          · intro w' s0
            go_simp
            with_reducible rfl
          rotate_left
          · simp only [Act.put, List.setIfInBounds_toArray, List.set_cons_zero, List.set_cons_succ, i64_w, i32_w]
            rfl
          refine take_ (i := 13) (N := some 93) (v := ?_) (a' := ?_) #[true, true, true, true, true, true, true, true, true, true, false, true, true, true, false, false, false, false, false, false, false, false, false, false, false, false, false, false, false, false, false, false, false, false, false] rfl rfl (by kernel_rfl) (fun _ _ _ h => h) (Or.inl ⟨by rfl, ?_⟩) hHeld ?_ ?_
          rotate_left
          · intro w' s0
            go_simp
            with_reducible rfl
          rotate_left
          · simp only [Act.put, List.setIfInBounds_toArray, List.set_cons_zero, List.set_cons_succ, i64_w, i32_w]
            rfl
          refine one_ (i := 10) (N := some 90) #[true, true, true, true, true, true, true, true, true, true, true, true, true, true, false, false, false, false, false, false, false, false, false, false, false, false, false, false, false, false, false, false, false, false, false] rfl rfl (by kernel_rfl) (by decide) (fun K hK => ?_)
          refine goes_ Try.func15 (by kernel_rfl) rfl #[.pointer (some ⟨b, 0, none⟩), .string z.key] (by rfl) rfl rfl (by simp only [List.map_toArray, List.map_cons, List.map_nil]; rfl) ?_
          with_reducible refine (A4.out _ e6).mono ?_
          rintro e w7 ⟨rfl, f7⟩
          refine ⟨_, rfl, ?_⟩
          have e7 := e6.trans f7 (by simp)
          refine hK.out _ _ ((KF.out _ e7)) (fun hHeld => ?_)
          clear hK K
          refine norm_ (a' := ?_) ?_ ?_
          rotate_left
          · show Act.put _ (some 90) _ = _
            simp only [Act.put, List.setIfInBounds_toArray, List.set_cons_zero, List.set_cons_succ, i64_w, i32_w]
            rfl
          refine one_ (i := 14) (N := some 94) #[true, true, true, true, true, true, true, true, true, true, true, true, true, true, true, false, false, false, false, false, false, false, false, false, false, false, false, false, false, false, false, false, false, false, false] rfl rfl (by kernel_rfl) (by decide) (fun K hK => ?_)
          refine goes_ Try.func38 (by kernel_rfl) rfl #[.pointer (some ⟨r, 0, none⟩), .string z.key] (by rfl) rfl rfl (by simp only [List.map_toArray, List.map_cons, List.map_nil]; rfl) ?_
          with_reducible refine (A5.out _ e7).mono ?_
          rintro e w7 ⟨rfl, rfl⟩
          refine ⟨_, rfl, ?_⟩
          refine hK.out _ _ ((KF.out _ e7)) (fun hHeld => ?_)
          clear hK K
          refine norm_ (a' := ?_) ?_ ?_
          rotate_left
          · show Act.put _ (some 94) _ = _
            simp only [Act.put, List.setIfInBounds_toArray, List.set_cons_zero, List.set_cons_succ, i64_w, i32_w]
            rfl
          refine pure_ (i := 15) (N := some 95) (v := ?_) (a' := ?_) #[true, true, true, true, true, true, true, true, true, true, true, true, true, true, true, true, false, false, false, false, false, false, false, false, false, false, false, false, false, false, false, false, false, false, false] rfl rfl (by kernel_rfl) (fun _ _ _ h => h) (Or.inl ⟨by rfl, ?_⟩) ?_ ?_
          rotate_left
          · intro w'
            go_simp
            with_reducible rfl
          rotate_left
          · simp only [Act.put, List.setIfInBounds_toArray, List.set_cons_zero, List.set_cons_succ, i64_w, i32_w]
            rfl
          refine pure_ (i := 16) (N := some 96) (v := ?_) (a' := ?_) #[true, true, true, true, true, true, true, true, true, true, true, true, true, true, true, true, true, false, false, false, false, false, false, false, false, false, false, false, false, false, false, false, false, false, false] rfl rfl (by kernel_rfl) (fun _ _ _ h => h) (Or.inl ⟨by rfl, ?_⟩) ?_ ?_
          rotate_left
          · intro w'
            go_simp
            with_reducible rfl
          rotate_left
          · simp only [Act.put, List.setIfInBounds_toArray, List.set_cons_zero, List.set_cons_succ, i64_w, i32_w]
            rfl
          refine pure_ (i := 17) (N := some 97) (v := ?_) (a' := ?_) #[true, true, true, true, true, true, true, true, true, true, true, true, true, true, true, true, true, true, false, false, false, false, false, false, false, false, false, false, false, false, false, false, false, false, false] rfl rfl (by kernel_rfl) (fun _ _ _ h => h) (Or.inl ⟨by rfl, ?_⟩) ?_ ?_
          rotate_left
          · intro w'
            go_simp
            with_reducible rfl
          rotate_left
          · simp only [Act.put, List.setIfInBounds_toArray, List.set_cons_zero, List.set_cons_succ, i64_w, i32_w]
            rfl
          refine pure_ (i := 18) (N := some 98) (v := ?_) (a' := ?_) #[true, true, true, true, true, true, true, true, true, true, true, true, true, true, true, true, true, true, true, false, false, false, false, false, false, false, false, false, false, false, false, false, false, false, false] rfl rfl (by kernel_rfl) (fun _ _ _ h => h) (Or.inl ⟨by rfl, ?_⟩) ?_ ?_
          rotate_left
          · intro w'
            go_simp
            with_reducible rfl
          rotate_left
          · simp only [Act.put, List.setIfInBounds_toArray, List.set_cons_zero, List.set_cons_succ, i64_w, i32_w]
            rfl
          refine pure_ (i := 19) (N := some 99) (v := ?_) (a' := ?_) #[true, true, true, true, true, true, true, true, true, true, true, true, true, true, true, true, true, true, true, true, false, false, false, false, false, false, false, false, false, false, false, false, false, false, false] rfl rfl (by kernel_rfl) (fun _ _ _ h => h) (Or.inl ⟨by rfl, ?_⟩) ?_ ?_
          rotate_left
          · intro w'
            go_simp
            with_reducible rfl
          rotate_left
          · simp only [Act.put, List.setIfInBounds_toArray, List.set_cons_zero, List.set_cons_succ, i64_w, i32_w]
            rfl
          refine pure_ (i := 21) (N := some 101) (v := ?_) (a' := ?_) #[true, true, true, true, true, true, true, true, true, true, true, true, true, true, true, true, true, true, true, true, false, true, false, false, false, false, false, false, false, false, false, false, false, false, false] rfl rfl (by kernel_rfl) (fun _ _ _ h => h) (Or.inl ⟨by rfl, ?_⟩) ?_ ?_
          rotate_left
          · intro w'
            go_simp
            with_reducible rfl
          rotate_left
          · simp only [Act.put, List.setIfInBounds_toArray, List.set_cons_zero, List.set_cons_succ, i64_w, i32_w]
            rfl
          refine pure_ (i := 22) (N := some 102) (v := ?_) (a' := ?_) #[true, true, true, true, true, true, true, true, true, true, true, true, true, true, true, true, true, true, true, true, false, true, true, false, false, false, false, false, false, false, false, false, false, false, false] rfl rfl (by kernel_rfl) (fun _ _ _ h => h) (Or.inl ⟨by rfl, ?_⟩) ?_ ?_
          rotate_left
          · intro w'
            go_simp
            with_reducible rfl
          rotate_left
          · simp only [Act.put, List.setIfInBounds_toArray, List.set_cons_zero, List.set_cons_succ, i64_w, i32_w]
            rfl
          refine one_ (i := 20) (N := some 100) #[true, true, true, true, true, true, true, true, true, true, true, true, true, true, true, true, true, true, true, true, true, true, true, false, false, false, false, false, false, false, false, false, false, false, false] rfl rfl (by kernel_rfl) (by decide) (fun K hK => ?_)
          refine goes_ Try.func15 (by kernel_rfl) rfl #[.pointer (some ⟨b, 0, none⟩), .string key] (by rfl) rfl rfl (by simp only [List.map_toArray, List.map_cons, List.map_nil]; rfl) ?_
          with_reducible refine (A6.out _ e7).mono ?_
          rintro e w8 ⟨rfl, f8⟩
          refine ⟨_, rfl, ?_⟩
          have e8 := e7.trans f8 (by simp)
          refine hK.out _ _ ((KF.out _ e8)) (fun hHeld => ?_)
          clear hK K
          refine norm_ (a' := ?_) ?_ ?_
          rotate_left
          · show Act.put _ (some 100) _ = _
            simp only [Act.put, List.setIfInBounds_toArray, List.set_cons_zero, List.set_cons_succ, i64_w, i32_w]
            rfl
          refine one_ (i := 23) (N := some 103) #[true, true, true, true, true, true, true, true, true, true, true, true, true, true, true, true, true, true, true, true, true, true, true, true, false, false, false, false, false, false, false, false, false, false, false] rfl rfl (by kernel_rfl) (by decide) (fun K hK => ?_)
          refine goes_ Try.func38 (by kernel_rfl) rfl #[.pointer (some ⟨r, 0, none⟩), .string key] (by rfl) rfl rfl (by simp only [List.map_toArray, List.map_cons, List.map_nil]; rfl) ?_
          with_reducible refine (A7.out _ e8).mono ?_
          rintro e w8 ⟨rfl, rfl⟩
          refine ⟨_, rfl, ?_⟩
          refine hK.out _ _ ((KF.out _ e8)) (fun hHeld => ?_)
          clear hK K
          refine norm_ (a' := ?_) ?_ ?_
          rotate_left
          · show Act.put _ (some 103) _ = _
            simp only [Act.put, List.setIfInBounds_toArray, List.set_cons_zero, List.set_cons_succ, i64_w, i32_w]
            rfl
          refine pure_ (i := 24) (N := some 104) (v := ?_) (a' := ?_) #[true, true, true, true, true, true, true, true, true, true, true, true, true, true, true, true, true, true, true, true, true, true, true, true, true, false, false, false, false, false, false, false, false, false, false] rfl rfl (by kernel_rfl) (fun _ _ _ h => h) (Or.inl ⟨by rfl, ?_⟩) ?_ ?_
          rotate_left
          · intro w'
            go_simp
            with_reducible rfl
          rotate_left
          · simp only [Act.put, List.setIfInBounds_toArray, List.set_cons_zero, List.set_cons_succ, i64_w, i32_w]
            rfl
          refine pure_ (i := 25) (N := some 105) (v := ?_) (a' := ?_) #[true, true, true, true, true, true, true, true, true, true, true, true, true, true, true, true, true, true, true, true, true, true, true, true, true, true, false, false, false, false, false, false, false, false, false] rfl rfl (by kernel_rfl) (fun _ _ _ h => h) (Or.inl ⟨by rfl, ?_⟩) ?_ ?_
          rotate_left
          · intro w'
            go_simp
            with_reducible rfl
          rotate_left
          · simp only [Act.put, List.setIfInBounds_toArray, List.set_cons_zero, List.set_cons_succ, i64_w, i32_w]
            rfl
          refine pure_ (i := 26) (N := some 106) (v := ?_) (a' := ?_) #[true, true, true, true, true, true, true, true, true, true, true, true, true, true, true, true, true, true, true, true, true, true, true, true, true, true, true, false, false, false, false, false, false, false, false] rfl rfl (by kernel_rfl) (fun _ _ _ h => h) (Or.inl ⟨by rfl, ?_⟩) ?_ ?_
          rotate_left
          · intro w'
            go_simp
            with_reducible rfl
          rotate_left
          · simp only [Act.put, List.setIfInBounds_toArray, List.set_cons_zero, List.set_cons_succ, i64_w, i32_w]
            rfl
          refine pure_ (i := 27) (N := some 107) (v := ?_) (a' := ?_) #[true, true, true, true, true, true, true, true, true, true, true, true, true, true, true, true, true, true, true, true, true, true, true, true, true, true, true, true, false, false, false, false, false, false, false] rfl rfl (by kernel_rfl) (fun _ _ _ h => h) (Or.inl ⟨by rfl, ?_⟩) ?_ ?_
          rotate_left
          · intro w'
            go_simp
            with_reducible rfl
          rotate_left
          · simp only [Act.put, List.setIfInBounds_toArray, List.set_cons_zero, List.set_cons_succ, i64_w, i32_w]
            rfl
          refine pure_ (i := 28) (N := some 108) (v := ?_) (a' := ?_) #[true, true, true, true, true, true, true, true, true, true, true, true, true, true, true, true, true, true, true, true, true, true, true, true, true, true, true, true, true, false, false, false, false, false, false] rfl rfl (by kernel_rfl) (fun _ _ _ h => h) (Or.inl ⟨by rfl, ?_⟩) ?_ ?_
          rotate_left
          · intro w'
            go_simp
            with_reducible rfl
          rotate_left
          · simp only [Act.put, List.setIfInBounds_toArray, List.set_cons_zero, List.set_cons_succ, i64_w, i32_w]
            rfl
          refine pure_ (i := 30) (N := some 110) (v := ?_) (a' := ?_) #[true, true, true, true, true, true, true, true, true, true, true, true, true, true, true, true, true, true, true, true, true, true, true, true, true, true, true, true, true, false, true, false, false, false, false] rfl rfl (by kernel_rfl) (fun _ _ _ h => h) (Or.inl ⟨by rfl, ?_⟩) ?_ ?_
          rotate_left
          · intro w'
            go_simp
            with_reducible rfl
          rotate_left
          · simp only [Act.put, List.setIfInBounds_toArray, List.set_cons_zero, List.set_cons_succ, i64_w, i32_w]
            rfl
          refine pure_ (i := 31) (N := some 111) (v := ?_) (a' := ?_) #[true, true, true, true, true, true, true, true, true, true, true, true, true, true, true, true, true, true, true, true, true, true, true, true, true, true, true, true, true, false, true, true, false, false, false] rfl rfl (by kernel_rfl) (fun _ _ _ h => h) (Or.inl ⟨by rfl, ?_⟩) ?_ ?_
          rotate_left
          · intro w'
            go_simp
            with_reducible rfl
          rotate_left
          · simp only [Act.put, List.setIfInBounds_toArray, List.set_cons_zero, List.set_cons_succ, i64_w, i32_w]
            rfl
          refine one_ (i := 29) (N := some 109) #[true, true, true, true, true, true, true, true, true, true, true, true, true, true, true, true, true, true, true, true, true, true, true, true, true, true, true, true, true, true, true, true, false, false, false] rfl rfl (by kernel_rfl) (by decide) (fun K hK => ?_)
          refine goes_ Try.func39 (by kernel_rfl) rfl #[.pointer (some ⟨b, 0, none⟩), .string key] (by rfl) rfl rfl (by simp only [List.map_toArray, List.map_cons, List.map_nil]; rfl) ?_
          with_reducible refine (A8.out _ e8).mono ?_
          rintro e w9 ⟨rfl, f9⟩
          refine ⟨_, rfl, ?_⟩
          have e9 := e8.trans f9 (by simp)
          refine hK.out _ _ ((KF.out _ e9)) (fun hHeld => ?_)
          clear hK K
          refine norm_ (a' := ?_) ?_ ?_
          rotate_left
          · show Act.put _ (some 109) _ = _
            simp only [Act.put, List.setIfInBounds_toArray, List.set_cons_zero, List.set_cons_succ, i64_w, i32_w]
            rfl
          refine one_ (i := 32) (N := some 112) #[true, true, true, true, true, true, true, true, true, true, true, true, true, true, true, true, true, true, true, true, true, true, true, true, true, true, true, true, true, true, true, true, true, false, false] rfl rfl (by kernel_rfl) (by decide) (fun K hK => ?_)
          refine goes_ Try.func40 (by kernel_rfl) rfl #[.pointer (some ⟨r, 0, none⟩), .string key] (by rfl) rfl rfl (by simp only [List.map_toArray, List.map_cons, List.map_nil]; rfl) ?_
          with_reducible refine (A9.out _ e9).mono ?_
          rintro e w9 ⟨rfl, rfl⟩
          refine ⟨_, rfl, ?_⟩
          refine hK.out _ _ ((KF.out _ e9)) (fun hHeld => ?_)
          clear hK K
          refine norm_ (a' := ?_) ?_ ?_
          rotate_left
          · show Act.put _ (some 112) _ = _
            simp only [Act.put, List.setIfInBounds_toArray, List.set_cons_zero, List.set_cons_succ, i64_w, i32_w]
            rfl
          refine pure_ (i := 33) (N := some 113) (v := ?_) (a' := ?_) #[true, true, true, true, true, true, true, true, true, true, true, true, true, true, true, true, true, true, true, true, true, true, true, true, true, true, true, true, true, true, true, true, true, true, false] rfl rfl (by kernel_rfl) (fun _ _ _ h => h) (Or.inl ⟨by rfl, ?_⟩) ?_ ?_
          rotate_left
          · intro w'
            go_simp
            with_reducible rfl
          rotate_left
          · simp only [Act.put, List.setIfInBounds_toArray, List.set_cons_zero, List.set_cons_succ, i64_w, i32_w]
            rfl
          refine pure_ (i := 34) (N := some 114) (v := ?_) (a' := ?_) #[true, true, true, true, true, true, true, true, true, true, true, true, true, true, true, true, true, true, true, true, true, true, true, true, true, true, true, true, true, true, true, true, true, true, true] rfl rfl (by kernel_rfl) (fun _ _ _ h => h) (Or.inl ⟨by rfl, ?_⟩) ?_ ?_
          rotate_left
          · intro w'
            go_simp
            with_reducible rfl
          rotate_left
          · simp only [Act.put, List.setIfInBounds_toArray, List.set_cons_zero, List.set_cons_succ, i64_w, i32_w]
            rfl
          refine done_ (by kernel_rfl) ?_
          go_wp2_with fail
          have e9' : Ext [] wc w9 := Ext.of_drew e9
          exact ⟨⟨j + 1, S', R', L', by omega, rfl, HW.out.keep0 e9', HWR.out.keep0 e9', HOW.out.quiet e9', hlen', HOK.out⟩, by simp [intOf]; omega⟩
      · have d1 : decide (j < n) = false := decide_eq_false hj
        go_wp2_with fail
        refine (awakeH_any _).mono ?_
        rintro e w2 ⟨rfl, e2⟩
        go_wp2_with fail
        go_ret
        exact ⟨rfl, (ow.quiet e2).ext⟩
end Go.Proofs.Ytmmhpjodnceipaa
