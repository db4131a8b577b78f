/- CacheRooms: its walk. -/
import Derived.Test.YtkbjpackijdnkaaCacheAwake
import Derived.Test.YtkbjpackijdnkaaLow
import Derived.Laws.BytesArg
import Derived.Deep.DeepCutAuto
namespace Go.Proofs.Ytkbjpackijdnkaa
open Go.RowKit Go.Proofs.YtkbjpackijdnkaaW.PrintLast
set_option linter.unusedVariables false
set_option linter.unusedSimpArgs false

theorem nn0 (q : Nat) : (0 : Int) ≤ (q : Int) := Int.natCast_nonneg q
theorem w64n {q : Nat} (h : q ≤ 1000000) : wrap64 (q : Int) = (q : Int) := by unfold wrap64; omega
theorem w64n1 {q : Nat} (h : q ≤ 1000000) : wrap64 ((q : Int) + 1) = (q : Int) + 1 := by unfold wrap64; omega
theorem nle {q r : Nat} (h : q ≤ r) : (q : Int) ≤ (r : Int) := by omega
theorem nle1 {q r : Nat} (h : q < r) : (q : Int) + 1 ≤ (r : Int) := by omega
theorem nn1 (q : Nat) : (0 : Int) ≤ (q : Int) + 1 := by omega
theorem nt1 (q : Nat) : ((q : Int) + 1).toNat = q + 1 := by omega
theorem nsub1 {k m : Nat} (hk : 1 ≤ k) (h : m = k - 1) : (k : Int) - 1 = (m : Int) := by omega
/-- The name of the i-th method, the i-th entry. -/
def nmR (i : Nat) : ByteArray := strOfNums [65 + (i : Int) / 10, 65 + (i : Int) % 10]
def rE (i : Nat) (u : Int) : Ent := ⟨emp, emp, false, nmR i, emp, u⟩
theorem nmR_data (i : Nat) : (nmR i).data.toList = [UInt8.ofNat (65 + (i : Int) / 10).toNat, UInt8.ofNat (65 + (i : Int) % 10).toNat] := by
  unfold nmR; rw [strOfNums_data]; rfl
theorem nmR_ne (i : Nat) : nmR i ≠ emp := by
  intro h
  have h1 := nmR_data i
  rw [h] at h1
  simp [emp] at h1
theorem nmR_inj {i j : Nat} (hi : i < 100) (hj : j < 100) (h : nmR i = nmR j) : i = j := by
  have h1 := nmR_data i
  rw [h, nmR_data j] at h1
  injection h1 with h1 h2
  injection h2 with h2 _
  have h1 := congrArg UInt8.toNat h1
  have h2 := congrArg UInt8.toNat h2
  simp only [UInt8.toNat_ofNat'] at h1 h2
  omega
def InvR (i : Nat) (L : List Ent) : Prop := ∀ x ∈ L, ∃ (j : Nat) (t : Int), j < i ∧ 1 ≤ t ∧ x = rE j t
theorem InvR.nil (i : Nat) : InvR i [] := fun x hx => by simp at hx
def roomL (k : Nat) (i : Nat) (u : Int) (L : List Ent) : List Ent := (if k ≤ L.length then L.eraseIdx (eldM L) else L) ++ [rE i u]
theorem room_put {i k : Nat} {L : List Ent} {u : Int} (h : InvR i L) (hi : i < 100) (hu : 1 ≤ u) : putM k (rE i u) 0 L = (true, roomL k i u L) := by
  have hb : badE (rE i u) 0 = false := by unfold badE rE; simp [nmR_ne]; omega
  have hs : sweepL 0 L = L := by
    unfold sweepL
    rw [List.filter_eq_self]
    intro x hx
    obtain ⟨j, t, _, ht, rfl⟩ := h x hx
    unfold lateE rE
    simp; omega
  have hf : L.findIdx? (fun x => sameE x (rE i u)) = none := by
    rw [List.findIdx?_eq_none_iff]
    intro x hx
    obtain ⟨j, t, hj, ht, rfl⟩ := h x hx
    have : nmR j ≠ nmR i := fun e => by have := nmR_inj (by omega) hi e; omega
    unfold sameE rE
    simp [this]
  unfold putM putY roomL
  rw [hb, if_neg (by decide), hs, hf]
  by_cases hk : k ≤ L.length
  · rw [if_pos hk, if_pos (by omega)]
  · rw [if_neg hk, if_neg (by omega)]
theorem room_inv {i k : Nat} {L : List Ent} {u : Int} (h : InvR i L) (hu : 1 ≤ u) : InvR (i + 1) (roomL k i u L) := by
  intro x hx
  unfold roomL at hx
  rcases List.mem_append.1 hx with hx | hx
  · have : x ∈ L := by
      split at hx
      · exact List.mem_of_mem_eraseIdx hx
      · exact hx
    obtain ⟨j, t, hj, ht, e⟩ := h x this
    exact ⟨j, t, by omega, ht, e⟩
  · exact ⟨i, u, by omega, hu, by simpa using hx⟩
theorem room_full {i k : Nat} {L : List Ent} {u : Int} (hk : 1 ≤ k) (h : L.length = k) : roomL k i u L = L.eraseIdx (eldM L) ++ [rE i u] ∧ (roomL k i u L).length = k ∧ eldM L < k := by
  have he : eldM L < k := by unfold eldM; rw [h]; exact eldA_lt hk
  have h1 : roomL k i u L = L.eraseIdx (eldM L) ++ [rE i u] := by unfold roomL; rw [if_pos (by omega)]
  refine ⟨h1, ?_, he⟩
  rw [h1, List.length_append, List.length_eraseIdx_of_lt (by omega)]; simp; omega
theorem room_room {i k : Nat} {L : List Ent} {u : Int} (h : L.length < k) : roomL k i u L = L ++ [rE i u] ∧ (roomL k i u L).length = L.length + 1 := by
  have h1 : roomL k i u L = L ++ [rE i u] := by unfold roomL; rw [if_neg (by omega)]
  exact ⟨h1, by rw [h1]; simp⟩
theorem roomL_last {i k : Nat} {L : List Ent} {u : Int} : (roomL k i u L)[(roomL k i u L).length - 1]? = some (rE i u) := by
  unfold roomL
  rw [List.length_append, List.getElem?_append_right (by simp)]
  simp

set_option maxHeartbeats 6400000 in
set_option maxRecDepth 100000 in
theorem cacheRooms_walk (w : World) (mo : Int) (hmo : (Lit.int .i64 mo).wf = true) (a : Option Addr) (n c : Nat) (xs : List Int) (hs : Slc (encI .u64) 1 w a n xs) (hg : ∀ z ∈ xs, (Lit.int .u64 z).wf = true) :
    Calls Try.prog 3 #[.int .i64 mo, .slice a n c] w fun e w' => e = .returned (.bool true) ∧ Ext [] w w' := by
  clear hmo
  by_cases hn : 100 < n
  · go_enter Try.func3, Try.ntmps3
    go_wp2_with fail
    refine (awakeC_any _).mono ?_
    rintro e w1 ⟨rfl, e1⟩
    go_wp2_with fail
    go_ret
    exact ⟨rfl, e1⟩
  have hn' : n ≤ 100 := by omega
  have HS := Lib.hid hs; have HG := Lib.hid hg
  clear hs hn hg
  have hlb := lowI_bd mo 64 (by omega)
  have hLow := low_any mo 64 (by omega) (by omega)
  obtain ⟨k, hk⟩ : ∃ k : Nat, 1 + lowI mo 64 = (k : Int) := ⟨(1 + lowI mo 64).toNat, by omega⟩
  have hk1 : 1 ≤ k := by omega
  have hk64 : k ≤ 64 := by omega
  have c0 := fun W => co_new (k : Int) W
  rw [show clampC (k : Int) = k by unfold clampC; omega] at c0
  have hkk : lowI mo 64 = (k : Int) - 1 := by omega
  rw [hkk] at hLow
  have HLOW := Lib.hid hLow; have C0 := Lib.hid c0
  clear hlb hLow hk hkk c0
  go_enter Try.func3, Try.ntmps3
  go_wp2_with fail
  refine (HLOW.out _).mono ?_
  rintro e w1 ⟨rfl, rfl⟩
  go_wp2_with fail
  rw [show (1 : Int) + ((k : Int) - 1) = k by omega]
  refine (C0.out w).mono ?_
  rintro e w1 ⟨rfl, h1, e1⟩
  have o1 := Own.start e1 (S := [w.heap.size]) (by simp)
  obtain ⟨b, hb⟩ : ∃ b, w.heap.size = b := ⟨_, rfl⟩
  rw [hb] at h1 o1
  clear e1
  go_wp2_with fail
  go_loopw [7] (fun iv wr => ∃ (i : Nat) (S : List Nat) (L : List Ent), i ≤ n ∧ iv = .int .i64 i ∧ CO k wr b S L ∧ Own w wr S ∧ L.length ≤ k ∧ Hid (InvR i L)) (fun iv _ => n - (intOf iv).toNat)
  case atStart => exact ⟨0, _, [], Nat.zero_le _, rfl, h1, o1, Nat.zero_le _, InvR.nil _⟩
  case round =>
    obtain ⟨i, S, L, hin, rfl, hw, ow, hlk, hinv⟩ := hrel
    clear h1 o1 hb
    by_cases hi : i < n
    · have d1 : decide (i < n) = true := decide_eq_true hi
      have b1 : (0 : Int) ≤ (i : Int) := by omega
      have b2 : (i : Int) < (n : Int) := by omega
      obtain ⟨x, hx⟩ : ∃ x, xs[i]? = some x := ⟨_, List.getElem?_eq_getElem (by rw [HS.out.1]; exact hi)⟩
      have hxa : ∃ ab ao, a = some ⟨ab, ao, none⟩ ∧ ab < w.heap.size ∧ w.cell? ⟨ab, ao + i, none⟩ = some (.int .u64 x) := by
        obtain ⟨ab, ao, h1, h2, h3⟩ := HS.out.2 (by omega)
        have := h3 i x hx 0 _ rfl
        rw [Nat.mul_one, Nat.add_zero] at this
        exact ⟨ab, ao, h1, h2, this⟩
      obtain ⟨ab, ao, rfl, hab, hx0⟩ := hxa
      have hx1 := (ow.ext.cell (p := ⟨ab, ao + i, none⟩) hab (by simp)).trans hx0
      have habw : ab < wr.heap.size := Nat.lt_of_lt_of_le hab ow.ext.size
      have hcb := run_convert_bytes_arg (P := Try.prog) (wr.alloc (.cells #[.int .u8 (65 + (i : Int) / 10), .int .u8 (65 + (i : Int) % 10)] 5 (0, 0))) 27 5 Try.underlying27 Try.underlying5 wr.heap.size 0 2 2 [65 + (i : Int) / 10, 65 + (i : Int) % 10] rfl
        (fun j hj => by
          have hb := Blk.new wr #[.int .u8 (65 + (i : Int) / 10), .int .u8 (65 + (i : Int) % 10)] 5
          rw [Nat.zero_add, hb.cell j]
          match j, hj with
          | 0, _ => rfl
          | 1, _ => rfl) 9 Try.underlying9
      have hnm : strOfNums [65 + (i : Int) / 10, 65 + (i : Int) % 10] = nmR i := rfl
      rw [hnm] at hcb
      have e2 : Ext [] wr (wr.alloc (.cells #[.int .u8 (65 + (i : Int) / 10), .int .u8 (65 + (i : Int) % 10)] 5 (0, 0))) := (Ext.refl _ _).alloc _
      have HW := Lib.hid hw; have HOW := Lib.hid ow; have E2 := Lib.hid e2
      obtain ⟨u, hu, hu1⟩ : ∃ u, u = (if x < 1 then (1 : Int) else x) ∧ 1 ≤ u := ⟨_, rfl, by split <;> omega⟩
      have HU := Lib.hid hu
      clear hx hx0 hnm hw ow e2 hu hab
      go_upto_if 46 with fail
      go_cut [9] (fun s9 wx => s9 = .int .u64 u ∧ Ext [] wr wx)
      case first =>
        by_cases hx1' : x < 1
        · have d2 : decide (x < 1) = true := decide_eq_true hx1'
          have hu0 : u = 1 := by rw [HU.out, if_pos hx1']
          go_wp2_with fail
          go_meet
          exact ⟨by rw [hu0], E2.out⟩
        · have d2 : decide (x < 1) = false := decide_eq_false hx1'
          have hu0 : u = x := by rw [HU.out, if_neg hx1']
          go_wp2_with fail
          go_meet
          exact ⟨by rw [hu0], E2.out⟩
      case rest =>
        obtain ⟨rfl, ec⟩ := hcut
        have hwc := HW.out.keep0 ec
        have owc := HOW.out.quiet ec
        have hce := co_entries (k : Int) b S L (by omega) wc hwc
        have hpu := room_put (k := k) hinv.out (by omega) hu1
        have hin2 := room_inv (k := k) hinv.out hu1
        have hlast := roomL_last (k := k) (i := i) (u := u) (L := L)
        have hll : (roomL k i u L).length ≤ k := by
          unfold roomL
          split
          · rename_i h
            have he : eldM L < L.length := by unfold eldM; exact eldA_lt (by omega)
            rw [List.length_append, List.length_eraseIdx_of_lt he]; simp; omega
          · simp; omega
        have hl1 : 1 ≤ (roomL k i u L).length := by unfold roomL; simp
        have hcp := fun W (hW : CO (k : Int) W b S L) => co_put (k : Int) b S L (rE i u) 0 (by omega) (by omega) W hW
        unfold PutP at hcp
        rw [hpu] at hcp
        have hcp : ∀ W, CO (k : Int) W b S L → Calls Try.prog 16 #[.pointer (some ⟨b, 0, none⟩), .agg #[.string ⟨#[]⟩, .string ⟨#[]⟩, .bool false, .string (nmR i), .string ⟨#[]⟩, .int .u64 u], .int .u64 0] W fun e w' => e = .returned (.bool true) ∧ Chg (fun w' S' => CO (k : Int) w' b S' (roomL k i u L)) S W w' := hcp
        have hfull := fun (h : L.length = k) => room_full (i := i) (u := u) hk1 h
        have hroom := fun (h : L.length < k) => room_room (i := i) (u := u) h
        obtain ⟨L', hL'⟩ : ∃ L', L' = roomL k i u L := ⟨_, rfl⟩
        rw [← hL'] at hcp hin2 hlast hll hl1 hfull hroom
        obtain ⟨lw, hlw⟩ : ∃ lw, lw = L.length := ⟨_, rfl⟩
        obtain ⟨ln, hln⟩ : ∃ ln, ln = L'.length := ⟨_, rfl⟩
        rw [← hlw] at hfull hroom hlk; rw [← hln] at hfull hroom hlast hll hl1
        have hce2 := fun S' W (hW : CO (k : Int) W b S' L') => co_entries (k : Int) b S' L' (by omega) W hW
        unfold EntriesP at hce hce2
        rw [← hlw] at hce; rw [← hln] at hce2
        have HCE := Lib.hid hce; have HCP := Lib.hid hcp; have HCE2 := Lib.hid hce2; have HIN2 := Lib.hid hin2; have HLAST := Lib.hid hlast; have HFULL := Lib.hid hfull; have HROOM := Lib.hid hroom; have HLW := Lib.hid hlw; have HLN := Lib.hid hln
        have HWC := Lib.hid hwc; have HOC := Lib.hid owc
        have hm2 : (ln : Int) = min ((lw : Int) + 1) (k : Int) := by
          by_cases h : lw = k
          · have := (hfull h).2.1; omega
          · have := (hroom (by omega)).2; omega
        clear hwc owc hce hpu hin2 hlast hcp hL' hlw hln hce2 HW HOW E2 hinv hfull hroom hcb hx1
        go_wp2_with fail
        refine HCE.out.mono ?_
        rintro e w2 ⟨wa, wcp, rfl, hr2, x2, hf2⟩
        have hw2 := HWC.out.keep0 x2; have ow2 := HOC.out.quiet x2
        have hlt2 : ∀ g, (Value.slice wa lw wcp).ownBlock = some g → g ∉ S := fun g hg hm => by have h1 := hf2 g hg; have h2 := HWC.out.lt g hm; omega
        have HR2 := Lib.hid hr2; have HW2 := Lib.hid hw2; have HO2 := Lib.hid ow2; have HLT2 := Lib.hid hlt2
        clear hr2 hf2 hw2 ow2 x2 hlt2 HWC HOC HCE
        go_wp2_with fail
        refine (HCP.out w2 HW2.out).mono ?_
        rintro e w3 ⟨rfl, S3, h3, x3, k3⟩
        have ow3 := HO2.out.step x3 k3
        have hr3 := HR2.out.keep x3 HLT2.out
        have H3 := Lib.hid h3; have HO3 := Lib.hid ow3; have HR3 := Lib.hid hr3
        clear h3 x3 k3 ow3 hr3 HR2 HW2 HO2 HLT2 HCP
        go_wp2_with fail
        refine (HCE2.out S3 w3 H3.out).mono ?_
        rintro e w4 ⟨na, nc, rfl, hr4, x4, hf4⟩
        have h4 := H3.out.keep0 x4; have ow4 := HO3.out.quiet x4; have hwas := HR3.out.keep x4 (by simp)
        obtain ⟨ng, rfl, hng⟩ := hr4.addr (by omega)
        obtain ⟨p, hp⟩ : ∃ p, p = ln - 1 := ⟨_, rfl⟩
        have hlast := HLAST.out
        rw [← hp] at hlast
        have n3 := hr4.cell encE_ok.len hlast 3 (by omega); have n5 := hr4.cell encE_ok.len hlast 5 (by omega)
        simp only [encE, rE, List.getElem?_cons_zero, List.getElem?_cons_succ] at n3 n5
        have hpm : (ln : Int) - 1 = (p : Int) := by omega
        have b3 : (0 : Int) ≤ (p : Int) := by omega
        have b4 : (p : Int) < (ln : Int) := by omega
        have HR4 := Lib.hid hr4; have H4 := Lib.hid h4; have HO4 := Lib.hid ow4; have HWAS := Lib.hid hwas
        clear hr4 h4 ow4 hwas hlast hf4 H3 HO3 HR3 HCE2 HLAST x4 hp
        by_cases hf : lw = k
        · have hm4 : min ((k : Int) + 1) (k : Int) = (ln : Int) := by omega
          have hm5 : min ((lw : Int) + 1) (k : Int) = (ln : Int) := by omega
          have hlnk : ln = k := (HFULL.out hf).2.1
          have d3 : ((lw : Int) == (k : Int)) = true := by rw [hf]; simp
          have HLNK := Lib.hid hlnk; have HF := Lib.hid hf
          clear hm2 hlnk hf
          go_wp2_with fail
          clear n3 n5 hm4 hm5 hpm b3 b4
          have hfl := HFULL.out HF.out
          have HEL := Lib.hid hfl.1; have HELT := Lib.hid hfl.2.2
          obtain ⟨wg, rfl, hwg⟩ := HWAS.out.addr (by rw [HF.out]; omega)
          have hwcap := HWAS.out.cap_le
          have hncap := HR4.out.cap_le
          clear hfl
          go_loopw [12, 13] (fun gv jv wx => ∃ (j : Nat), 1 ≤ j ∧ j ≤ lw ∧ jv = .int .i64 j ∧ gv = .int .i64 (eldA L j) ∧ Ext [] w4 wx) (fun _ jv _ => lw - (intOf jv).toNat)
          case atStart =>
            refine ⟨1, Nat.le_refl _, by rw [HF.out]; exact hk1, rfl, ?_, Ext.refl _ _⟩
            have : eldA L 1 = 0 := by have := eldA_lt (xs := L) (k := 1) (by omega); omega
            rw [this]; rfl
          case round =>
            obtain ⟨j, hj1, hjl, rfl, rfl, hex⟩ := hrel
            by_cases hj : j < lw
            · have d4 : decide (j < lw) = true := decide_eq_true hj
              obtain ⟨x, hxj⟩ : ∃ x, L[j]? = some x := ⟨_, List.getElem?_eq_getElem (by rw [← HLW.out]; exact hj)⟩
              have hej := eldA_le L j
              obtain ⟨y, hyj⟩ : ∃ y, L[eldA L j]? = some y := ⟨_, List.getElem?_eq_getElem (by rw [← HLW.out]; omega)⟩
              have hst := eldA_step hxj hyj
              have hr := HWAS.out.keep hex (by simp)
              have l5 := hr.cell encE_ok.len hxj 5 (by omega); have m5 := hr.cell encE_ok.len hyj 5 (by omega)
              generalize eldA L j = q at *
              simp only [encE, List.getElem?_cons_zero, List.getElem?_cons_succ] at l5 m5
              have b5 : (0 : Int) ≤ (j : Int) := by omega
              have b6 : (j : Int) < (lw : Int) := by omega
              have b7 : (0 : Int) ≤ (q : Int) := by omega
              have b8 : (q : Int) < (lw : Int) := by omega
              have HST := Lib.hid hst
              clear hr hxj hyj hst
              by_cases hc : x.til < y.til
              · have d5 : decide (x.til < y.til) = true := decide_eq_true hc
                rw [if_pos hc] at HST
                go_wp2_with fail
                go_quiet (fail)
                go_wp2_with fail
                exact ⟨⟨j + 1, by omega, by omega, by go_num, by rw [HST.out], hex.drewN _⟩, by simp [intOf]; omega⟩
              · have d5 : decide (x.til < y.til) = false := decide_eq_false hc
                rw [if_neg hc] at HST
                go_wp2_with fail
                go_quiet (fail)
                go_wp2_with fail
                exact ⟨⟨j + 1, by omega, by omega, by go_num, by rw [HST.out], hex.drewN _⟩, by simp [intOf]; omega⟩
            · have d4 : decide (j < lw) = false := decide_eq_false hj
              have hjw : j = lw := by omega
              have hje : eldA L j = eldM L := by unfold eldM; rw [hjw, HLW.out]
              rw [hje]
              generalize eldM L = g at *
              obtain ⟨km, hkm⟩ : ∃ km, km = k - 1 := ⟨_, rfl⟩
              have hkm1 : (k : Int) - 1 = (km : Int) := nsub1 hk1 hkm
              have hglt : g < lw := by rw [HF.out]; exact HELT.out
              have hcut : L'.take km = L.take g ++ L.drop (g + 1) := by
                have hel : (L.eraseIdx g).length = km := by rw [List.length_eraseIdx_of_lt (by rw [← HLW.out]; exact hglt), ← HLW.out, HF.out, hkm]
                rw [HEL.out, List.take_left' hel, List.eraseIdx_eq_take_drop_succ]
              have hrow1 := (HR4.out.keep hex (by simp)).take encE_ok.len (m := km) (by rw [← HLN.out, HLNK.out]; omega)
              rw [hcut] at hrow1
              have hwr := HWAS.out.keep hex (by simp)
              have hsa := hwr.drew.takeSl encE_ok.len (i := g) (by omega) wcp
              have hsb := hwr.drew.tailSl encE_ok.len (i := g + 1) (by omega)
              have hl1 : LenIs ([] : List Ent) (L.take g) g := by unfold LenIs; rw [List.length_take]; have := HLW.out; simp; omega
              have hl2 : LenIs (L.take g) (L.drop (g + 1)) (lw - 1) := by unfold LenIs; rw [List.length_take, List.length_drop]; have := HLW.out; omega
              have hXl : (L.take g ++ L.drop (g + 1)).length < 1000000 := by rw [List.length_append, List.length_take, List.length_drop]; have := HLW.out; omega
              have hgw : g ≤ wcp := Nat.le_trans (Nat.le_of_lt hglt) hwcap
              have f1 : (g : Int) ≤ (wcp : Int) := nle hgw
              have f2 : (g : Int) + 1 ≤ (lw : Int) := nle1 hglt
              have f3 := nn1 g
              have f4 := nt1 g
              have hg6 : g ≤ 1000000 := by have := HF.out; omega
              have f5 := w64n1 hg6
              have f6 := nn0 km
              have hkn : km ≤ nc := by have := HLNK.out; omega
              have f7 : (km : Int) ≤ (nc : Int) := nle hkn
              have f8 := nn0 g
              have hk6 : km ≤ 1000000 := by omega
              have hlw6 : lw - 1 ≤ 1000000 := by omega
              have f9 := w64n hk6
              have HROW1 := Lib.hid hrow1; have HSA := Lib.hid hsa; have HSB := Lib.hid hsb; have HL1 := Lib.hid hl1; have HL2 := Lib.hid hl2; have HEX := Lib.hid hex; have HXL := Lib.hid hXl
              clear hcut hrow1 hwr hsa hsb hl1 hl2 hex hje hjw hXl hkm hj1 hjl hj hglt HELT HEL
              go_wp2_with fail
              refine start_ (n := 15) (S := fun w' => True) (ds := []) #[false, false, false, false, false, false, false, false, false, false, false, false, false, false, false] (by kernel_rfl) rfl rfl trivial (fun hHeld => ?_)
              refine pure_ (i := 0) (N := some 109) (v := ?_) (a' := ?_) #[true, false, false, false, false, false, false, false, false, false, false, false, false, false, false] rfl rfl (by kernel_rfl) (fun _ _ _ h => h) (Or.inl ⟨by rfl, ?_⟩) ?_ ?_
              rotate_left
              · intro w'
                go_simp
                with_reducible rfl
              rotate_left
              · simp only [Act.put, List.setIfInBounds_toArray, List.set_cons_zero, List.set_cons_succ, i64_w, i32_w]
                rfl
              refine pure_ (i := 1) (N := some 110) (v := ?_) (a' := ?_) #[true, true, false, false, false, false, false, false, false, false, false, false, false, false, false] rfl rfl (by kernel_rfl) (fun _ _ _ h => h) (Or.inl ⟨by rfl, ?_⟩) ?_ ?_
              rotate_left
              · intro w'
                go_simp
                with_reducible rfl
              rotate_left
              · simp only [Act.put, List.setIfInBounds_toArray, List.set_cons_zero, List.set_cons_succ, i64_w, i32_w]
                rfl
              refine pure_ (i := 2) (N := some 111) (v := ?_) (a' := ?_) #[true, true, true, false, false, false, false, false, false, false, false, false, false, false, false] rfl rfl (by kernel_rfl) (fun _ _ _ h => h) (Or.inl ⟨by rfl, ?_⟩) ?_ ?_
              rotate_left
              · intro w'
                go_simp
                with_reducible rfl
              rotate_left
              · simp only [Act.put, List.setIfInBounds_toArray, List.set_cons_zero, List.set_cons_succ, i64_w, i32_w]
                rfl
              refine pure_ (i := 3) (N := some 112) (v := ?_) (a' := ?_) #[true, true, true, true, false, false, false, false, false, false, false, false, false, false, false] rfl rfl (by kernel_rfl) (fun _ _ _ h => h) (Or.inl ⟨by rfl, ?_⟩) ?_ ?_
              rotate_left
              · intro w'
                go_simp
                with_reducible rfl
              rotate_left
              · simp only [Act.put, List.setIfInBounds_toArray, List.set_cons_zero, List.set_cons_succ, i64_w, i32_w]
                rfl
              refine pure_ (i := 4) (N := some 113) (v := ?_) (a' := ?_) #[true, true, true, true, true, false, false, false, false, false, false, false, false, false, false] rfl rfl (by kernel_rfl) (fun _ _ _ h => h) (Or.inl ⟨by rfl, ?_⟩) ?_ ?_
              rotate_left
              · intro w'
                go_simp
                with_reducible rfl
              rotate_left
              · simp only [Act.put, List.setIfInBounds_toArray, List.set_cons_zero, List.set_cons_succ, i64_w, i32_w]
                rfl
              refine pure_ (i := 5) (N := some 114) (v := ?_) (a' := ?_) #[true, true, true, true, true, true, false, false, false, false, false, false, false, false, false] rfl rfl (by kernel_rfl) (fun _ _ _ h => h) (Or.inl ⟨by rfl, ?_⟩) ?_ ?_
              rotate_left
              · intro w'
                go_simp
                with_reducible rfl
              rotate_left
              · simp only [Act.put, List.setIfInBounds_toArray, List.set_cons_zero, List.set_cons_succ, i64_w, i32_w]
                rfl
              refine pure_ (i := 6) (N := some 115) (v := ?_) (a' := ?_) #[true, true, true, true, true, true, true, false, false, false, false, false, false, false, false] rfl rfl (by kernel_rfl) (fun _ _ _ h => h) (Or.inl ⟨by rfl, ?_⟩) ?_ ?_
              rotate_left
              · intro w'
                go_simp
                with_reducible rfl
              rotate_left
              · simp only [Act.put, List.setIfInBounds_toArray, List.set_cons_zero, List.set_cons_succ, i64_w, i32_w]
                rfl
              refine pure_ (i := 8) (N := some 117) (v := ?_) (a' := ?_) #[true, true, true, true, true, true, true, false, true, false, false, false, false, false, false] rfl rfl (by kernel_rfl) (fun _ _ _ h => h) (Or.inl ⟨by rfl, ?_⟩) ?_ ?_
              rotate_left
              · intro w'
                go_simp
                with_reducible rfl
              rotate_left
              · simp only [Act.put, List.setIfInBounds_toArray, List.set_cons_zero, List.set_cons_succ, i64_w, i32_w]
                rfl
              refine pure_ (i := 9) (N := some 118) (v := ?_) (a' := ?_) #[true, true, true, true, true, true, true, false, true, true, false, false, false, false, false] rfl rfl (by kernel_rfl) (fun _ _ _ h => h) (Or.inl ⟨by rfl, ?_⟩) ?_ ?_
              rotate_left
              · intro w'
                go_simp
                with_reducible rfl
              rotate_left
              · simp only [Act.put, List.setIfInBounds_toArray, List.set_cons_zero, List.set_cons_succ, i64_w, i32_w]
                rfl
              refine pure_ (i := 10) (N := some 119) (v := ?_) (a' := ?_) #[true, true, true, true, true, true, true, false, true, true, true, false, false, false, false] rfl rfl (by kernel_rfl) (fun _ _ _ h => h) (Or.inl ⟨by rfl, ?_⟩) ?_ ?_
              rotate_left
              · intro w'
                go_simp
                with_reducible rfl
              rotate_left
              · simp only [Act.put, List.setIfInBounds_toArray, List.set_cons_zero, List.set_cons_succ, i64_w, i32_w]
                rfl
              refine pure_ (i := 11) (N := some 120) (v := ?_) (a' := ?_) #[true, true, true, true, true, true, true, false, true, true, true, true, false, false, false] rfl rfl (by kernel_rfl) (fun _ _ _ h => h) (Or.inl ⟨by rfl, ?_⟩) ?_ ?_
              rotate_left
              · intro w'
                go_simp
                with_reducible rfl
              rotate_left
              · simp only [Act.put, List.setIfInBounds_toArray, List.set_cons_zero, List.set_cons_succ, i64_w, i32_w]
                rfl
              refine one_ (i := 7) (N := some 116) #[true, true, true, true, true, true, true, true, true, true, true, true, false, false, false] rfl rfl (by kernel_rfl) (by decide) (fun K hK => ?_)
              refine step_appN tyE encE_ok (by rfl) _ _ (by rfl) (Rw.nil wr.drew) (by rfl) HSA.out (by rfl) HL1.out hg6 ?_
              intro a1 c1 w5 hr1 hS1 hg1
              have he1 : Ext [] wr w5 := Ext.of_drew (hS1 [] (by simp [Value.ownBlock]))
              have hg1' : ∀ q, (Value.slice a1 g c1).ownBlock = some q → wr.heap.size ≤ q := fun q hq => (hg1 q hq).elim (fun h => by simp [Value.ownBlock] at h) (fun h => h)
              rw [List.nil_append] at hr1
              clear hS1 hg1
              refine hK.out _ _ trivial (fun hHeld => ?_)
              clear hK K
              refine norm_ (a' := ?_) ?_ ?_
              rotate_left
              · show Act.put _ (some 116) _ = _
                simp only [Act.put, List.setIfInBounds_toArray, List.set_cons_zero, List.set_cons_succ, i64_w, i32_w]
                rfl
              refine one_ (i := 12) (N := some 121) #[true, true, true, true, true, true, true, true, true, true, true, true, true, false, false] rfl rfl (by kernel_rfl) (by decide) (fun K hK => ?_)
              refine step_appN tyE encE_ok (by rfl) _ _ (by rfl) hr1 (by rfl) (HSB.out.keep (Ext.of_drew_left he1) (by simp)) (by rfl) HL2.out hlw6 ?_
              intro a2 c2 w6 hr2 hS2 hg2
              have he2 : Ext [] wr w6 := fresh_app he1 hg1' hS2
              refine hK.out _ _ trivial (fun hHeld => ?_)
              clear hK K
              refine norm_ (a' := ?_) ?_ ?_
              rotate_left
              · show Act.put _ (some 121) _ = _
                simp only [Act.put, List.setIfInBounds_toArray, List.set_cons_zero, List.set_cons_succ, i64_w, i32_w]
                rfl
              refine one_ (i := 13) (N := some 122) #[true, true, true, true, true, true, true, true, true, true, true, true, true, true, false] rfl rfl (by kernel_rfl) (by decide) (fun K hK => ?_)
              refine goes_ Try.func17 (by kernel_rfl) rfl #[.slice (some ⟨ng, 0, none⟩) km nc, .slice a2 (lw - 1) c2] (by rfl) rfl rfl (by simp only [List.map_toArray, List.map_cons, List.map_nil]; rfl) ?_
              with_reducible refine (entries_any _ _ _ HXL.out w6 (HROW1.out.keep he2 (by simp)) hr2).mono ?_
              rintro e w7 ⟨rfl, e7⟩
              refine ⟨_, rfl, ?_⟩
              refine hK.out _ _ trivial (fun hHeld => ?_)
              clear hK K
              refine norm_ (a' := ?_) ?_ ?_
              rotate_left
              · show Act.put _ (some 122) _ = _
                simp only [Act.put, List.setIfInBounds_toArray, List.set_cons_zero, List.set_cons_succ, i64_w, i32_w]
                rfl
              refine pure_ (i := 14) (N := some 123) (v := ?_) (a' := ?_) #[true, true, true, true, true, true, true, true, true, true, true, true, true, true, true] rfl rfl (by kernel_rfl) (fun _ _ _ h => h) (Or.inl ⟨by rfl, ?_⟩) ?_ ?_
              rotate_left
              · intro w'
                go_simp
                with_reducible rfl
              rotate_left
              · simp only [Act.put, List.setIfInBounds_toArray, List.set_cons_zero, List.set_cons_succ, i64_w, i32_w]
                rfl
              refine done_ (by kernel_rfl) ?_
              go_wp2_with fail
              clear f1 f2 f3 f4 f5 f6 f7 f8 f9 hkm1
              have e8 := (HEX.out.trans he2 (by simp)).trans e7 (by simp)
              exact ⟨⟨i + 1, S3, L', by omega, by go_num, H4.out.keep0 e8, HO4.out.quiet e8, by rw [← HLN.out]; exact hll, HIN2.out⟩, by simp [intOf]; omega⟩
        · have hlt : lw < k := by omega
          have d3 : ((lw : Int) == (k : Int)) = false := by rw [beq_eq_false_iff_ne]; omega
          have hm5 : min ((lw : Int) + 1) (k : Int) = (ln : Int) := by omega
          clear hm2 hf HFULL HROOM
          go_wp2_with fail
          exact ⟨⟨i + 1, S3, L', by omega, by go_num, H4.out, HO4.out, by rw [← HLN.out]; exact hll, HIN2.out⟩, by simp [intOf]; omega⟩
    · have d1 : decide (i < n) = false := decide_eq_false hi
      have hce := co_entries (k : Int) b S L (by omega) wr hw
      have d2 : decide (L.length ≤ k) = true := decide_eq_true hlk
      have HCE := Lib.hid hce
      clear hw hce
      go_wp2_with fail
      refine HCE.out.mono ?_
      rintro e w2 ⟨ea, ec, rfl, hr2, e2, hf2⟩
      clear hr2 hf2
      go_wp2_with fail
      refine (awakeC_any _).mono ?_
      rintro e w3 ⟨rfl, e3⟩
      go_wp2_with fail
      go_ret
      exact ⟨rfl, (ow.ext.trans e2 (by simp)).trans e3 (by simp)⟩
end Go.Proofs.Ytkbjpackijdnkaa
