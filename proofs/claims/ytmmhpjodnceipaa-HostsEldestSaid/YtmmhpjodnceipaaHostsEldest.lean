/- HostsEldest: its walk. -/
import Derived.Test.YtmmhpjodnceipaaHostsO
import Derived.Test.YtmmhpjodnceipaaLow
import Derived.Test.YtmmhpjodnceipaaStructs
import Derived.Deep.DeepCutAuto
namespace Go.Proofs.Ytmmhpjodnceipaa
open Go.RowKit
set_option linter.unusedVariables false
set_option linter.unusedSimpArgs false

/-- The name of the i-th host. -/
def nm (i : Nat) : ByteArray := ⟨#[UInt8.ofNat (97 + i / 26), UInt8.ofNat (97 + i % 26)]⟩
theorem nm_inj {a b : Nat} (ha : a < 32) (hb : b < 32) (h : nm a = nm b) : a = b := by
  have h1 : #[UInt8.ofNat (97 + a / 26), UInt8.ofNat (97 + a % 26)] = #[UInt8.ofNat (97 + b / 26), UInt8.ofNat (97 + b % 26)] := congrArg (fun x : ByteArray => x.data) h
  simp only [Array.mk.injEq, List.cons.injEq, and_true] at h1
  have h2 := congrArg UInt8.toNat h1.1
  have h3 := congrArg UInt8.toNat h1.2
  simp at h2 h3
  omega
def new3 : ByteArray := ⟨#[110, 101, 119]⟩
theorem nm_new (i : Nat) : nm i ≠ new3 := fun h => by
  have := congrArg ByteArray.size h
  exact absurd this (show ¬ (2 = 3) by decide)

set_option maxHeartbeats 800000 in
set_option maxRecDepth 10000 in
theorem name_any (i : Nat) (hi : i < 32) (w : World) : Calls Try.prog 41 #[.int .i64 i] w fun e w' => e = .returned (.string (nm i)) ∧ Ext [] w w' := by
  have hconv : Sem.run Try.prog (convert 69 9 (.slice (some ⟨w.heap.size, 0, none⟩) 2 2)) (w.alloc (.cells #[.int .u8 (97 + (i : Int) / 26), .int .u8 (97 + (i : Int) % 26)] 5 (0, 0))) = .ok (.string (nm i)) (w.alloc (.cells #[.int .u8 (97 + (i : Int) / 26), .int .u8 (97 + (i : Int) % 26)] 5 (0, 0))) := by
    have u1 : ((UInt8.ofNat (97 + i / 26)).toNat : Int) = 97 + (i : Int) / 26 := by simp; omega
    have u2 : ((UInt8.ofNat (97 + i % 26)).toNat : Int) = 97 + (i : Int) % 26 := by simp; omega
    exact run_convert_bytes_back (P := Try.prog) _ 69 9 5 ⟨w.heap.size, 0, none⟩ 2 [UInt8.ofNat (97 + i / 26), UInt8.ofNat (97 + i % 26)] (by kernel_rfl) (by kernel_rfl) (by kernel_rfl) (fun j hj => by
      have hb := fun k => (Blk.new w #[.int .u8 (97 + (i : Int) / 26), .int .u8 (97 + (i : Int) % 26)] 5).cell k
      have hj2 : j = 0 ∨ j = 1 := by simp at hj; omega
      rcases hj2 with rfl | rfl
      · show World.cell? _ ⟨w.heap.size, 0, none⟩ = some (.int .u8 ((UInt8.ofNat (97 + i / 26)).toNat : Int))
        rw [hb 0, u1]; rfl
      · show World.cell? _ ⟨w.heap.size, 1, none⟩ = some (.int .u8 ((UInt8.ofNat (97 + i % 26)).toNat : Int))
        rw [hb 1, u2]; rfl)
  have HC := Lib.hid hconv
  clear hconv
  have hi' : i ≤ 31 := by omega
  clear hi
  have hconv := HC.out
  clear HC
  go_enter Try.func41, Try.ntmps41
  go_wp2_with fail
  go_ret
  exact ⟨rfl, (Ext.refl _ _).alloc _⟩

/-- k hosts, each with one use, but those of the first j that fr tells. -/
def eld (k j : Nat) (fr : Nat → Bool) : List Hs := (List.range k).map fun i => ⟨nm i, if decide (i < j) && fr i then 0 else 1⟩
theorem eld_len (k j : Nat) (fr : Nat → Bool) : (eld k j fr).length = k := by simp [eld]
theorem eld_get {k j : Nat} {fr : Nat → Bool} {i : Nat} (h : i < k) : (eld k j fr)[i]? = some ⟨nm i, if decide (i < j) && fr i then 0 else 1⟩ := by
  unfold eld; rw [List.getElem?_map, List.getElem?_range h]; rfl
theorem eld_mem {k j : Nat} {fr : Nat → Bool} {x : Hs} (h : x ∈ eld k j fr) : ∃ i, i < k ∧ x = ⟨nm i, if decide (i < j) && fr i then 0 else 1⟩ := by
  unfold eld at h
  obtain ⟨i, hi, rfl⟩ := List.mem_map.1 h
  exact ⟨i, by simpa using hi, rfl⟩
theorem eld_ok (k j : Nat) (fr : Nat → Bool) : HsOk (eld k j fr) := by
  intro x hx
  obtain ⟨i, _, rfl⟩ := eld_mem hx
  show 0 ≤ (if _ then (0 : Int) else 1) ∧ (if _ then (0 : Int) else 1) ≤ 6
  split <;> omega
theorem eld_zero (k : Nat) (fr fr' : Nat → Bool) : eld k 0 fr = eld k 0 fr' := by unfold eld; simp

theorem eld_use {k i : Nat} (hi : i < k) (hk : k ≤ 32) (fr : Nat → Bool) : useM k (eld i 0 fr) (nm i) = (⟨#[]⟩, 0, eld (i + 1) 0 fr) := by
  rw [useM_room]
  · congr 2
    unfold eld
    rw [List.range_succ, List.map_append]
    simp
  · intro x hx
    obtain ⟨q, hq, rfl⟩ := eld_mem hx
    simp only [hasKey, decide_eq_false_iff_not]
    intro h
    have := nm_inj (by omega) (by omega) h
    omega
  · rw [eld_len]; omega

theorem eld_free {k j : Nat} {fr : Nat → Bool} (hj : j < k) (hk : k ≤ 32) (hf : fr j = true) : freeM (eld k j fr) (nm j) = (0, eld k (j + 1) fr) := by
  unfold freeM
  have hat := eld_get (j := j) (fr := fr) hj
  rw [findIdx_at hat (by simp [hasKey]) (by
    intro q y hq hy
    rw [eld_get (by omega)] at hy
    injection hy with hy
    subst hy
    simp only [hasKey, decide_eq_false_iff_not]
    intro h
    have := nm_inj (by omega) (by omega) h
    omega)]
  simp only [hat]
  rw [if_neg (by simp)]
  congr 1
  refine List.ext_getElem? fun q => ?_
  by_cases hq : q < k
  · rw [eld_get hq]
    by_cases hqj : q = j
    · subst hqj
      rw [List.getElem?_set_self (by rw [eld_len]; exact hq)]
      simp [hf]
    · rw [List.getElem?_set_ne (Ne.symm hqj), eld_get hq]
      have : decide (q < j) = decide (q < j + 1) := by rw [decide_eq_decide]; omega
      rw [this]
  · rw [List.getElem?_eq_none (by rw [List.length_set, eld_len]; omega), List.getElem?_eq_none (by rw [eld_len]; omega)]

theorem eld_skip {k j : Nat} {fr : Nat → Bool} (hf : fr j = false) : eld k (j + 1) fr = eld k j fr := by
  unfold eld
  refine List.map_congr_left fun i _ => ?_
  by_cases hij : i = j
  · subst hij; simp [hf]
  · have : decide (i < j) = decide (i < j + 1) := by rw [decide_eq_decide]; omega
    rw [this]

theorem eld_nonew (k j : Nat) (fr : Nat → Bool) : ∀ x ∈ eld k j fr, hasKey new3 x = false := by
  intro x hx
  obtain ⟨q, hq, rfl⟩ := eld_mem hx
  simp only [hasKey, decide_eq_false_iff_not]
  exact nm_new q

theorem eld_full {k j : Nat} {fr : Nat → Bool} (h : ∀ i, i < j → fr i = false) : useM k (eld k j fr) new3 = (⟨#[]⟩, 10, eld k j fr) := by
  refine useM_full (eld_nonew k j fr) (by rw [eld_len]; exact Int.le_refl _) ?_
  intro x hx
  obtain ⟨q, hq, rfl⟩ := eld_mem hx
  show ((if _ then (0 : Int) else 1) == 0) = false
  by_cases hqj : q < j
  · simp [h q hqj]
  · simp [hqj]

theorem eld_gone {k j f : Nat} {fr : Nat → Bool} (hfk : f < k) (hfj : f < j) (hf : fr f = true) (h : ∀ i, i < f → fr i = false) : useM k (eld k j fr) new3 = (nm f, 0, (eld k j fr).eraseIdx f ++ [⟨new3, 1⟩]) := by
  have := useM_gone (most := (k : Int)) (eld_nonew k j fr) (by rw [eld_len]; exact Int.le_refl _) (eld_get (j := j) (fr := fr) hfk) (by simp [isFree, hfj, hf]) (by
    intro q y hq hy
    rw [eld_get (by omega)] at hy
    injection hy with hy
    subst hy
    simp [isFree, h q hq])
  exact this

theorem eld_left {k j f : Nat} {fr : Nat → Bool} (hk : k ≤ 32) (hfk : f < k) : ((eld k j fr).eraseIdx f ++ [(⟨new3, 1⟩ : Hs)]).any (hasKey (nm f)) = false := by
  rw [List.any_eq_false]
  intro x hx
  simp only [hasKey, decide_eq_true_eq]
  rcases List.mem_append.1 hx with hx | hx
  · obtain ⟨q, hqf, hq⟩ := List.mem_eraseIdx_iff_getElem?.1 hx
    have hqk : q < k := by have := (List.getElem?_eq_some_iff.1 hq).1; rwa [eld_len] at this
    rw [eld_get hqk] at hq
    injection hq with hq
    subst hq
    intro h
    exact hqf (nm_inj (by omega) (by omega) h)
  · simp at hx
    subst hx
    exact fun h => nm_new f h.symm
theorem eld_usednew {k j f : Nat} {fr : Nat → Bool} : usedM ((eld k j fr).eraseIdx f ++ [(⟨new3, 1⟩ : Hs)]) new3 = 1 := by
  unfold usedM
  rw [List.find?_append, find_none (fun x hx => eld_nonew k j fr x (List.mem_of_mem_eraseIdx hx))]
  simp [hasKey]
theorem eld_len2 {k j f : Nat} {fr : Nat → Bool} (hfk : f < k) : ((eld k j fr).eraseIdx f ++ [(⟨new3, 1⟩ : Hs)]).length = k := by
  rw [List.length_append, List.length_eraseIdx_of_lt (by rw [eld_len]; exact hfk), eld_len]; simp; omega

theorem clampH_id {m : Int} (h1 : 1 ≤ m) (h2 : m ≤ 32) : clampH m = m := by unfold clampH; omega

set_option maxHeartbeats 6400000 in
set_option maxRecDepth 100000 in
theorem hostsEldest_walk (w : World) (mo : Int) (hmo : (Lit.int .i64 mo).wf = true) (a : Option Addr) (n c : Nat) (zs : List Bool) (hs : Slc encB 1 w a n zs) :
    Calls Try.prog 9 #[.int .i64 mo, .slice a n c] w fun e w' => e = .returned (.bool true) ∧ Ext [] w w' := by
  obtain ⟨k, hk, hk1, hk2⟩ : ∃ k : Nat, (k : Int) = 1 + lowI mo 32 ∧ 1 ≤ k ∧ k ≤ 32 := by
    have := lowI_bd mo 32 (by omega)
    exact ⟨(1 + lowI mo 32).toNat, by omega, by omega, by omega⟩
  have hlo : lowI mo 32 = (k : Int) - 1 := by omega
  have hLow := fun w => low_any mo 32 (by omega) (by omega) w
  rw [hlo] at hLow
  have hcl : clampH (k : Int) = k := clampH_id (by omega) (by omega)
  have HLOW := Lib.hid hLow; have HCL := Lib.hid hcl
  have hkk : (1 : Int) + ((k : Int) - 1) = k := by omega
  clear hk hlo hLow hcl hmo
  by_cases hn : 40 < n
  · go_enter Try.func9, Try.ntmps9
    go_wp2_with fail
    refine (HLOW.out w).mono ?_
    rintro e w0 ⟨rfl, rfl⟩
    go_wp2_with fail
    refine (awakeH_any _).mono ?_
    rintro e w1 ⟨rfl, e1⟩
    go_wp2_with fail
    go_ret
    exact ⟨rfl, e1⟩
  have hn' : n ≤ 40 := by omega
  have HS := Lib.hid hs
  clear hs hn
  obtain ⟨fr, hfr⟩ : ∃ fr : Nat → Bool, ∀ i, fr i = decide (zs[i]? = some true) := ⟨_, fun _ => rfl⟩
  have HFR := Lib.hid hfr
  clear hfr
  go_enter Try.func9, Try.ntmps9
  go_wp2_with fail
  refine (HLOW.out w).mono ?_
  rintro e w0 ⟨rfl, rfl⟩
  go_wp2_with fail
  refine (to_new _ w).mono ?_
  rintro e w1 ⟨rfl, h1, e1⟩
  rw [HCL.out] at h1
  have o1 := Own.start e1 (S := [w.heap.size]) (by simp)
  obtain ⟨b, hb⟩ : ∃ b, w.heap.size = b := ⟨_, rfl⟩
  rw [hb] at h1 o1
  clear e1 HLOW HCL
  go_wp2_with fail
  go_loopw [8] (fun iv wr => ∃ (j : Nat) (S : List Nat), j ≤ k ∧ iv = .int .i64 j ∧ TO k wr b S (eld j 0 fr) ∧ Own w wr S) (fun iv _ => k - (intOf iv).toNat)
  case atStart => exact ⟨0, _, Nat.zero_le _, rfl, by simpa [eld] using h1, o1⟩
  case round =>
    obtain ⟨j, S, hjk, rfl, hw, ow⟩ := hrel
    clear h1 o1
    by_cases hj : j < k
    · have d1 : decide (j < k) = true := decide_eq_true hj
      have hu := fun W hW => to_use k b S (eld j 0 fr) (nm j) (by rw [eld_len]; omega) W hW (eld_ok _ _ _)
      rw [eld_use hj hk2] at hu
      have HU := Lib.hid hu
      clear hu
      go_wp2_with fail
      refine (name_any j (by omega) wr).mono ?_
      rintro e w2 ⟨rfl, e2⟩
      have h2 := hw.keep0 e2
      have o2 := ow.quiet e2
      go_wp2_with fail
      refine (HU.out w2 h2).mono ?_
      rintro e w3 ⟨rfl, S3, h3, e3, k3⟩
      have o3 := o2.step e3 k3
      clear e2 h2 o2 e3 k3 HU
      go_wp2_with fail
      exact ⟨⟨j + 1, S3, by omega, rfl, h3, o3⟩, by simp [intOf]; omega⟩
    · have d1 : decide (j < k) = false := decide_eq_false hj
      obtain rfl : j = k := by omega
      clear hjk
      go_wp2_with fail
      go_loopw [11, 12] (fun fv iv wr => ∃ (q : Nat), q ≤ j ∧ q ≤ n ∧ iv = .int .i64 q ∧ TO j wr b S (eld j q fr) ∧ Own w wr S ∧ Hid ((fv = .int .i64 (-1) ∧ ∀ i, i < q → fr i = false) ∨ ∃ f : Nat, fv = .int .i64 f ∧ f < q ∧ fr f = true ∧ ∀ i, i < f → fr i = false)) (fun _ iv _ => j - (intOf iv).toNat)
      case atStart => exact ⟨0, Nat.zero_le _, Nat.zero_le _, rfl, hw, ow, .inl ⟨rfl, fun i hi => absurd hi (Nat.not_lt_zero _)⟩⟩
      case round =>
        obtain ⟨q, hqj, hqn, rfl, hq, oq, hf⟩ := hrel
        clear hw ow hj d1
        by_cases hlt : q < j ∧ q < n
        · obtain ⟨hl1, hl2⟩ := hlt
          have d1 : decide (q < j) = true := decide_eq_true hl1
          have d2 : decide (q < n) = true := decide_eq_true hl2
          have b1 : (0 : Int) ≤ (q : Int) := by omega
          have b2 : (q : Int) < (n : Int) := by omega
          obtain ⟨z, hz⟩ : ∃ z, zs[q]? = some z := ⟨_, List.getElem?_eq_getElem (by rw [HS.out.1]; exact hl2)⟩
          obtain ⟨ab, ao, ha, hab, hcc⟩ := HS.out.2 (by omega)
          subst ha
          have hcz := (oq.ext.cell (p := ⟨ab, ao + (q * 1 + 0), none⟩) hab (by simp)).trans (hcc q z hz 0 (.bool z) rfl)
          rw [Nat.mul_one, Nat.add_zero] at hcz
          have hfq : fr q = z := by
            rw [HFR.out, hz]
            cases z <;> simp
          clear hcc hz hab
          cases z with
          | false =>
            have hsk := eld_skip (k := j) hfq
            have HSK := Lib.hid hsk; have HFQ := Lib.hid hfq
            clear hsk hfq
            go_wp2_with fail
            refine ⟨⟨q + 1, by omega, by omega, rfl, by rw [HSK.out]; exact hq, oq, ?_⟩, by simp [intOf]; omega⟩
            rcases hf.out with ⟨h1, h2⟩ | ⟨f, h1, h2, h3, h4⟩
            · refine .inl ⟨h1, fun i hi => ?_⟩
              rcases Nat.lt_or_ge i q with h | h
              · exact h2 i h
              · have : i = q := by omega
                rw [this]; exact HFQ.out
            · exact .inr ⟨f, h1, by omega, h3, h4⟩
          | true =>
            have hu := fun W hW => to_free j b S (eld j q fr) (nm q) (by rw [eld_len]; omega) W hW (eld_ok _ _ _)
            rw [eld_free hl1 hk2 hfq] at hu
            have HU := Lib.hid hu; have HFQ := Lib.hid hfq
            clear hu hfq
            rcases hf.out with ⟨rfl, h2⟩ | ⟨f, rfl, h2, h3, h4⟩
            · have H2 := Lib.hid h2
              clear hf h2
              go_wp2_with fail
              refine (name_any q (by omega) _).mono ?_
              rintro e w2 ⟨rfl, e2⟩
              have h2 := hq.keep0 e2
              have o2 := oq.quiet e2
              go_wp2_with fail
              refine (HU.out w2 h2).mono ?_
              rintro e w3 ⟨rfl, h3, e3⟩
              have o3 := o2.same e3
              clear e2 h2 o2 e3 HU
              go_wp2_with fail
              exact ⟨⟨q + 1, by omega, by omega, rfl, h3, o3, .inr ⟨q, rfl, by omega, HFQ.out, H2.out⟩⟩, by simp [intOf]; omega⟩
            · have H2 := Lib.hid (And.intro h2 (And.intro h3 h4))
              have b3 : (0 : Int) ≤ (f : Int) := by omega
              clear hf h2 h3 h4
              go_wp2_with fail
              refine (name_any q (by omega) _).mono ?_
              rintro e w2 ⟨rfl, e2⟩
              have h2 := hq.keep0 e2
              have o2 := oq.quiet e2
              go_wp2_with fail
              refine (HU.out w2 h2).mono ?_
              rintro e w3 ⟨rfl, h3, e3⟩
              have o3 := o2.same e3
              clear e2 h2 o2 e3 HU
              go_wp2_with fail
              exact ⟨⟨q + 1, by omega, by omega, rfl, h3, o3, .inr ⟨f, rfl, by have := H2.out.1; omega, H2.out.2.1, H2.out.2.2⟩⟩, by simp [intOf]; omega⟩
        · have hu := fun W hW => to_use j b S (eld j q fr) new3 (by rw [eld_len]; omega) W hW (eld_ok _ _ _)
          rcases hf.out with ⟨rfl, h2⟩ | ⟨f, rfl, h2, h3, h4⟩
          · rw [eld_full h2] at hu
            have HU := Lib.hid hu
            have hno : (eld j q fr).any (hasKey new3) = false := by rw [List.any_eq_false]; intro x hx; simp [eld_nonew _ _ _ x hx]
            have HNO := Lib.hid hno
            clear hu hf h2 hno
            have fin : ∀ wr', TO j wr' b S (eld j q fr) → Own w wr' S → True := fun _ _ _ => trivial
            have hex : decide (q < j) = false ∨ (decide (q < j) = true ∧ decide (q < n) = false) := by
              by_cases h1 : q < j
              · exact .inr ⟨decide_eq_true h1, decide_eq_false (fun h2 => hlt ⟨h1, h2⟩)⟩
              · exact .inl (decide_eq_false h1)
            clear hlt fin
            rcases hex with d1 | ⟨d1, d2⟩
            all_goals
              go_wp2_with fail
              refine (HU.out _ hq).mono ?_
              rintro e w3 ⟨rfl, S3, h3, e3, k3⟩
              have o3 := oq.step e3 k3
              clear HU e3 k3
              have hh := to_has j b S3 _ new3 (by rw [eld_len]; omega) w3 h3
              rw [HNO.out] at hh
              go_wp2_with fail
              refine hh.mono ?_
              rintro e w4 ⟨rfl, e4⟩
              have h4 := h3.keep0 e4
              have o4 := o3.quiet e4
              have hky := to_keys j b S3 _ (by rw [eld_len]; omega) w4 h4
              have hkl : ((eld j q fr).map keyOf).length = j := by rw [List.length_map, eld_len]
              have HKL := Lib.hid hkl
              clear hh e4 hkl
              go_wp2_with fail
              refine hky.mono ?_
              rintro e w5 ⟨a5, c5, rfl, hr5, e5, _⟩
              rw [HKL.out] at hr5 ⊢
              have o5 := o4.quiet e5
              clear hky
              go_wp2_with fail
              refine (awakeH_any _).mono ?_
              rintro e w6 ⟨rfl, e6⟩
              have o6 := o5.quiet e6
              go_wp2_with fail
              go_ret
              exact ⟨rfl, o6.ext⟩
          · have hfj : f < j := by omega
            rw [eld_gone hfj h2 h3 h4] at hu
            have HU := Lib.hid hu
            have b3 : (0 : Int) ≤ (f : Int) := by omega
            have hlft := eld_left (j := q) (fr := fr) hk2 hfj
            have hun := eld_usednew (k := j) (j := q) (f := f) (fr := fr)
            have hl2 := eld_len2 (j := q) (fr := fr) hfj
            generalize (eld j q fr).eraseIdx f ++ [(⟨new3, 1⟩ : Hs)] = M at *
            have HLFT := Lib.hid hlft; have HUN := Lib.hid hun; have HL2 := Lib.hid hl2
            clear hu hf h2 h3 h4 hlft hun hl2
            have hex : decide (q < j) = false ∨ (decide (q < j) = true ∧ decide (q < n) = false) := by
              by_cases h1 : q < j
              · exact .inr ⟨decide_eq_true h1, decide_eq_false (fun h2 => hlt ⟨h1, h2⟩)⟩
              · exact .inl (decide_eq_false h1)
            clear hlt
            rcases hex with d1 | ⟨d1, d2⟩
            all_goals
              go_wp2_with fail
              refine (HU.out _ hq).mono ?_
              rintro e w3 ⟨rfl, S3, h3, e3, k3⟩
              have o3 := oq.step e3 k3
              clear HU e3 k3
              go_wp2_with fail
              refine (name_any f (by omega) _).mono ?_
              rintro e w4 ⟨rfl, e4⟩
              have h4 := h3.keep0 e4
              have o4 := o3.quiet e4
              have hh := to_has j b S3 _ (nm f) (by rw [HL2.out]; omega) w4 h4
              rw [HLFT.out] at hh
              clear e4
              go_wp2_with fail
              refine hh.mono ?_
              rintro e w5 ⟨rfl, e5⟩
              have h5 := h4.keep0 e5
              have o5 := o4.quiet e5
              have hud := to_used j b S3 _ new3 (by rw [HL2.out]; omega) w5 h5
              rw [HUN.out] at hud
              clear hh e5
              go_wp2_with fail
              refine hud.mono ?_
              rintro e w6 ⟨rfl, e6⟩
              have h6 := h5.keep0 e6
              have o6 := o5.quiet e6
              have hky := to_keys j b S3 _ (by rw [HL2.out]; omega) w6 h6
              have hkl : (M.map keyOf).length = j := by rw [List.length_map, HL2.out]
              have HKL := Lib.hid hkl
              clear hud e6 hkl
              go_wp2_with fail
              refine hky.mono ?_
              rintro e w7 ⟨a5, c5, rfl, hr5, e7, _⟩
              rw [HKL.out] at hr5 ⊢
              have o7 := o6.quiet e7
              clear hky
              go_wp2_with fail
              refine (awakeH_any _).mono ?_
              rintro e w8 ⟨rfl, e8⟩
              have o8 := o7.quiet e8
              go_wp2_with fail
              go_ret
              exact ⟨rfl, o8.ext⟩
end Go.Proofs.Ytmmhpjodnceipaa
