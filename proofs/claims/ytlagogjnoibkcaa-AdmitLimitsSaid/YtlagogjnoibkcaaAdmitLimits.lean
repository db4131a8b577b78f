/- AdmitLimits: its walk. -/
import Derived.Test.YtlagogjnoibkcaaBookO
import Derived.Test.YtlagogjnoibkcaaLow
import Derived.Deep.DeepCutAuto
namespace Go.Proofs.Ytlagogjnoibkcaa
open Go.RowKit
set_option linter.unusedVariables false
set_option linter.unusedSimpArgs false

/-- What holds of the book when i have come. -/
structure LimI (xs : List Ad) (i : Int) : Prop where
  len : xs.length ≤ 64
  ids : ∀ x ∈ xs, x.id ≤ i
  keys : ∀ key, (xs.filter (sameKey key)).length ≤ 24
  groups : ∀ g, (xs.filter (sameGroup g)).length ≤ 32

def fullB (xs : List Ad) (key : ByteArray) (g : Int) : Bool := decide (64 ≤ xs.length) || decide (24 ≤ (xs.filter (sameKey key)).length) || decide (32 ≤ (xs.filter (sameGroup g)).length)

theorem lim_no {xs : List Ad} {i : Int} (h : LimI xs i) : xs.any (sameId (i + 1)) = false := by
  rw [List.any_eq_false]; intro x hx; have := h.ids x hx; simp [sameId]; omega

theorem lim_take {xs : List Ad} {i : Int} (h : LimI xs i) (hi : 0 ≤ i) (key : ByteArray) (g : Int) : takeC xs (i + 1) key g = if fullB xs key g = true then 10 else 0 := by
  unfold takeC fullB
  rw [if_neg (by omega), if_neg (by rw [lim_no h]; simp)]
  simp only [Bool.or_eq_true, decide_eq_true_eq, or_assoc]

theorem cnt_snoc {α : Type} (p : α → Bool) (xs : List α) (x : α) : ((xs ++ [x]).filter p).length = (xs.filter p).length + (if p x = true then 1 else 0) := by
  rw [List.filter_append, List.length_append, List.filter_cons, List.filter_nil]; split <;> simp_all

theorem lim_step {xs : List Ad} {i : Int} (h : LimI xs i) (hi : 0 ≤ i) (key : ByteArray) (g : Int) (hf : fullB xs key g = false) : LimI (xs ++ [⟨i + 1, g, key⟩]) (i + 1) := by
  unfold fullB at hf
  simp only [Bool.or_eq_false_iff, decide_eq_false_iff_not] at hf
  refine ⟨by simp; omega, ?_, ?_, ?_⟩
  · intro x hx
    rcases List.mem_append.1 hx with hx | hx
    · have := h.ids x hx; omega
    · simp at hx; subst hx; show i + 1 ≤ i + 1; omega
  · intro k
    rw [cnt_snoc]
    have := h.keys k
    by_cases hk : sameKey k ⟨i + 1, g, key⟩ = true
    · have : k = key := by simpa [sameKey, eq_comm] using hk
      subst this
      split <;> omega
    · rw [if_neg hk]; omega
  · intro k
    rw [cnt_snoc]
    have := h.groups k
    by_cases hk : sameGroup k ⟨i + 1, g, key⟩ = true
    · have : k = g := by simp only [sameGroup, beq_iff_eq] at hk; exact hk.symm
      subst this
      split <;> omega
    · rw [if_neg hk]; omega

theorem lim_same {xs : List Ad} {i : Int} (h : LimI xs i) : LimI xs (i + 1) := ⟨h.len, fun x hx => by have := h.ids x hx; omega, h.keys, h.groups⟩

theorem any_snoc (xs : List Ad) (i g : Int) (key : ByteArray) : (xs ++ [(⟨i, g, key⟩ : Ad)]).any (sameId i) = true := by simp [sameId]

set_option maxHeartbeats 3200000 in
set_option maxRecDepth 100000 in
theorem admitLimits_walk (w : World) (a : Option Addr) (n c : Nat) (xs : List Int) (hs : Slc (encI .i64) 1 w a n xs) (hwf : ∀ z ∈ xs, (Lit.int .i64 z).wf = true) :
    Calls Try.prog 4 #[.slice a n c] w fun e w' => e = .returned (.bool true) ∧ Ext [] w w' := by
  by_cases hn : 250 < n
  · go_enter Try.func4, Try.ntmps4
    go_wp2_with fail
    refine (awakeA_any _).mono ?_
    rintro e w1 ⟨rfl, e1⟩
    go_wp2_with fail
    go_ret
    exact ⟨rfl, e1⟩
  have hn' : n ≤ 250 := by omega
  have HS := Lib.hid hs
  have HWF := Lib.hid hwf
  clear hs hwf hn
  go_enter Try.func4, Try.ntmps4
  go_wp2_with fail
  refine (bo_new w).mono ?_
  rintro e w1 ⟨rfl, h1, e1⟩
  have o1 := Own.start e1 (S := [w.heap.size]) (by simp)
  obtain ⟨b, hb⟩ : ∃ b, w.heap.size = b := ⟨_, rfl⟩
  rw [hb] at h1 o1
  clear e1
  go_wp2_with fail
  go_loopw [4] (fun iv wr => ∃ (j : Nat) (S : List Nat) (L : List Ad), j ≤ n ∧ iv = .int .i64 j ∧ BO wr b S L ∧ Own w wr S ∧ Hid (LimI L j)) (fun iv _ => n - (intOf iv).toNat)
  case atStart => exact ⟨0, _, [], Nat.zero_le _, rfl, h1, o1, ⟨by simp, by simp, by simp, by simp⟩⟩
  case round =>
    obtain ⟨j, S, L, hjn, rfl, hw, ow, hlim⟩ := hrel
    by_cases hj : j < n
    · have d1 : decide (j < n) = true := decide_eq_true hj
      have b1 : (0 : Int) ≤ (j : Int) := by omega
      have b2 : (j : Int) < (n : Int) := by omega
      obtain ⟨ab, ao, hsa⟩ := HS.out.int_at
      obtain ⟨z, hz⟩ : ∃ z, xs[j]? = some z := ⟨_, List.getElem?_eq_getElem (by rw [HS.out.1]; exact hj)⟩
      obtain ⟨rfl, hab, hcz⟩ := hsa j z hz
      have hcz := (ow.ext.cell (p := ⟨ab, ao + j, none⟩) hab (by simp)).trans hcz
      clear hsa hz hab
      go_upto_region 9 with fail
      go_cut [5, 6] (fun s5 s6 wx => ∃ (key : ByteArray) (g : Int), s5 = .string key ∧ s6 = .int .i64 g ∧ Ext [] wr wx)
      case first =>
        have hb4 := lowI_bd z 4 (by omega)
        have C4 : ∀ x : Int, ∀ w, Calls Try.prog 13 #[.int .i64 x, .int .i64 4] w fun e w' => e = .returned (.int .i64 (lowI x 4)) ∧ w' = w := fun x w => (low_any x 4 (by omega) (by omega) w).mono fun _ _ ⟨h1, h2⟩ => ⟨h1, h2.symm⟩
        have C3 : ∀ x : Int, ∀ w, Calls Try.prog 13 #[.int .i64 x, .int .i64 3] w fun e w' => e = .returned (.int .i64 (lowI x 3)) ∧ w' = w := fun x w => (low_any x 3 (by omega) (by omega) w).mono fun _ _ ⟨h1, h2⟩ => ⟨h1, h2.symm⟩
        have C5 := C4 z
        obtain ⟨key, hix⟩ : ∃ key : ByteArray, ∀ w, Sem.run Try.prog (Instr.index 43 (.agg #[.string ⟨#[97]⟩, .string ⟨#[98]⟩, .string ⟨#[99]⟩, .string ⟨#[100]⟩]) (.int .i64 (lowI z 4))) w = .ok (.string key) w := by
          have hcs : lowI z 4 = 0 ∨ lowI z 4 = 1 ∨ lowI z 4 = 2 ∨ lowI z 4 = 3 := by omega
          rcases hcs with h | h | h | h <;> rw [h]
          · exact ⟨_, fun w => run_index_arr w _ _ 4 _ .i64 0 (.string ⟨#[97]⟩) Try.underlying43 Try.isAgg9 Try.sizeOf9 (by omega) (by omega) rfl⟩
          · exact ⟨_, fun w => run_index_arr w _ _ 4 _ .i64 1 (.string ⟨#[98]⟩) Try.underlying43 Try.isAgg9 Try.sizeOf9 (by omega) (by omega) rfl⟩
          · exact ⟨_, fun w => run_index_arr w _ _ 4 _ .i64 2 (.string ⟨#[99]⟩) Try.underlying43 Try.isAgg9 Try.sizeOf9 (by omega) (by omega) rfl⟩
          · exact ⟨_, fun w => run_index_arr w _ _ 4 _ .i64 3 (.string ⟨#[100]⟩) Try.underlying43 Try.isAgg9 Try.sizeOf9 (by omega) (by omega) rfl⟩
        clear C4 hb4
        generalize lowI z 4 = q at *
        have CC5 := Lib.hid C5; have CC3 := Lib.hid C3
        clear C5 C3
        go_quiet (first | (go_at_call_of 13 (Value.int .i64 z); exact Calls.quiet_of_same (CC5.out _)) | (go_at_call 13; exact Calls.quiet_of_same (CC3.out _ _)))
        go_wp2_with fail
        go_meet
        exact ⟨_, _, rfl, rfl, (Ext.refl _ _).drewN _⟩
      case rest =>
        obtain ⟨key, gr, rfl, rfl, hex⟩ := hcut
        have ow := ow.quiet hex
        have hw := hw.keep0 hex
        have hL := hlim.out
        have hLlen := hL.len
        have HF := Lib.hid (lim_take hL b1 key gr)
        have HN := Lib.hid (lim_no hL)
        have HS1 := Lib.hid (lim_step hL b1 key gr)
        have HS2 := Lib.hid (lim_same hL)
        have cLive := fun W (hW : Ext [] wc W) => bo_live b S L (by omega) W (hw.keep0 hW)
        have cHost := fun W (hW : Ext [] wc W) => bo_host b S L key (by omega) W (hw.keep0 hW)
        have cGroup := fun W (hW : Ext [] wc W) => bo_group b S L gr (by omega) W (hw.keep0 hW)
        have CLIVE := Lib.hid cLive; have CHOST := Lib.hid cHost; have CGROUP := Lib.hid cGroup
        clear cLive cHost cGroup hcz d1
        go_upto_region 10 with fail
        go_cut [7] (fun s7 wx => s7 = .bool (fullB L key gr) ∧ Ext [] wc wx)
        case first =>
          obtain ⟨n1, hn1⟩ : ∃ n, n = L.length := ⟨_, rfl⟩
          obtain ⟨p1, hp1⟩ : ∃ n, n = (L.filter (sameKey key)).length := ⟨_, rfl⟩
          obtain ⟨q1, hq1⟩ : ∃ n, n = (L.filter (sameGroup gr)).length := ⟨_, rfl⟩
          have hfb : fullB L key gr = (decide (64 ≤ n1) || decide (24 ≤ p1) || decide (32 ≤ q1)) := by unfold fullB; rw [hn1, hp1, hq1]
          have HFB := Lib.hid hfb
          rw [← hn1] at CLIVE; rw [← hp1] at CHOST; rw [← hq1] at CGROUP
          clear hn1 hp1 hq1 hfb HS2 HS1 HN HF hL hLlen hlim
          by_cases c2 : 64 ≤ n1
          · have d2 : decide (64 ≤ n1) = true := decide_eq_true c2
            go_wp2_with fail
            refine (CLIVE.out _ (Ext.refl _ _)).mono ?_
            rintro e w2 ⟨rfl, e2⟩
            go_wp2_with fail
            go_meet
            exact ⟨by rw [HFB.out, d2]; rfl, e2⟩
          have d2 : decide (64 ≤ n1) = false := decide_eq_false c2
          by_cases c3 : 24 ≤ p1
          · have d3 : decide (24 ≤ p1) = true := decide_eq_true c3
            go_wp2_with fail
            refine (CLIVE.out _ (Ext.refl _ _)).mono ?_
            rintro e w2 ⟨rfl, e2⟩
            go_wp2_with fail
            refine (CHOST.out _ e2).mono ?_
            rintro e w3 ⟨rfl, e3⟩
            have e3 := e2.trans e3 (by simp)
            go_wp2_with fail
            go_meet
            exact ⟨by rw [HFB.out, d2, d3]; rfl, e3⟩
          have d3 : decide (24 ≤ p1) = false := decide_eq_false c3
          go_wp2_with fail
          refine (CLIVE.out _ (Ext.refl _ _)).mono ?_
          rintro e w2 ⟨rfl, e2⟩
          go_wp2_with fail
          refine (CHOST.out _ e2).mono ?_
          rintro e w3 ⟨rfl, e3⟩
          have e3 := e2.trans e3 (by simp)
          go_wp2_with fail
          refine (CGROUP.out _ e3).mono ?_
          rintro e w4 ⟨rfl, e4⟩
          have e4 := e3.trans e4 (by simp)
          go_wp2_with fail
          go_meet
          refine ⟨?_, e4⟩
          rw [HFB.out]
          congr 1
          congr 1
          · congr 1
            · exact decide_eq_decide.2 (by omega)
            · exact decide_eq_decide.2 (by omega)
          · exact decide_eq_decide.2 (by omega)
        case rest =>
          obtain ⟨rfl, hex2⟩ := hcut
          have ow := ow.quiet hex2
          have hw := hw.keep0 hex2
          clear CHOST CGROUP CLIVE hex hex2 hL hlim
          obtain ⟨n1, hn1⟩ : ∃ n, n = L.length := ⟨_, rfl⟩
          have hn2 : n1 ≤ 64 := by omega
          have cLive := fun W (hW : Ext [] wc W) => bo_live b S L (by omega) W (hw.keep0 hW)
          have cTake := fun W (hW : Ext [] wc W) => bo_take b S L ((j : Int) + 1) key gr (by omega) W (hw.keep0 hW)
          rw [← hn1] at cLive
          cases hfl : fullB L key gr with
          | true =>
            have hf := HF.out
            rw [hfl, if_pos rfl] at hf
            have hbk : bookOf L ((j : Int) + 1) key gr = L := by unfold bookOf; rw [if_neg (by rw [hf]; decide)]
            rw [hf, hbk] at cTake
            have CTAKE := Lib.hid cTake; have CLIVE := Lib.hid cLive; have HN1 := Lib.hid hn1
            clear cTake cLive hf hbk HF HS1 hn1 hLlen hfl
            go_wp2_with fail
            refine (CLIVE.out _ (Ext.refl _ _)).mono ?_
            rintro e w2 ⟨rfl, e2⟩
            go_wp2_with fail
            refine (CTAKE.out _ e2).mono ?_
            rintro e w3 ⟨rfl, S3, h3, e3, k3⟩
            have o3 := (ow.quiet e2).step e3 k3
            have cHas := fun W (hW : Ext [] w3 W) => bo_has b S3 L ((j : Int) + 1) (by have := HN1.out; omega) W (h3.keep0 hW)
            have cLive := fun W (hW : Ext [] w3 W) => bo_live b S3 L (by have := HN1.out; omega) W (h3.keep0 hW)
            have cHost := fun W (hW : Ext [] w3 W) => bo_host b S3 L key (by have := HN1.out; omega) W (h3.keep0 hW)
            have cGroup := fun W (hW : Ext [] w3 W) => bo_group b S3 L gr (by have := HN1.out; omega) W (h3.keep0 hW)
            rw [HN.out] at cHas; rw [← HN1.out] at cLive
            have hp : (L.filter (sameKey key)).length ≤ 24 := HS2.out.keys key
            have hq : (L.filter (sameGroup gr)).length ≤ 32 := HS2.out.groups gr
            generalize (L.filter (sameKey key)).length = p1 at *
            generalize (L.filter (sameGroup gr)).length = q1 at *
            have CHAS := Lib.hid cHas; have CLIVE := Lib.hid cLive; have CHOST := Lib.hid cHost; have CGROUP := Lib.hid cGroup
            clear cHas cLive cHost cGroup e2 e3 k3
            go_wp2_with fail
            refine (CHAS.out _ (Ext.refl _ _)).mono ?_
            rintro e w4 ⟨rfl, e4⟩
            go_wp2_with fail
            refine (CLIVE.out _ e4).mono ?_
            rintro e w5 ⟨rfl, e5⟩
            have e5 := e4.trans e5 (by simp)
            go_wp2_with fail
            refine (CHOST.out _ e5).mono ?_
            rintro e w6 ⟨rfl, e6⟩
            have e6 := e5.trans e6 (by simp)
            go_wp2_with fail
            refine (CGROUP.out _ e6).mono ?_
            rintro e w7 ⟨rfl, e7⟩
            have e7 := e6.trans e7 (by simp)
            go_wp2_with fail
            exact ⟨⟨j + 1, S3, L, by omega, rfl, h3.keep0 e7, o3.quiet e7, HS2.out⟩, by simp [intOf]; omega⟩
          | false =>
            have hf := HF.out
            rw [hfl, if_neg (by simp)] at hf
            have hbk : bookOf L ((j : Int) + 1) key gr = L ++ [⟨(j : Int) + 1, gr, key⟩] := by unfold bookOf; rw [if_pos hf]
            have hlm := HS1.out hfl
            have hlm1 := hlm.len
            rw [List.length_append, ← hn1, List.length_singleton] at hlm1
            have hany := any_snoc L ((j : Int) + 1) gr key
            have hlen2 : (L ++ [(⟨(j : Int) + 1, gr, key⟩ : Ad)]).length = n1 + 1 := by rw [List.length_append, ← hn1]; rfl
            rw [hf, hbk] at cTake
            generalize L ++ [(⟨(j : Int) + 1, gr, key⟩ : Ad)] = M at *
            have CTAKE := Lib.hid cTake; have CLIVE := Lib.hid cLive; have HN1 := Lib.hid hn1; have HLM := Lib.hid hlm; have HANY := Lib.hid hany; have HL2 := Lib.hid hlen2
            clear cTake cLive hf hbk HF HS1 HS2 hn1 hLlen hfl hlm hany hlen2
            go_wp2_with fail
            refine (CLIVE.out _ (Ext.refl _ _)).mono ?_
            rintro e w2 ⟨rfl, e2⟩
            go_wp2_with fail
            refine (CTAKE.out _ e2).mono ?_
            rintro e w3 ⟨rfl, S3, h3, e3, k3⟩
            have o3 := (ow.quiet e2).step e3 k3
            have cHas := fun W (hW : Ext [] w3 W) => bo_has b S3 M ((j : Int) + 1) (by rw [HL2.out]; omega) W (h3.keep0 hW)
            have cLive := fun W (hW : Ext [] w3 W) => bo_live b S3 M (by rw [HL2.out]; omega) W (h3.keep0 hW)
            have cHost := fun W (hW : Ext [] w3 W) => bo_host b S3 M key (by rw [HL2.out]; omega) W (h3.keep0 hW)
            have cGroup := fun W (hW : Ext [] w3 W) => bo_group b S3 M gr (by rw [HL2.out]; omega) W (h3.keep0 hW)
            rw [HANY.out] at cHas; rw [HL2.out] at cLive
            have hp : (M.filter (sameKey key)).length ≤ 24 := HLM.out.keys key
            have hq : (M.filter (sameGroup gr)).length ≤ 32 := HLM.out.groups gr
            generalize (M.filter (sameKey key)).length = p1 at *
            generalize (M.filter (sameGroup gr)).length = q1 at *
            have CHAS := Lib.hid cHas; have CLIVE := Lib.hid cLive; have CHOST := Lib.hid cHost; have CGROUP := Lib.hid cGroup
            clear cHas cLive cHost cGroup e2 e3 k3
            go_wp2_with fail
            refine (CHAS.out _ (Ext.refl _ _)).mono ?_
            rintro e w4 ⟨rfl, e4⟩
            go_wp2_with fail
            refine (CLIVE.out _ e4).mono ?_
            rintro e w5 ⟨rfl, e5⟩
            have e5 := e4.trans e5 (by simp)
            go_wp2_with fail
            refine (CLIVE.out _ e5).mono ?_
            rintro e w5 ⟨rfl, e6⟩
            have e5 := e5.trans e6 (by simp)
            go_wp2_with fail
            refine (CHOST.out _ e5).mono ?_
            rintro e w6 ⟨rfl, e6⟩
            have e6 := e5.trans e6 (by simp)
            go_wp2_with fail
            refine (CGROUP.out _ e6).mono ?_
            rintro e w7 ⟨rfl, e7⟩
            have e7 := e6.trans e7 (by simp)
            go_wp2_with fail
            exact ⟨⟨j + 1, S3, M, by omega, rfl, h3.keep0 e7, o3.quiet e7, HLM.out⟩, by simp [intOf]; omega⟩
    · have d1 : decide (j < n) = false := decide_eq_false hj
      go_wp2_with fail
      refine (awakeA_any _).mono ?_
      rintro e w2 ⟨rfl, e2⟩
      go_wp2_with fail
      go_ret
      exact ⟨rfl, (ow.quiet e2).ext⟩
end Go.Proofs.Ytlagogjnoibkcaa
