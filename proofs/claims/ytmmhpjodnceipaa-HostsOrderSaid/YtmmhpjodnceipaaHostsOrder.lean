/- HostsOrder: its walk. -/
import Derived.Test.YtmmhpjodnceipaaHostsO
import Derived.Test.YtmmhpjodnceipaaLow
import Derived.Test.YtmmhpjodnceipaaWLast
import Derived.Deep.DeepCutAuto
namespace Go.Proofs.Ytmmhpjodnceipaa
open Go.RowKit Go.Proofs.YtmmhpjodnceipaaW.PrintLast
set_option linter.unusedVariables false
set_option linter.unusedSimpArgs false

def kc (c : Nat) : ByteArray := ⟨#[UInt8.ofNat (97 + c)]⟩
theorem kc_inj {a b : Nat} (ha : a < 26) (hb : b < 26) (h : kc a = kc b) : a = b := by
  have h1 : UInt8.ofNat (97 + a) = UInt8.ofNat (97 + b) := by
    have := congrArg (fun x : ByteArray => x.data) h
    simpa [kc] using this
  have := congrArg UInt8.toNat h1
  simp at this
  omega

theorem nodup_len : ∀ (n : Nat) (cs : List Nat), cs.Nodup → (∀ c ∈ cs, c < n) → cs.length ≤ n
  | 0, cs, _, h => by
    match cs, h with
    | [], _ => simp
    | c :: cs, h => exact absurd (h c (by simp)) (by omega)
  | n + 1, cs, hd, h => by
    have h1 := nodup_len n (cs.erase n) (hd.erase n) (fun c hc => by
      have := h c (List.mem_of_mem_erase hc)
      have hne : c ≠ n := fun e => by subst e; exact (List.Nodup.not_mem_erase hd) hc
      omega)
    have := List.length_erase_le (a := n) (l := cs)
    have h2 : cs.length ≤ (cs.erase n).length + 1 := by rw [List.length_erase]; split <;> omega
    omega

/-- What the table holds when the hosts stand so. -/
def hsOf (cs : List Nat) : List Hs := cs.map fun c => ⟨kc c, 0⟩
def ksOf (cs : List Nat) : List ByteArray := cs.map kc
/-- Behind one use more. -/
def nextC (cs : List Nat) (c : Nat) : List Nat := cs.filter (fun d => d != c) ++ [c]

structure GoodC (cs : List Nat) : Prop where
  nd : cs.Nodup
  lt : ∀ c ∈ cs, c < 26

theorem GoodC.next {cs : List Nat} (h : GoodC cs) {c : Nat} (hc : c < 26) : GoodC (nextC cs c) := by
  refine ⟨?_, ?_⟩
  · unfold nextC
    rw [List.nodup_append]
    refine ⟨h.nd.filter _, by simp, ?_⟩
    intro a ha b hb
    simp at ha hb
    subst hb; exact ha.2
  · intro d hd
    unfold nextC at hd
    rcases List.mem_append.1 hd with hd | hd
    · exact h.lt d (List.mem_filter.1 hd).1
    · simp at hd; subst hd; exact hc

theorem GoodC.len {cs : List Nat} (h : GoodC cs) : cs.length ≤ 26 := nodup_len 26 cs h.nd h.lt
theorem hsOf_ok (cs : List Nat) : HsOk (hsOf cs) := by
  intro x hx
  unfold hsOf at hx
  obtain ⟨c, _, rfl⟩ := List.mem_map.1 hx
  simp

/-- The table in the midst: the host has one use. -/
def midH (cs : List Nat) (c : Nat) : List Hs := hsOf (cs.filter (fun d => d != c)) ++ [⟨kc c, 1⟩]

theorem no_key {cs : List Nat} (h : ∀ c ∈ cs, c < 26) {c : Nat} (hc : c < 26) : ∀ x ∈ hsOf (cs.filter (fun d => d != c)), hasKey (kc c) x = false := by
  intro x hx
  unfold hsOf at hx
  obtain ⟨d, hd, rfl⟩ := List.mem_map.1 hx
  simp at hd
  simp only [hasKey, decide_eq_false_iff_not]
  exact fun e => hd.2 (kc_inj (h d hd.1) hc e)

theorem filter_erase {cs : List Nat} {c i : Nat} (hd : cs.Nodup) (hi : cs[i]? = some c) : cs.filter (fun d => d != c) = cs.eraseIdx i := by
  rw [← hd.erase_eq_filter, List.erase_eq_eraseIdx_of_idxOf]
  have hil := (List.getElem?_eq_some_iff.1 hi).1
  have hv := (List.getElem?_eq_some_iff.1 hi).2
  rw [← hv]
  exact hd.idxOf_getElem i hil

theorem map_erase {α β : Type} (f : α → β) (xs : List α) (i : Nat) : (xs.map f).eraseIdx i = (xs.eraseIdx i).map f := by
  rw [List.eraseIdx_eq_take_drop_succ, List.eraseIdx_eq_take_drop_succ, List.map_append, List.map_take, List.map_drop]

theorem use_order {cs : List Nat} (h : GoodC cs) {c : Nat} (hc : c < 26) : useM 32 (hsOf cs) (kc c) = (⟨#[]⟩, 0, midH cs c) := by
  rcases useM_cases 32 (hsOf cs) (kc c) with ⟨_, e, _⟩ | ⟨i, x, h1, h2, h3, h4, e⟩ | ⟨h1, h2, e⟩ | ⟨i, x, h1, hm, h2, h3, h4, e⟩
  · -- not so: there is room
    exfalso
    rcases idxI_spec (hasKey (kc c)) (hsOf cs) with ⟨_, k2⟩ | ⟨i, x, k1, k2, k4, _⟩
    · rw [useM_room k2 (by have := h.len; simp [hsOf]; omega)] at e
      simp at e
    · have hx : x.uses = 0 := by
        have := List.mem_of_getElem? k1
        unfold hsOf at this
        obtain ⟨d, _, rfl⟩ := List.mem_map.1 this
        rfl
      rw [useM_again k1 k2 k4 (by omega)] at e
      simp at e
  · rw [e]
    have h1' := h1
    unfold hsOf at h1
    rw [List.getElem?_map] at h1
    obtain ⟨d, hd, hdx⟩ := Option.map_eq_some_iff.1 h1
    subst hdx
    have hdc : d = c := by
      simp only [hasKey, decide_eq_true_eq] at h2
      exact kc_inj (h.lt d (List.mem_of_getElem? hd)) hc h2
    subst hdc
    unfold midH
    rw [filter_erase h.nd hd]
    unfold hsOf
    rw [map_erase]
    rfl
  · rw [e]
    have hf : cs.filter (fun d => d != c) = cs := by
      rw [List.filter_eq_self]
      intro d hd
      have := h1 ⟨kc d, 0⟩ (by unfold hsOf; exact List.mem_map.2 ⟨d, hd, rfl⟩)
      simp only [hasKey, decide_eq_false_iff_not] at this
      simp only [bne_iff_ne]
      exact fun e => this (by rw [e])
    unfold midH; rw [hf]
  · have := h.len
    simp [hsOf] at hm
    omega

theorem mid_at {cs : List Nat} (c : Nat) : (midH cs c)[(hsOf (cs.filter (fun d => d != c))).length]? = some ⟨kc c, 1⟩ := by
  unfold midH; rw [List.getElem?_append_right (Nat.le_refl _), Nat.sub_self]; rfl
theorem mid_before {cs : List Nat} (h : GoodC cs) {c : Nat} (hc : c < 26) : ∀ (j : Nat) y, j < (hsOf (cs.filter (fun d => d != c))).length → (midH cs c)[j]? = some y → hasKey (kc c) y = false := by
  intro j y hj hy
  unfold midH at hy
  rw [List.getElem?_append_left hj] at hy
  exact no_key h.lt hc y (List.mem_of_getElem? hy)

theorem mid_used {cs : List Nat} (h : GoodC cs) {c : Nat} (hc : c < 26) : usedM (midH cs c) (kc c) = 1 := by
  unfold usedM; rw [find_at (mid_at c) (by simp [hasKey]) (mid_before h hc)]
theorem mid_free {cs : List Nat} (h : GoodC cs) {c : Nat} (hc : c < 26) : freeM (midH cs c) (kc c) = (0, hsOf (nextC cs c)) := by
  unfold freeM
  rw [findIdx_at (mid_at c) (by simp [hasKey]) (mid_before h hc)]
  simp only [mid_at]
  rw [if_neg (by decide)]
  congr 1
  unfold midH nextC hsOf
  rw [List.set_append_right _ _ (Nat.le_refl _), Nat.sub_self, List.map_append]
  rfl
theorem next_used {cs : List Nat} (h : GoodC cs) {c : Nat} (hc : c < 26) : usedM (hsOf (nextC cs c)) (kc c) = 0 := by
  unfold usedM
  cases hq : (hsOf (nextC cs c)).find? (hasKey (kc c)) with
  | none => rfl
  | some x =>
    have := List.mem_of_find?_eq_some hq
    unfold hsOf at this
    obtain ⟨d, _, rfl⟩ := List.mem_map.1 this
    rfl
theorem mid_ok (cs : List Nat) (c : Nat) : HsOk (midH cs c) := ok_snoc (hsOf_ok _) _ (by simp) (by simp)
theorem mid_len {cs : List Nat} (h : GoodC cs) (c : Nat) : (midH cs c).length ≤ 27 := by
  have := h.len
  have h2 := List.length_filter_le (fun d => d != c) cs
  simp [midH, hsOf]; omega

set_option maxHeartbeats 6400000 in
set_option maxRecDepth 100000 in
theorem hostsOrder_walk (w : World) (a : Option Addr) (n c : Nat) (xs : List Int) (hs : Slc (encI .i64) 1 w a n xs) (hwf : ∀ z ∈ xs, (Lit.int .i64 z).wf = true) :
    Calls Try.prog 10 #[.slice a n c] w fun e w' => e = .returned (.bool true) ∧ Ext [] w w' := by
  by_cases hn : 200 < n
  · go_enter Try.func10, Try.ntmps10
    go_wp2_with fail
    refine (awakeH_any _).mono ?_
    rintro e w1 ⟨rfl, e1⟩
    go_wp2_with fail
    go_ret
    exact ⟨rfl, e1⟩
  have hn' : n ≤ 200 := by omega
  have HS := Lib.hid hs
  have hcl : clampH 32 = 32 := by decide
  clear hs hwf hn
  go_enter Try.func10, Try.ntmps10
  go_wp2_with fail
  refine (to_new 32 w).mono ?_
  rintro e w1 ⟨rfl, h1, e1⟩
  rw [hcl] at h1
  have o1 := Own.start e1 (S := [w.heap.size]) (by simp)
  obtain ⟨b, hb⟩ : ∃ b, w.heap.size = b := ⟨_, rfl⟩
  rw [hb] at h1 o1
  clear e1 hcl
  go_wp2_with fail
  go_loopw [4, 5] (fun wv iv wr => ∃ (j : Nat) (S : List Nat) (cs : List Nat) (a2 : Option Addr) (m c2 : Nat), j ≤ n ∧ iv = .int .i64 j ∧ wv = .slice a2 m c2 ∧ TO 32 wr b S (hsOf cs) ∧ Rw encS 1 9 wr (.slice a2 m c2) (ksOf cs) ∧ Own2 w wr S (Value.slice a2 m c2).ownBlock.toList ∧ Hid (GoodC cs) ∧ Hid (m = cs.length)) (fun _ iv _ => n - (intOf iv).toNat)
  case atStart => exact ⟨0, _, [], none, 0, 0, Nat.zero_le _, rfl, rfl, h1, Rw.nil _, ⟨o1.ext, o1.ge, by simp [Value.ownBlock], by simp [Value.ownBlock]⟩, ⟨by simp, by simp⟩, rfl⟩
  case round =>
    obtain ⟨j, S, cs, a2, m, c2, hjn, rfl, rfl, hw, hr, ow, hg, hm⟩ := hrel
    clear h1 o1
    by_cases hj : j < n
    · have d1 : decide (j < n) = true := decide_eq_true hj
      have b1 : (0 : Int) ≤ (j : Int) := by omega
      have b2 : (j : Int) < (n : Int) := by omega
      obtain ⟨ab, ao, hsa⟩ := HS.out.int_at
      obtain ⟨z, hz⟩ : ∃ z, xs[j]? = some z := ⟨_, List.getElem?_eq_getElem (by rw [HS.out.1]; exact hj)⟩
      obtain ⟨rfl, hab, hcz⟩ := hsa j z hz
      have hcz := (ow.ext.cell (p := ⟨ab, ao + j, none⟩) hab (by simp)).trans hcz
      obtain ⟨q, hq, hq1⟩ : ∃ q : Nat, (q : Int) = lowI z 26 ∧ q < 26 := by
        have := lowI_bd z 26 (by omega)
        exact ⟨(lowI z 26).toNat, by omega, by omega⟩
      have hLow := fun w => low_any z 26 (by omega) (by omega) w
      rw [← hq] at hLow
      have HLOW := Lib.hid hLow
      have hconv : ∀ wA : World, wA.heap.size = wr.heap.size → Sem.run Try.prog (convert 69 9 (.slice (some ⟨wr.heap.size, 0, none⟩) 1 1)) (wA.alloc (.cells #[.int .u8 (97 + (q : Int))] 5 (0, 0))) = .ok (.string (kc q)) (wA.alloc (.cells #[.int .u8 (97 + (q : Int))] 5 (0, 0))) := fun wA hwA => by
        have hu : ((UInt8.ofNat (97 + q)).toNat : Int) = 97 + (q : Int) := by simp; omega
        have := run_convert_bytes_back (P := Try.prog) (wA.alloc (.cells #[.int .u8 (97 + (q : Int))] 5 (0, 0))) 69 9 5 ⟨wr.heap.size, 0, none⟩ 1 [UInt8.ofNat (97 + q)] (by kernel_rfl) (by kernel_rfl) (by kernel_rfl) (fun j hj => by
          have hj0 : j = 0 := by simp at hj; exact hj
          subst hj0
          have hb := (Blk.new wA #[.int .u8 (97 + (q : Int))] 5).cell 0
          rw [hwA] at hb
          show World.cell? _ ⟨wr.heap.size, 0, none⟩ = _
          rw [hb]
          show some (Value.int .u8 (97 + (q : Int))) = some (Value.int .u8 ((UInt8.ofNat (97 + q)).toNat : Int))
          rw [hu])
        exact this
      have hconv := hconv wr rfl
      have hgq := hg.out
      have hlc := hgq.len
      have HU := Lib.hid (use_order hgq hq1); have HMU := Lib.hid (mid_used hgq hq1); have HMF := Lib.hid (mid_free hgq hq1); have HNU := Lib.hid (next_used hgq hq1)
      have HGN := Lib.hid (hgq.next hq1); have HML := Lib.hid (mid_len hgq q)
      have HGQ := Lib.hid hgq
      clear hsa hz hab hLow hq hgq hg
      go_wp2_with (go_at_call 16; refine (HLOW.out _).mono ?_; rintro e w2 ⟨rfl, rfl⟩)
      have e2 : Ext [] wr (wr.alloc (Obj.cells #[Value.int IntKind.u8 (97 + (q : Int))] 5)) := (Ext.refl _ _).alloc _
      generalize wr.alloc (Obj.cells #[Value.int IntKind.u8 (97 + (q : Int))] 5) = w2 at e2 hconv ⊢
      have hw2 := hw.keep0 e2
      have hr2 := hr.keep e2 (by simp)
      have ow2 := ow.quiet e2
      clear hconv hcz hw hr ow e2 HLOW
      have hc1 := to_use 32 b S (hsOf cs) (kc q) (by simp [hsOf]; omega) w2 hw2 (hsOf_ok cs)
      rw [HU.out] at hc1
      have HC1 := Lib.hid hc1
      have hRlt := hr2.lt
      clear hc1
      go_wp2_with fail
      refine HC1.out.mono ?_
      rintro e w3 ⟨rfl, S3, h3, e3, k3⟩
      have ow3 := ow2.left (fun x hx => hRlt x (by simpa using hx)) e3 k3
      have hr3 := hr2.keep e3 (fun g hg hgs => ow2.ne g hgs (by simp [hg]))
      clear HC1 hw2 hr2 ow2 e3 k3 hRlt
      have hml := HML.out
      have HC2 := Lib.hid (to_used 32 b S3 _ (kc q) (by omega) w3 h3)
      rw [HMU.out] at HC2
      go_wp2_with fail
      refine HC2.out.mono ?_
      rintro e w4 ⟨rfl, e4⟩
      have h4 := h3.keep0 e4; have hr4 := hr3.keep e4 (by simp); have ow4 := ow3.quiet e4
      have HC3 := Lib.hid (to_free 32 b S3 _ (kc q) (by omega) w4 h4 (mid_ok cs q))
      rw [HMF.out] at HC3
      clear HC2 h3 hr3 ow3 e4
      go_wp2_with fail
      refine HC3.out.mono ?_
      rintro e w5 ⟨rfl, h5, e5⟩
      have hr5 := hr4.keep e5 (fun g hg hgs => ow4.ne g hgs (by simp [hg]))
      have ow5 := ow4.left (fun x hx => hr4.lt x (by simpa using hx)) e5 (fun x h => .inl h)
      have HC4 := Lib.hid (to_used 32 b S3 _ (kc q) (by have := HGN.out.len; simp [hsOf]; omega) w5 h5)
      rw [HNU.out] at HC4
      clear HC3 h4 hr4 ow4 e5
      go_wp2_with fail
      refine HC4.out.mono ?_
      rintro e w6 ⟨rfl, e6⟩
      have h6 := h5.keep0 e6; have hr6 := hr5.keep e6 (by simp); have ow6 := ow5.quiet e6
      clear HC4 h5 hr5 ow5 e6
      have hml2 : m ≤ 26 := by rw [hm.out]; exact hlc
      go_wp2_with fail
      go_loopw [9, 10] (fun rv kv wr => ∃ (k : Nat) (a3 : Option Addr) (m3 c3 : Nat), k ≤ m ∧ m3 ≤ k ∧ kv = .int .i64 k ∧ rv = .slice a3 m3 c3 ∧ Rw encS 1 9 wr (.slice a3 m3 c3) (ksOf ((cs.take k).filter (fun d => d != q))) ∧ Ext [] w6 wr ∧ Hid (∀ g, (Value.slice a3 m3 c3).ownBlock = some g → w6.heap.size ≤ g)) (fun _ kv _ => m - (intOf kv).toNat)
      case atStart => exact ⟨0, none, 0, 0, Nat.zero_le _, Nat.zero_le _, rfl, rfl, Rw.nil _, Ext.refl _ _, fun g hg => by simp [Value.ownBlock] at hg⟩
      case round =>
        obtain ⟨k, a3, m3, c3, hkm, hm3, rfl, rfl, hrr, her, hfr⟩ := hrel
        by_cases hk : k < m
        · have d2 : decide (k < m) = true := decide_eq_true hk
          obtain ⟨d, hd⟩ : ∃ d, cs[k]? = some d := ⟨_, List.getElem?_eq_getElem (by rw [← hm.out]; exact hk)⟩
          have hkd : (ksOf cs)[k]? = some (kc d) := by unfold ksOf; rw [List.getElem?_map, hd]; rfl
          have hrk := hr6.keep her (by simp)
          obtain ⟨gw, rfl, hgw⟩ := hrk.addr (by omega)
          have hx0 := hrk.cell encS_ok.len hkd 0 (by omega)
          simp only [encS, Nat.add_zero, Nat.mul_one, List.getElem?_cons_zero] at hx0
          have b3 : (0 : Int) ≤ (k : Int) := by omega
          have b4 : (k : Int) < (m : Int) := by omega
          have hbe := bytes_beq (kc d) (kc q)
          have htk : cs.take (k + 1) = cs.take k ++ [d] := by rw [List.take_add_one, hd]; rfl
          have hd26 := HGQ.out.lt d (List.mem_of_getElem? hd)
          have HBE := Lib.hid hbe; have HTK := Lib.hid htk
          clear hrk hkd hd hbe htk
          by_cases hdq : d = q
          · have hfl : (cs.take (k + 1)).filter (fun d => d != q) = (cs.take k).filter (fun d => d != q) := by rw [HTK.out, List.filter_append]; simp [hdq]
            have HFL := Lib.hid hfl
            clear hfl
            have hdq' : q = d := hdq.symm
            subst hdq'
            clear hdq HBE
            go_wp2_with fail
            exact ⟨⟨k + 1, a3, m3, c3, by omega, by omega, rfl, rfl, by rw [HFL.out]; exact hrr, her, hfr⟩, by simp [intOf]; omega⟩
          · have hfl : ksOf ((cs.take (k + 1)).filter (fun d => d != q)) = ksOf ((cs.take k).filter (fun d => d != q)) ++ [kc d] := by rw [HTK.out, List.filter_append]; simp [hdq, ksOf]
            have HFL := Lib.hid hfl
            have hne : kc d ≠ kc q := fun e => hdq (kc_inj hd26 hq1 e)
            have hq2 : ((kc d).toList != (kc q).toList) = true := by rw [bne, HBE.out]; simp [hne]
            have hq3 : ((kc d).toList == (kc q).toList) = false := by rw [HBE.out]; simp [hne]
            have h63 : m3 + 1 ≤ 1000000 := by omega
            have hlen : LenIs (ksOf ((cs.take k).filter (fun d => d != q))) [kc d] (m3 + 1) := by unfold LenIs; rw [← hrr.len]; rfl
            have hsl := Sl.new (enc := encS) wr (kc d) 9
            have hrw := hrr.alloc (.cells (encS (kc d)).toArray 9 (0, 0))
            clear hfl hdq hne
            generalize ksOf ((cs.take k).filter (fun d => d != q)) = L1 at *
            go_wp2_with (at_builtin; refine wpList_appN tyS encS_ok (by rfl) _ _ (by rfl) hrw (by rfl) hsl (by rfl) hlen h63 ?_)
            intro a5 c5 w7 hr7 hS7 hg7
            have e7 : Ext [] w6 w7 := fresh_app (v1 := .slice a3 m3 c3) (her.alloc _) hfr.out hS7
            have hg8 : Hid (∀ g, (Value.slice a5 (m3 + 1) c5).ownBlock = some g → w6.heap.size ≤ g) := fun g hg => (hg7 g hg).elim (hfr.out g) (fun h => by have := her.size; omega)
            rw [← HFL.out] at hr7
            clear hS7 hg7 hfr hlen hsl hrw HFL
            go_wp2_with fail
            exact ⟨⟨k + 1, a5, m3 + 1, c5, by omega, by omega, rfl, rfl, hr7, e7, hg8⟩, by simp [intOf]; omega⟩
        · have d2 : decide (k < m) = false := decide_eq_false hk
          have hfin : (cs.take k).filter (fun d => d != q) = cs.filter (fun d => d != q) := by rw [List.take_of_length_le (by have := hm.out; omega)]
          rw [hfin] at hrr
          have h63 : m3 + 1 ≤ 1000000 := by omega
          have hlen : LenIs (ksOf (cs.filter (fun d => d != q))) [kc q] (m3 + 1) := by unfold LenIs; rw [← hrr.len]; rfl
          have hlm : m3 + 1 = (nextC cs q).length := by unfold nextC; rw [List.length_append, hrr.len]; simp [ksOf]
          have hks : ksOf (nextC cs q) = ksOf (cs.filter (fun d => d != q)) ++ [kc q] := by unfold nextC ksOf; simp
          have hsl := Sl.new (enc := encS) wr (kc q) 9
          have hrw := hrr.alloc (.cells (encS (kc q)).toArray 9 (0, 0))
          have HKS := Lib.hid hks; have HLM := Lib.hid hlm
          clear hfin hks hlm
          generalize ksOf (cs.filter (fun d => d != q)) = L1 at *
          go_wp2_with (at_builtin; refine wpList_appN tyS encS_ok (by rfl) _ _ (by rfl) hrw (by rfl) hsl (by rfl) hlen h63 ?_)
          intro a5 c5 w7 hr7 hS7 hg7
          have e7 : Ext [] w6 w7 := fresh_app (v1 := .slice a3 m3 c3) (her.alloc _) hfr.out hS7
          have hg8 : ∀ g, (Value.slice a5 (m3 + 1) c5).ownBlock = some g → w6.heap.size ≤ g := fun g hg => (hg7 g hg).elim (hfr.out g) (fun h => by have := her.size; omega)
          rw [← HKS.out] at hr7
          have o7 : Own2 w w7 S3 (Value.slice a5 (m3 + 1) c5).ownBlock.toList := ⟨(ow6.quiet e7).ext, ow6.ges, fun x hx => Nat.le_trans ow6.ext.size (hg8 x (by simpa using hx)), fun x hx hr => by
            have := h6.lt x hx; have := hg8 x (by simpa using hr); omega⟩
          have h7 := h6.keep0 e7
          clear hS7 hg7 hfr hlen hsl hrw HKS hg8 e7
          go_wp2_with fail
          exact ⟨⟨j + 1, S3, nextC cs q, a5, m3 + 1, c5, by omega, rfl, rfl, h7, hr7, o7, HGN.out, HLM.out⟩, by simp [intOf]; omega⟩
    · have d1 : decide (j < n) = false := decide_eq_false hj
      have hlc := hg.out.len
      have hml2 : m ≤ 26 := by rw [hm.out]; exact hlc
      have hky := to_keys 32 b S (hsOf cs) (by simp [hsOf]; omega) wr hw
      have hkm : (hsOf cs).map keyOf = ksOf cs := by unfold hsOf ksOf; rw [List.map_map]; rfl
      rw [hkm] at hky
      have HKY := Lib.hid hky
      clear hky hkm
      go_wp2_with fail
      refine HKY.out.mono ?_
      rintro e w2 ⟨a3, c3, rfl, hr2, e2, _⟩
      have htx := texts_any _ _ _ _ (by simp [ksOf]; omega) (by simp [ksOf]; omega) w2 hr2 (hr.keep e2 (by simp))
      rw [decide_eq_true (rfl : ksOf cs = ksOf cs)] at htx
      have o2 := ow.quiet e2
      have HTX := Lib.hid htx
      clear htx
      go_wp2_with fail
      refine HTX.out.mono ?_
      rintro e w3 ⟨rfl, e3⟩
      have o3 := o2.quiet e3
      go_wp2_with fail
      refine (awakeH_any _).mono ?_
      rintro e w4 ⟨rfl, e4⟩
      have o4 := o3.quiet e4
      go_wp2_with fail
      go_ret
      exact ⟨rfl, o4.ext⟩
end Go.Proofs.Ytmmhpjodnceipaa
