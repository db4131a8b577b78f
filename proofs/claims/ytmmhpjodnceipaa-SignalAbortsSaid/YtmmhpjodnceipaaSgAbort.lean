/- The signals' tree: Abort, by contract. -/
import Derived.Test.YtmmhpjodnceipaaSgMake
namespace Go.Proofs.Ytmmhpjodnceipaa
open Go.RowKit Go.Proofs.YtmmhpjodnceipaaW.PrintLast
set_option linter.unusedVariables false
set_option linter.unusedSimpArgs false

/-- Those of a list are aborted, one behind the other: what is there then, and who is told. -/
def abR : List Sg → List Int → List Sg × List Int
  | L, [] => (L, [])
  | L, k :: r => match L[(k - 1).toNat]? with
    | some s => if s.off then abR L r else ((abR (L.set (k - 1).toNat { s with off := true }) r).1, k :: (abR (L.set (k - 1).toNat { s with off := true }) r).2)
    | none => abR L r

theorem abR_off {L : List Sg} {i : Nat} {s : Sg} {r : List Int} (h : L[i]? = some s) (ho : s.off = true) : abR L (((i : Int) + 1) :: r) = abR L r := by
  rw [abR, show ((i : Int) + 1 - 1).toNat = i by omega, h]; simp [ho]
theorem abR_on {L : List Sg} {i : Nat} {s : Sg} {r : List Int} (h : L[i]? = some s) (ho : s.off = false) : abR L (((i : Int) + 1) :: r) = ((abR (L.set i { s with off := true }) r).1, ((i : Int) + 1) :: (abR (L.set i { s with off := true }) r).2) := by
  rw [abR, show ((i : Int) + 1 - 1).toNat = i by omega, h]; simp [ho]

/-- An abort: the code, who is told, what is there then. -/
def abM (L : List Sg) (id : Int) : Int × List Int × List Sg :=
  if isS L.length id = false then (11, [], L) else if offM L id = true then (13, [], L) else (0, (abR L (undL L id)).2, (abR L (undL L id)).1)

theorem undN_range (us : List (List Int)) (i : Nat) : ∀ m, ∀ k ∈ undN us i m, ∃ q : Nat, k = (q : Int) + 1 ∧ i ≤ q ∧ q ≤ i + m
  | 0, k, h => by simp [undN] at h; exact ⟨i, h, Nat.le_refl _, Nat.le_refl _⟩
  | m + 1, k, h => by
    rw [undN] at h
    have ih := undN_range us i m
    split at h
    · split at h
      · rcases List.mem_append.1 h with h | h
        · obtain ⟨q, h1, h2, h3⟩ := ih k h; exact ⟨q, h1, h2, by omega⟩
        · simp at h; exact ⟨i + 1 + m, by omega, by omega, by omega⟩
      · obtain ⟨q, h1, h2, h3⟩ := ih k h; exact ⟨q, h1, h2, by omega⟩
    · obtain ⟨q, h1, h2, h3⟩ := ih k h; exact ⟨q, h1, h2, by omega⟩

theorem undL_range {L : List Sg} {id : Int} {k : Int} (h : k ∈ undL L id) : ∃ q : Nat, k = (q : Int) + 1 ∧ q < L.length := by
  unfold undL at h
  split at h
  · rename_i hi
    obtain ⟨i, rfl, hil⟩ := isS_true hi
    obtain ⟨q, h1, _, h3⟩ := undN_range _ _ _ k h
    exact ⟨q, h1, by omega⟩
  · simp at h

def AbortP (b : Nat) (v : Value) (L : List Sg) (id : Int) (w : World) (e : Ending) (w' : World) : Prop :=
  ∃ (a : Option Addr) (c : Nat), e = .returned (.tuple #[.slice a (abM L id).2.1.length c, .int .i64 (abM L id).1]) ∧ RI w' (.slice a (abM L id).2.1.length c) (abM L id).2.1 ∧ (∀ g, (Value.slice a (abM L id).2.1.length c).ownBlock = some g → w.heap.size ≤ g) ∧
    Tr w' b v (abM L id).2.2 ∧ upOwn (abM L id).2.2 = upOwn L ∧ Ext (b :: v.ownBlock.toList) w w'

theorem upOwn_set {L : List Sg} {i : Nat} {s : Sg} (h : L[i]? = some s) : upOwn (L.set i { s with off := true }) = upOwn L := by
  unfold upOwn
  induction L generalizing i with
  | nil => simp at h
  | cons t L ih =>
    match i, h with
    | 0, h => simp at h; subst h; rfl
    | i + 1, h =>
      rw [List.set_cons_succ, List.flatMap_cons, List.flatMap_cons, ih (by simpa using h)]

theorem Tr.off {w : World} {b g n cap i : Nat} {L : List Sg} {s : Sg} (h : Tr w b (.slice (some ⟨g, 0, none⟩) n cap) L) (hs : L[i]? = some s) :
    Tr (w.setCell ⟨g, i * 2 + 1, none⟩ (.bool true)) b (.slice (some ⟨g, 0, none⟩) n cap) (L.set i { s with off := true }) := by
  have he : Ext [g] w (w.setCell ⟨g, i * 2 + 1, none⟩ (.bool true)) := Ext.setCell (Ext.refl _ _) (Or.inl (by simp)) _
  refine ⟨⟨h.ob.blk_at rfl he, ?_, h.ob.ne⟩, fun t ht => ?_⟩
  · exact h.ob.row.put1 encG_ok.len (by omega) hs _ { s with off := true } rfl
  · have hk : ∀ u ∈ L, RI (w.setCell ⟨g, i * 2 + 1, none⟩ (.bool true)) u.row u.up := fun u hu => (h.inn u hu).keep he (fun q hq hm => by
      have := h.apart q (mem_upOwn hu hq)
      simp at hm
      subst hm
      exact this (by simp [Value.ownBlock]))
    rcases List.mem_or_eq_of_mem_set ht with ht | rfl
    · exact hk t ht
    · exact hk s (List.mem_of_getElem? hs)

set_option maxHeartbeats 6400000 in
set_option maxRecDepth 100000 in
theorem sgAbort_any (b : Nat) (v : Value) (L : List Sg) (id : Int) (hx : L.length < 1000) (hup : ∀ s ∈ L, s.up.length < 100000) (w : World) (h : Tr w b v L) :
    Calls Try.prog 24 #[.pointer (some ⟨b, 0, none⟩), .int .i64 id] w (AbortP b v L id w) := by
  have hhas := sgHas_any b v L id (by omega) w h
  have hund := sgUnder_any b v L id (by omega) hup w h
  have HH := Lib.hid h; have HUND := Lib.hid hund
  cases hq : isS L.length id with
  | false =>
    rw [hq] at hhas
    have hM : abM L id = (11, [], L) := by unfold abM; rw [if_pos hq]
    have HM := Lib.hid hM
    clear h hq hM hund hup
    go_enter Try.func24, Try.ntmps24
    go_wp2_with fail
    refine hhas.mono ?_
    rintro e w1 ⟨rfl, rfl⟩
    go_wp2_with fail
    refine bodyPost_ret (v := .tuple #[.slice none 0 0, .int .i64 11]) (by simp [results, Try.results24, go_sem]) rfl ?_
    unfold AbortP
    rw [HM.out]
    exact ⟨none, 0, rfl, Rw.nil _, fun g hg => by simp [Value.ownBlock] at hg, HH.out, rfl, Ext.refl _ _⟩
  | true =>
    rw [hq] at hhas
    obtain ⟨i, rfl, hi⟩ := isS_true hq
    obtain ⟨s, hs⟩ : ∃ s, L[i]? = some s := ⟨_, List.getElem?_eq_getElem hi⟩
    have hO := offM_at hs
    obtain ⟨a, cap, rfl⟩ := h.ob.row.val
    obtain ⟨n, hn⟩ : ∃ n, n = L.length := ⟨_, rfl⟩
    have hob := h.ob
    rw [← hn] at hob hi hx HH ⊢
    obtain ⟨g, rfl, hgl⟩ := hob.row.addr (by omega)
    have hcv : w.cell? ⟨b, 0, none⟩ = some (.slice (some ⟨g, 0, none⟩) n cap) := hob.blk.cell 0
    have hc1 := hob.row.cell encG_ok.len hs 1 (by omega)
    simp only [encG, Nat.add_zero, List.getElem?_cons_zero, List.getElem?_cons_succ] at hc1
    have b1 : (0 : Int) ≤ (i : Int) := by omega
    have b2 : (i : Int) < (n : Int) := by omega
    have hii : (i : Int) + 1 - 1 = i := by omega
    have HN := Lib.hid hn
    cases ho : s.off with
    | true =>
      rw [ho] at hO hc1
      have hM : abM L ((i : Int) + 1) = (13, [], L) := by unfold abM; rw [if_neg (by rw [hq]; decide), if_pos hO]
      have HM := Lib.hid hM
      clear h hq hn hs hob hund hup hM hO ho
      go_enter Try.func24, Try.ntmps24
      go_wp2_with fail
      refine hhas.mono ?_
      rintro e w1 ⟨rfl, rfl⟩
      go_wp2_with fail
      refine bodyPost_ret (v := .tuple #[.slice none 0 0, .int .i64 13]) (by simp [results, Try.results24, go_sem]) rfl ?_
      unfold AbortP
      rw [HM.out]
      exact ⟨none, 0, rfl, Rw.nil _, fun g hg => by simp [Value.ownBlock] at hg, HH.out, rfl, Ext.refl _ _⟩
    | false =>
      rw [ho] at hO hc1
      have hM : abM L ((i : Int) + 1) = (0, (abR L (undL L ((i : Int) + 1))).2, (abR L (undL L ((i : Int) + 1))).1) := by unfold abM; rw [if_neg (by rw [hq]; decide), if_neg (by rw [hO]; decide)]
      have HM := Lib.hid hM
      have hrg : ∀ k ∈ undL L ((i : Int) + 1), ∃ q : Nat, k = (q : Int) + 1 ∧ q < n := fun k hk => by rw [hn]; exact undL_range hk
      have HRG := Lib.hid hrg
      have hlu : (undL L ((i : Int) + 1)).length ≤ n + 1 := by
        unfold undL; rw [if_pos hq]; have := undN_len (ups L) ((i : Int) + 1 - 1).toNat (L.length - ((i : Int) + 1).toNat); omega
      clear h hq hn hs hob hund hup hM hO ho hrg
      generalize undL L ((i : Int) + 1) = us at *
      obtain ⟨ul, hul⟩ : ∃ ul, ul = us.length := ⟨_, rfl⟩
      have HUL := Lib.hid hul
      have hul1 : ul ≤ 1000 := by omega
      clear hul hlu
      go_enter Try.func24, Try.ntmps24
      go_wp2_with fail
      refine hhas.mono ?_
      rintro e w1 ⟨rfl, rfl⟩
      clear hhas
      go_wp2_with fail
      refine HUND.out.mono ?_
      rintro e w1 ⟨la, lc, rfl, hlr, e1, hlf⟩
      rw [← HUL.out] at hlr hlf ⊢
      have HLR := Lib.hid hlr
      have hlr0 := Lib.hid hlf
      have h1 := HH.out.keep0 e1
      have hs1 := e1.size
      clear hcv hc1 hlr hlf HUND
      go_wp2_with fail
      go_loopw [6, 8, 9, 32] (fun ov _ _ iv wr => ∃ (j : Nat) (Lj : List Sg) (told : List Int) (a2 : Option Addr) (l2 c2 : Nat), j ≤ ul ∧ l2 ≤ j ∧ iv = .int .i64 j ∧ ov = .slice a2 l2 c2 ∧ Tr wr b (.slice (some ⟨g, 0, none⟩) n cap) Lj ∧ RI wr (.slice a2 l2 c2) told ∧ Ext [b, g] w1 wr ∧ Hid (∀ q, (Value.slice a2 l2 c2).ownBlock = some q → w1.heap.size ≤ q) ∧ Hid (upOwn Lj = upOwn L) ∧ Hid (abR L us = ((abR Lj (us.drop j)).1, told ++ (abR Lj (us.drop j)).2))) (fun _ _ _ iv _ => ul - (intOf iv).toNat)
      case atStart => exact ⟨0, L, [], none, 0, 0, Nat.zero_le _, Nat.le_refl _, rfl, rfl, h1, Rw.nil _, Ext.refl _ _, fun q hq => by simp [Value.ownBlock] at hq, rfl, rfl⟩
      case round =>
        obtain ⟨j, Lj, told, a2, l2, c2, hju, hl2, rfl, rfl, hT, hR, her, hfr, hup, hab⟩ := hrel
        clear h1
        have hlb : b < w.heap.size := HH.out.ob.blk.lt
        have hln := hT.ob.row.len
        have hcv : wr.cell? ⟨b, 0, none⟩ = some (.slice (some ⟨g, 0, none⟩) n cap) := hT.ob.blk.cell 0
        by_cases hj : j < ul
        · have d1 : decide (j < ul) = true := decide_eq_true hj
          obtain ⟨k, hk⟩ : ∃ k, us[j]? = some k := ⟨_, List.getElem?_eq_getElem (by rw [← HUL.out]; exact hj)⟩
          obtain ⟨q, rfl, hqn⟩ := HRG.out k (List.mem_of_getElem? hk)
          have hdr : us.drop j = ((q : Int) + 1) :: us.drop (j + 1) := by
            have hjl := (List.getElem?_eq_some_iff.1 hk).1
            have hjv := (List.getElem?_eq_some_iff.1 hk).2
            rw [List.drop_eq_getElem_cons hjl, hjv]
          obtain ⟨s, hs⟩ : ∃ s, Lj[q]? = some s := ⟨_, List.getElem?_eq_getElem (by rw [← hln]; exact hqn)⟩
          have hlk : RI wr (.slice la ul lc) us := HLR.out.keep her (fun x hx hm => by
            have := hlr0.out x hx
            simp at hm; omega)
          obtain ⟨lg, rfl, hlgl⟩ := hlk.addr (by omega)
          have hx0 := hlk.cell encI_ok.len hk 0 (by omega)
          simp only [encI, Nat.add_zero, Nat.mul_one, List.getElem?_cons_zero] at hx0
          have hc1 := hT.ob.row.cell encG_ok.len hs 1 (by omega)
          simp only [encG, Nat.add_zero, List.getElem?_cons_zero, List.getElem?_cons_succ] at hc1
          have hcf := hT.ob.row.free (q * 2 + 1)
          have c1 : (0 : Int) ≤ (j : Int) := by omega
          have c2' : (j : Int) < (ul : Int) := by omega
          have c3 : (0 : Int) ≤ (q : Int) := by omega
          have c4 : (q : Int) < (n : Int) := by omega
          have hqq : (q : Int) + 1 - 1 = q := by omega
          cases ho : s.off with
          | true =>
            rw [ho] at hc1
            have hab2 : abR L us = ((abR Lj (us.drop (j + 1))).1, told ++ (abR Lj (us.drop (j + 1))).2) := by
              have := hab.out
              rw [hdr, abR_off hs ho] at this; exact this
            have HAB2 := Lib.hid hab2; have HT := Lib.hid hT; have HR := Lib.hid hR
            clear hab hab2 hdr hs hk hlk ho hT hR hln
            go_wp2_with fail
            exact ⟨⟨j + 1, Lj, told, a2, l2, c2, by omega, by omega, by go_num, rfl, HT.out, HR.out, her, hfr, hup, HAB2.out⟩, by simp [intOf]; omega⟩
          | false =>
            rw [ho] at hc1
            have hab2 : abR L us = ((abR (Lj.set q { s with off := true }) (us.drop (j + 1))).1, (told ++ [(q : Int) + 1]) ++ (abR (Lj.set q { s with off := true }) (us.drop (j + 1))).2) := by
              have := hab.out
              rw [hdr, abR_on hs ho] at this
              rw [this]; simp
            have hup2 : upOwn (Lj.set q { s with off := true }) = upOwn L := by rw [upOwn_set hs]; exact hup.out
            have hT2 := hT.off hs
            have e2 : Ext [g] wr (wr.setCell ⟨g, q * 2 + 1, none⟩ (.bool true)) := Ext.setCell (Ext.refl _ _) (Or.inl (by simp)) _
            have hgne : ∀ x, (Value.slice a2 l2 c2).ownBlock = some x → x ∉ [b, g] := fun x hx hm => by
              have := hfr.out x hx
              simp at hm; omega
            have hR2 := hR.keep e2 (fun x hx hm => hgne x hx (by simp at hm; simp [hm]))
            have hl63 : l2 + 1 ≤ 1000000 := by omega
            have hlen : LenIs told [(q : Int) + 1] (l2 + 1) := by unfold LenIs; rw [← hR.len]; rfl
            have hsl := Sl.new (enc := encI .i64) (wr.setCell ⟨g, q * 2 + 1, none⟩ (.bool true)) ((q : Int) + 1) 3
            have hrw := hR2.alloc (.cells (encI .i64 ((q : Int) + 1)).toArray 3 (0, 0))
            have HAB2 := Lib.hid hab2; have HUP2 := Lib.hid hup2; have HT2 := Lib.hid hT2
            have her2 : Ext [b, g] w1 (wr.setCell ⟨g, q * 2 + 1, none⟩ (.bool true)) := her.trans e2 (by simp)
            have HER2 := Lib.hid her2; have HGNE := Lib.hid hgne
            rw [World.size_setCell] at hsl
            clear hab hab2 hup hup2 hdr hs hk hlk ho hT hT2 hR hR2 hln e2 her2 hgne
            go_wp2_with (at_builtin; refine wpList_appN tyI encI_ok (by rfl) _ _ (by rfl) hrw (by rfl) hsl (by rfl) hlen hl63 ?_)
            intro a5 c5 w5 hr5 hS5 hg5
            have hs3 := HER2.out.size
            have hs4 := her.size
            have hS6 := hS5 (Value.slice a2 l2 c2).ownBlock.toList (by simp +contextual)
            have her5 : Ext [b, g] w1 w5 := (HER2.out.alloc _).trans hS6 (fun x hx => .inr (hfr.out x (by simpa using hx)))
            have hT5 : Tr w5 b (.slice (some ⟨g, 0, none⟩) n cap) (Lj.set q { s with off := true }) := (HT2.out.keep0 ((Ext.refl [] _).alloc _)).keep hS6 (fun x hx hm => by
              have h1 := hfr.out x (by simpa using hm)
              rw [HUP2.out] at hx
              have h2 := HH.out.lt x hx
              omega)
            have hg6 : Hid (∀ x, (Value.slice a5 (l2 + 1) c5).ownBlock = some x → w1.heap.size ≤ x) := fun x hx => (hg5 x hx).elim (hfr.out x) (fun h => by omega)
            have HT5 := Lib.hid hT5; have HR5 := Lib.hid hr5; have HER5 := Lib.hid her5
            clear hS5 hS6 hg5 hT5 hr5 her5 hsl hrw hlen hfr
            go_wp2_with fail
            exact ⟨⟨j + 1, _, told ++ [(q : Int) + 1], a5, l2 + 1, c5, by omega, by omega, by go_num, rfl, HT5.out, HR5.out, HER5.out, hg6, HUP2.out, HAB2.out⟩, by simp [intOf]; omega⟩
        · have d1 : decide (j < ul) = false := decide_eq_false hj
          have hab2 : abR L us = (Lj, told) := by
            have := hab.out
            rw [List.drop_eq_nil_of_le (by have := HUL.out; omega), abR] at this
            rw [this]; simp
          have hlt := hR.len
          have HAB2 := Lib.hid hab2; have HT := Lib.hid hT; have HR := Lib.hid hR; have HLT := Lib.hid hlt
          clear hab hab2 hT hR hln hlt hcv
          go_wp2_with fail
          refine bodyPost_ret (v := .tuple #[.slice a2 l2 c2, .int .i64 0]) (by simp [results, Try.results24, go_sem]) rfl ?_
          have hfin : Ext (b :: (Value.slice (some ⟨g, 0, none⟩) n cap).ownBlock.toList) w wr := (e1.mono (T := [b, g]) (by simp)).trans her (by simp)
          unfold AbortP
          rw [HM.out, HAB2.out]
          have hl := HLT.out
          subst hl
          exact ⟨a2, c2, rfl, HR.out, fun x hx => Nat.le_trans hs1 (hfr.out x hx), HT.out, hup.out, hfin⟩
end Go.Proofs.Ytmmhpjodnceipaa
