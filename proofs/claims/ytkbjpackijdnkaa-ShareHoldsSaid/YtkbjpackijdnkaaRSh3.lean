/- The document's preflights: Join, by contract. -/
import Derived.Test.YtkbjpackijdnkaaRSh2
namespace Go.Proofs.Ytkbjpackijdnkaa
open Go.RowKit Go.Proofs.YtkbjpackijdnkaaW.PrintLast
set_option linter.unusedVariables false
set_option linter.unusedSimpArgs false

def RJoinP (b : Nat) (S : List Nat) (last : Int) (M : List Sk) (x : Wt) (id : Int) (w : World) (e : Ending) (w' : World) : Prop :=
  e = .returned (.tuple #[.int .i64 (joinA M last x id).1.1, .bool (joinA M last x id).1.2.1, .int .i64 (joinA M last x id).1.2.2]) ∧ Chg (fun w' S' => RH w' b S' (joinA M last x id).2.1 (joinA M last x id).2.2) S w w'

/-- Two wants are not one: where they differ. -/
theorem want_split {x a : Wt} (h : sameW x a = false) : (¬ x.org.toList = a.org.toList) ∨ (x.org = a.org ∧ ¬ x.url.toList = a.url.toList) ∨ (x.org = a.org ∧ x.url = a.url ∧ x.creds = !a.creds) ∨
    (x.org = a.org ∧ x.url = a.url ∧ x.creds = a.creds ∧ ¬ x.meth.toList = a.meth.toList) ∨ (x.org = a.org ∧ x.url = a.url ∧ x.creds = a.creds ∧ x.meth = a.meth ∧ ¬ x.names.toList = a.names.toList) := by
  unfold sameW at h
  by_cases g1 : x.org = a.org
  · by_cases g2 : x.url = a.url
    · by_cases g3 : x.creds = a.creds
      · by_cases g4 : x.meth = a.meth
        · right; right; right; right
          refine ⟨g1, g2, g3, g4, fun he => ?_⟩
          have := bytes_inj.1 he
          simp [g1, g2, g3, g4, this] at h
        · right; right; right; left
          exact ⟨g1, g2, g3, fun he => g4 (bytes_inj.1 he)⟩
      · right; right; left
        refine ⟨g1, g2, ?_⟩
        revert g3
        cases x.creds <;> cases a.creds <;> simp
    · right; left; exact ⟨g1, fun h => g2 (bytes_inj.1 h)⟩
  · left; exact fun h => g1 (bytes_inj.1 h)
theorem want_same {x a : Wt} (h : sameW x a = true) : x.org = a.org ∧ x.url = a.url ∧ x.creds = a.creds ∧ x.meth = a.meth ∧ x.names = a.names := by
  unfold sameW at h
  simp only [Bool.and_eq_true, decide_eq_true_eq, beq_iff_eq] at h
  exact ⟨h.1.1.1.1, h.1.1.1.2, h.1.1.2, h.1.2, h.2⟩
/-- Who has a member has a number. -/
theorem of_pos {M : List Sk} (hv : InvS M) (id : Int) : (M.any (holdsA id) = true → 1 ≤ ofA M id) ∧ (M.any (holdsA id) = false → ofA M id = 0) := by
  unfold ofA
  constructor
  · intro h
    rw [List.any_eq_true] at h
    obtain ⟨s, hs, hh⟩ := h
    cases hf : M.find? (holdsA id) with
    | none => exact absurd hh (by have := List.find?_eq_none.1 hf s hs; simpa using this)
    | some t => exact (hv t (List.mem_of_find?_eq_some hf)).1
  · intro h
    rw [List.any_eq_false] at h
    rw [List.find?_eq_none.2 (fun s hs => h s hs)]; rfl

set_option maxHeartbeats 16000000 in
set_option maxRecDepth 100000 in
theorem rh_join (b : Nat) (S : List Nat) (last : Int) (h0 : 0 ≤ last) (hl6 : last < 1000000) (M : List Sk) (x : Wt) (id : Int) (hx : M.length < 1000) (hu : MemOk M) (hv : InvS M) (w : World) (h : RH w b S last M) :
    Calls Try.prog 43 #[.pointer (some ⟨b, 0, none⟩), .agg (encW x).toArray, .int .i64 id] w (RJoinP b S last M x id w) := by
  unfold RJoinP
  obtain ⟨xo, xu, xc, xm, xn⟩ := x
  have e0 : Ext [] w (w.alloc (.cells #[.string xo, .string xu, .bool xc, .string xm, .string xn] 44 (0, 0))) := (Ext.refl _ _).alloc _
  have hB : Blk (w.alloc (.cells #[.string xo, .string xu, .bool xc, .string xm, .string xn] 44 (0, 0))) w.heap.size #[.string xo, .string xu, .bool xc, .string xm, .string xn] 44 := Blk.new _ _ _
  have HB := Lib.hid hB; have E0 := Lib.hid e0; have HH := Lib.hid h
  have hret : ∀ c w', joinA M last ⟨xo, xu, xc, xm, xn⟩ id = ((0, false, c), last, M) → Ext [] w w' → (Ending.returned (.tuple #[.int .i64 0, .bool false, .int .i64 c]) = .returned (.tuple #[.int .i64 (joinA M last ⟨xo, xu, xc, xm, xn⟩ id).1.1, .bool (joinA M last ⟨xo, xu, xc, xm, xn⟩ id).1.2.1, .int .i64 (joinA M last ⟨xo, xu, xc, xm, xn⟩ id).1.2.2]) ∧ Chg (fun w' S' => RH w' b S' (joinA M last ⟨xo, xu, xc, xm, xn⟩ id).2.1 (joinA M last ⟨xo, xu, xc, xm, xn⟩ id).2.2) S w w') := fun c w' hj he => by
    rw [hj]
    exact ⟨rfl, S, HH.out.keep0 he, he.mono (by simp), fun x hx => .inl hx⟩
  have HRET := Lib.hid hret
  clear hB e0 hret
  unfold encW
  by_cases hid1 : id < 1
  · have d1 : decide (id < 1) = true := decide_eq_true hid1
    have hj : joinA M last ⟨xo, xu, xc, xm, xn⟩ id = ((0, false, 2), last, M) := by unfold joinA; rw [if_pos hid1]
    have HJ := Lib.hid hj
    clear hj h hu hx h0 hl6 hid1 hv
    go_enter Try.func43, Try.ntmps43
    go_wp2_with fail
    refine bodyPost_ret (v := .tuple #[.int .i64 0, .bool false, .int .i64 2]) (by simp [results, Try.results43, go_sem]) rfl ?_
    exact HRET.out 2 _ HJ.out E0.out
  have d1 : decide (id < 1) = false := decide_eq_false hid1
  have hof := fun W (hW : Ext [] w W) => rh_of b S last M id (by omega) hu W (h.keep0 hW)
  obtain ⟨hp1, hp2⟩ := of_pos hv id
  cases han : M.any (holdsA id) with
  | true =>
    have hpos := hp1 han
    generalize ofA M id = o at hof hpos
    have d5 : decide (0 < o) = true := decide_eq_true (by omega)
    have hj : joinA M last ⟨xo, xu, xc, xm, xn⟩ id = ((0, false, 16), last, M) := by unfold joinA; rw [if_neg hid1, if_pos han]
    have HJ := Lib.hid hj; have HOF := Lib.hid hof
    clear hj h hu hx h0 hl6 hid1 han hof hp1 hp2 hv hpos
    go_enter Try.func43, Try.ntmps43
    go_wp2_with fail
    refine (HOF.out _ E0.out).mono ?_
    rintro e w1 ⟨rfl, rfl⟩
    go_wp2_with fail
    refine bodyPost_ret (v := .tuple #[.int .i64 0, .bool false, .int .i64 16]) (by simp [results, Try.results43, go_sem]) rfl ?_
    exact HRET.out 16 _ HJ.out E0.out
  | false =>
  rw [hp2 han] at hof
  clear hp1 hp2
  obtain ⟨v, L, h, hS, rfl⟩ := h
  have hle := cntA_le hu
  rw [absH_len] at hx
  obtain ⟨va, cap, rfl⟩ := h.ob.row.val
  obtain ⟨n, hn⟩ : ∃ n, n = L.length := ⟨_, rfl⟩
  rw [← hn] at h hS hx
  have hXlt : ∀ y ∈ (b :: (Value.slice va n cap).ownBlock.toList) ++ mOwn L, y ≠ w.heap.size := fun y hy => by have := h.lt y hy; omega
  have hT := h.keep0 E0.out
  have hcv : (w.alloc (.cells #[.string xo, .string xu, .bool xc, .string xm, .string xn] 44 (0, 0))).cell? ⟨b, 1, none⟩ = some (.slice va n cap) := hT.ob.blk.cell 1
  have HOF := Lib.hid hof; have HT := Lib.hid hT; have HS := Lib.hid hS; have HU := Lib.hid hu.L; have HN := Lib.hid hn; have HXLT := Lib.hid hXlt; have HLE := Lib.hid hle; have HAN := Lib.hid han; have HCV := Lib.hid hcv
  have hbl := h.ob.blk.lt
  clear h hS hu hn hXlt hle han hof hT hv hcv
  go_enter Try.func43, Try.ntmps43
  go_wp2_with fail
  refine (HOF.out _ E0.out).mono ?_
  rintro e w1 ⟨rfl, hw1⟩
  obtain ⟨X, hXe⟩ : ∃ X, w.heap.size = X := ⟨_, rfl⟩
  have hBX := HB.out
  have hE0 := E0.out
  have hcv := HCV.out
  have hT := HT.out
  rw [hw1] at hBX hE0 hcv hT
  rw [hXe] at hBX HXLT ⊢
  have HBX := Lib.hid hBX; have X1 := Lib.hid hE0; have HT1 := Lib.hid hT
  have hXge : w.heap.size ≤ X := by omega
  clear hBX hE0 hT HT HB E0 hw1 HCV hXe
  go_wp2_with fail
  go_loop [9, 10] (fun sv iv => ∃ (k t : Nat), k ≤ n ∧ iv = .int .i64 k ∧ sv = .int .i64 t ∧ t ≤ k * 100000 ∧ Hid (t = cntA ((absH L).take k))) (fun _ iv => n - (intOf iv).toNat)
  case atStart => exact ⟨0, 0, Nat.zero_le _, rfl, rfl, Nat.zero_le _, by simp [Hid, cntA]⟩
  case round =>
    obtain ⟨k, t, hkn, rfl, rfl, htk, hct⟩ := hrel
    by_cases hk : k < n
    · have d2 : decide (k < n) = true := decide_eq_true hk
      obtain ⟨s, hs⟩ : ∃ s, L[k]? = some s := ⟨_, List.getElem?_eq_getElem (by rw [← HN.out]; exact hk)⟩
      have hr := HT1.out.ob.row
      obtain ⟨g, rfl, hgl⟩ := hr.addr (by omega)
      have c6 := hr.cell encSh_ok.len hs 6 (by omega)
      simp only [encSh, Sh.row, Nat.add_zero, List.getElem?_cons_zero, List.getElem?_cons_succ] at c6
      have b1 : (0 : Int) ≤ (k : Int) := by omega
      have b2 : (k : Int) < (n : Int) := by omega
      have hsl := HU.out s (List.mem_of_getElem? hs)
      have hst := cntA_take (absH L) k _ (absH_at hs)
      obtain ⟨sl, hsle⟩ : ∃ sl, sl = s.ids.length := ⟨_, rfl⟩
      rw [← hsle] at hsl c6
      have hst2 : cntA ((absH L).take (k + 1)) = t + sl := by rw [hst, ← hct.out, hsle]; rfl
      have HST := Lib.hid hst2
      clear hr hs hst hst2 hct hsle
      go_wp2_with fail
      exact ⟨⟨k + 1, t + sl, by omega, by go_num, by go_num, by omega, HST.out.symm⟩, by simp [intOf]; omega⟩
    · have d2 : decide (k < n) = false := decide_eq_false hk
      have hcn : t = cntA (absH L) := by rw [hct.out, List.take_of_length_le (by rw [absH_len, ← HN.out]; omega)]
      clear hct
      by_cases hfull : 64 ≤ t
      · have d3 : decide (64 ≤ (t : Int)) = true := decide_eq_true (by omega)
        have hj : joinA (absH L) last ⟨xo, xu, xc, xm, xn⟩ id = ((0, false, 10), last, (absH L)) := by unfold joinA; rw [if_neg (show ¬ id < 1 by omega), if_neg (by rw [HAN.out]; decide), if_pos (by rw [← hcn]; exact hfull)]
        have HJ := Lib.hid hj
        clear hj hcn hfull
        go_wp2_with fail
        refine bodyPost_ret (v := .tuple #[.int .i64 0, .bool false, .int .i64 10]) (by simp [results, Try.results43, go_sem]) rfl ?_
        exact HRET.out 10 _ HJ.out X1.out
      have d3 : decide (64 ≤ (t : Int)) = false := decide_eq_false (by omega)
      have hjg : joinA (absH L) last ⟨xo, xu, xc, xm, xn⟩ id = match (absH L).findIdx? (wantIsA ⟨xo, xu, xc, xm, xn⟩) with
          | some i => match (absH L)[i]? with
            | some s => ((s.num, false, 0), last, (absH L).set i ⟨s.num, s.want, s.ids ++ [id]⟩)
            | none => ((0, false, 0), last, absH L)
          | none => ((last + 1, true, 0), last + 1, absH L ++ [⟨last + 1, ⟨xo, xu, xc, xm, xn⟩, [id]⟩]) := by
        unfold joinA; rw [if_neg (show ¬ id < 1 by omega), if_neg (by rw [HAN.out]; decide), if_neg (by rw [← hcn]; exact hfull)]; rfl
      have HJG := Lib.hid hjg
      clear hjg hcn hfull hk hkn htk HRET HH HLE
      go_wp2_with fail
      go_loopw [11] (fun iv wr => ∃ (i : Nat), i ≤ n ∧ iv = .int .i64 i ∧ Ext [] w1 wr ∧ Hid (∀ (j : Nat) x, j < i → L[j]? = some x → wantIs ⟨xo, xu, xc, xm, xn⟩ x = false)) (fun iv _ => n - (intOf iv).toNat)
      case atStart => exact ⟨0, Nat.zero_le _, rfl, Ext.refl _ _, fun j x hj => absurd hj (Nat.not_lt_zero _)⟩
      case round =>
        obtain ⟨i, hin', rfl, her, hall⟩ := hrel
        have hTr := HT1.out.keep0 her
        clear hcv
        have hcv : wr.cell? ⟨b, 1, none⟩ = some (.slice va n cap) := hTr.ob.blk.cell 1
        by_cases hi : i < n
        · have d4 : decide (i < n) = true := decide_eq_true hi
          obtain ⟨s, hxk⟩ : ∃ x, L[i]? = some x := ⟨_, List.getElem?_eq_getElem (by rw [← HN.out]; exact hi)⟩
          obtain ⟨g, rfl, hgl⟩ := hTr.ob.row.addr (by omega)
          have l1 := hTr.ob.row.cell encSh_ok.len hxk 1 (by omega); have l2 := hTr.ob.row.cell encSh_ok.len hxk 2 (by omega); have l3 := hTr.ob.row.cell encSh_ok.len hxk 3 (by omega)
          have l4 := hTr.ob.row.cell encSh_ok.len hxk 4 (by omega); have l5 := hTr.ob.row.cell encSh_ok.len hxk 5 (by omega)
          simp only [encSh, Nat.add_zero, List.getElem?_cons_zero, List.getElem?_cons_succ] at l1 l2 l3 l4 l5
          have hBr := HBX.out.keep her (by simp)
          have q0 := hBr.cell 0; have q1 := hBr.cell 1; have q2 := hBr.cell 2; have q3 := hBr.cell 3; have q4 := hBr.cell 4
          simp only [List.getElem?_toArray, List.getElem?_cons_zero, List.getElem?_cons_succ] at q0 q1 q2 q3 q4
          have b1 : (0 : Int) ≤ (i : Int) := by omega
          have b2 : (i : Int) < (n : Int) := by omega
          have hnext : wantIs ⟨xo, xu, xc, xm, xn⟩ s = false → Hid (∀ (j : Nat) x, j < i + 1 → L[j]? = some x → wantIs ⟨xo, xu, xc, xm, xn⟩ x = false) := fun hc j y hj hy => by
            rcases Nat.lt_or_ge j i with h1 | h1
            · exact hall.out j y h1 hy
            · have : j = i := by omega
              rw [this, hxk] at hy
              injection hy with hy
              rw [← hy]; exact hc
          have HNX := Lib.hid hnext; have H1 := Lib.hid hxk; have HALL := hall; have HER := Lib.hid her
          clear hnext hxk hall hTr hBr her
          cases hc : sameW s.want ⟨xo, xu, xc, xm, xn⟩ with
          | false =>
            have hsp := want_split hc
            have HNX2 := HNX.out hc
            obtain ⟨snum, ⟨so, su, sc, sm, sn⟩, sma, smc, sids⟩ := s
            simp only at hsp l1 l2 l3 l4 l5
            clear hc HNX
            rcases hsp with hne | ⟨rfl, hne⟩ | ⟨rfl, rfl, hne⟩ | ⟨rfl, rfl, rfl, hne⟩ | ⟨rfl, rfl, rfl, rfl, hne⟩
            · skip
              go_wp2_with fail
              go_quiet (fail)
              go_wp2_with fail
              exact ⟨⟨i + 1, by omega, by go_num, HER.out.drewN _, HNX2⟩, by simp [intOf]; omega⟩
            · skip
              go_wp2_with fail
              go_quiet (fail)
              go_wp2_with fail
              exact ⟨⟨i + 1, by omega, by go_num, HER.out.drewN _, HNX2⟩, by simp [intOf]; omega⟩
            · subst hne
              cases xc with
              | true =>
                go_wp2_with fail
                go_quiet (fail)
                go_wp2_with fail
                exact ⟨⟨i + 1, by omega, by go_num, HER.out.drewN _, HNX2⟩, by simp [intOf]; omega⟩
              | false =>
                go_wp2_with fail
                go_quiet (fail)
                go_wp2_with fail
                exact ⟨⟨i + 1, by omega, by go_num, HER.out.drewN _, HNX2⟩, by simp [intOf]; omega⟩
            · skip
              go_wp2_with fail
              go_quiet (fail)
              go_wp2_with fail
              exact ⟨⟨i + 1, by omega, by go_num, HER.out.drewN _, HNX2⟩, by simp [intOf]; omega⟩
            · skip
              go_wp2_with fail
              go_quiet (fail)
              go_wp2_with fail
              exact ⟨⟨i + 1, by omega, by go_num, HER.out.drewN _, HNX2⟩, by simp [intOf]; omega⟩
          | true =>
            have hf : (absH L).findIdx? (wantIsA ⟨xo, xu, xc, xm, xn⟩) = some i := by
              refine find_of (absH_at H1.out) hc (fun j y hj hy => ?_)
              unfold absH at hy
              rw [List.getElem?_map] at hy
              obtain ⟨z, hz, rfl⟩ := Option.map_eq_some_iff.1 hy
              exact HALL.out j z hj hz
            have hj := HJG.out
            rw [hf] at hj
            simp only [absH_at H1.out] at hj
            have HJ := Lib.hid hj
            have hcc := want_same hc
            have hws : s.want = ⟨xo, xu, xc, xm, xn⟩ := by
              obtain ⟨snum, ⟨so, su, sc, sm, sn⟩, sma, smc, sids⟩ := s
              simp only at hcc
              obtain ⟨rfl, rfl, rfl, rfl, rfl⟩ := hcc
              rfl
            rw [hws] at l1 l2 l3 l4 l5
            simp only at l1 l2 l3 l4 l5
            clear hf hj HNX HALL hc HJG hcc hws
            go_wp2_with fail
            go_quiet (fail)
            go_wp2_with fail
            have hTz := HT1.out.keep0 (HER.out.drewN nq)
            have hEz := X1.out.trans (HER.out.drewN nq) (by simp)
            generalize wr.drewN nq = w3 at hTz hEz ⊢
            clear l1 l2 l3 l4 l5 q0 q1 q2 q3 q4 HER hcv HBX HT1 X1
            obtain ⟨l, hl⟩ : ∃ l, l = s.ids.length := ⟨_, rfl⟩
            have hsm := List.mem_of_getElem? H1.out
            have hl5 : l < 100000 := by rw [hl]; exact HU.out s hsm
            have hcv3 : w3.cell? ⟨b, 1, none⟩ = some (.slice (some ⟨g, 0, none⟩) n cap) := hTz.ob.blk.cell 1
            have c6 := hTz.ob.row.cell encSh_ok.len H1.out 6 (by omega)
            simp only [encSh, Sh.row, List.getElem?_cons_zero, List.getElem?_cons_succ] at c6
            rw [← hl] at c6
            have kk : ∀ W, Ext [] w3 W → W.cell? ⟨b, 1, none⟩ = some (.slice (some ⟨g, 0, none⟩) n cap) ∧ W.cell? ⟨g, i * 7 + 6, none⟩ = some (.slice s.ma l s.mc) ∧ W.frozen? ⟨g, i * 7 + 6, none⟩ = false := fun W hW => by
              have ho := hTz.ob.keep hW (by simp)
              have h6 := ho.row.cell encSh_ok.len H1.out 6 (by omega)
              simp only [encSh, Sh.row, List.getElem?_cons_zero, List.getElem?_cons_succ] at h6
              rw [← hl] at h6
              exact ⟨ho.blk.cell 1, h6, ho.row.free _⟩
            have hri := hTz.inn s hsm
            unfold Sh.row at hri
            rw [← hl] at hri
            have h62 : l ≤ 1000000 := by omega
            have h63 : l + 1 ≤ 1000000 := by omega
            have hlen1 : LenIs ([] : List Int) s.ids l := by unfold LenIs; rw [← hl]; simp
            have hlen2 : LenIs s.ids [id] (l + 1) := by unfold LenIs; rw [← hl]; rfl
            have hsl1 := hri.drew.sl
            have hl2 : (s.ids ++ [id]).length = l + 1 := by rw [List.length_append, ← hl]; rfl
            obtain ⟨ids0, hids0⟩ : ∃ ids0, ids0 = s.ids := ⟨_, rfl⟩
            rw [← hids0] at hlen1 hlen2 hsl1
            have HID0 := Lib.hid hids0
            have KK := Lib.hid kk; have HSL1 := Lib.hid hsl1; have HT3 := Lib.hid hTz; have X3 := Lib.hid hEz; have HL2 := Lib.hid hl2; have HL := Lib.hid hl
            clear kk hsl1 hTz hEz hri hsm hl2 hl hids0
            refine start_ (n := 20) (S := fun w' => w'.cell? ⟨b, 1, none⟩ = some (.slice (some ⟨g, 0, none⟩) n cap) ∧ w'.cell? ⟨g, i * 7 + 6, none⟩ = some (.slice s.ma l s.mc) ∧ (0 : Int) ≤ (i : Int) ∧ (i : Int) < (n : Int)) (ds := [19]) #[false, false, false, false, false, false, false, false, false, false, false, false, false, false, false, false, false, false, false, false] (by kernel_rfl) rfl rfl ⟨hcv3, c6, b1, b2⟩ (fun hHeld => ?_)
            refine pure_ (i := 0) (N := some 59) (v := ?_) (a' := ?_) #[true, false, false, false, false, false, false, false, false, false, false, false, false, false, false, false, false, false, false, false] rfl rfl (by kernel_rfl) (fun _ _ _ h => h) (Or.inl ⟨by rfl, ?_⟩) ?_ ?_
            rotate_left
            · intro w'
              go_simp
              with_reducible rfl
            rotate_left
            · (simp only [Act.put, List.setIfInBounds_toArray, i64_w, i32_w]; dsimp only [List.set_cons_zero, List.set_cons_succ])
              rfl
            refine pure_ (i := 1) (N := some 60) (v := ?_) (a' := ?_) #[true, true, false, false, false, false, false, false, false, false, false, false, false, false, false, false, false, false, false, false] rfl rfl (by kernel_rfl) (fun _ _ _ h => h) (Or.inl ⟨by rfl, ?_⟩) ?_ ?_
            rotate_left
            · intro w'
              go_simp
              with_reducible rfl
            rotate_left
            · (simp only [Act.put, List.setIfInBounds_toArray, i64_w, i32_w]; dsimp only [List.set_cons_zero, List.set_cons_succ])
              rfl
            refine pure_ (i := 2) (N := some 61) (v := ?_) (a' := ?_) #[true, true, true, false, false, false, false, false, false, false, false, false, false, false, false, false, false, false, false, false] rfl rfl (by kernel_rfl) (fun _ _ _ h => h) (Or.inl ⟨by rfl, ?_⟩) ?_ ?_
            rotate_left
            · intro w'
              go_simp
              with_reducible rfl
            rotate_left
            · (simp only [Act.put, List.setIfInBounds_toArray, i64_w, i32_w]; dsimp only [List.set_cons_zero, List.set_cons_succ])
              rfl
            refine pure_ (i := 4) (N := some 63) (v := ?_) (a' := ?_) #[true, true, true, false, true, false, false, false, false, false, false, false, false, false, false, false, false, false, false, false] rfl rfl (by kernel_rfl) (fun _ _ _ h => h) (Or.inl ⟨by rfl, ?_⟩) ?_ ?_
            rotate_left
            · intro w'
              go_simp
              with_reducible rfl
            rotate_left
            · (simp only [Act.put, List.setIfInBounds_toArray, i64_w, i32_w]; dsimp only [List.set_cons_zero, List.set_cons_succ])
              rfl
            refine pure_ (i := 5) (N := some 64) (v := ?_) (a' := ?_) #[true, true, true, false, true, true, false, false, false, false, false, false, false, false, false, false, false, false, false, false] rfl rfl (by kernel_rfl) (fun _ _ _ h => h) (Or.inl ⟨by rfl, ?_⟩) ?_ ?_
            rotate_left
            · intro w'
              go_simp
              with_reducible rfl
            rotate_left
            · (simp only [Act.put, List.setIfInBounds_toArray, i64_w, i32_w]; dsimp only [List.set_cons_zero, List.set_cons_succ])
              rfl
            refine pure_ (i := 6) (N := some 65) (v := ?_) (a' := ?_) #[true, true, true, false, true, true, true, false, false, false, false, false, false, false, false, false, false, false, false, false] rfl rfl (by kernel_rfl) (fun _ _ _ h => h) (Or.inl ⟨by rfl, ?_⟩) ?_ ?_
            rotate_left
            · intro w'
              go_simp
              with_reducible rfl
            rotate_left
            · (simp only [Act.put, List.setIfInBounds_toArray, i64_w, i32_w]; dsimp only [List.set_cons_zero, List.set_cons_succ])
              rfl
            refine pure_ (i := 7) (N := some 66) (v := ?_) (a' := ?_) #[true, true, true, false, true, true, true, true, false, false, false, false, false, false, false, false, false, false, false, false] rfl rfl (by kernel_rfl) (fun _ _ _ h => h) (Or.inl ⟨by rfl, ?_⟩) ?_ ?_
            rotate_left
            · intro w'
              go_simp
              with_reducible rfl
            rotate_left
            · (simp only [Act.put, List.setIfInBounds_toArray, i64_w, i32_w]; dsimp only [List.set_cons_zero, List.set_cons_succ])
              rfl
            refine pure_ (i := 9) (N := some 68) (v := ?_) (a' := ?_) #[true, true, true, false, true, true, true, true, false, true, false, false, false, false, false, false, false, false, false, false] rfl rfl (by kernel_rfl) (fun _ _ _ h => h) (Or.inl ⟨by rfl, ?_⟩) ?_ ?_
            rotate_left
            · intro w'
              go_simp
              with_reducible rfl
            rotate_left
            · (simp only [Act.put, List.setIfInBounds_toArray, i64_w, i32_w]; dsimp only [List.set_cons_zero, List.set_cons_succ])
              rfl
            refine pure_ (i := 14) (N := some 73) (v := ?_) (a' := ?_) #[true, true, true, false, true, true, true, true, false, true, false, false, false, false, true, false, false, false, false, false] rfl rfl (by kernel_rfl) (fun _ _ _ h => h) (Or.inl ⟨by rfl, ?_⟩) ?_ ?_
            rotate_left
            · intro w'
              go_simp
              with_reducible rfl
            rotate_left
            · (simp only [Act.put, List.setIfInBounds_toArray, i64_w, i32_w]; dsimp only [List.set_cons_zero, List.set_cons_succ])
              rfl
            refine take_ (i := 3) (N := some 62) (v := ?_) (a' := ?_) #[true, true, true, true, true, true, true, true, false, true, false, false, false, false, true, false, false, false, false, false] rfl rfl (by kernel_rfl) (fun _ _ _ h => h) (Or.inl ⟨by rfl, ?_⟩) hHeld ?_ ?_
            rotate_left
            · rintro w' ⟨s0, s1, s2, s3⟩
              go_simp
              with_reducible rfl
            rotate_left
            · (simp only [Act.put, List.setIfInBounds_toArray, i64_w, i32_w]; dsimp only [List.set_cons_zero, List.set_cons_succ])
              rfl
            refine take_ (i := 8) (N := some 67) (v := ?_) (a' := ?_) #[true, true, true, true, true, true, true, true, true, true, false, false, false, false, true, false, false, false, false, false] rfl rfl (by kernel_rfl) (fun _ _ _ h => h) (Or.inl ⟨by rfl, ?_⟩) hHeld ?_ ?_
            rotate_left
            · rintro w' ⟨s0, s1, s2, s3⟩
              go_simp
              with_reducible rfl
            rotate_left
            · (simp only [Act.put, List.setIfInBounds_toArray, i64_w, i32_w]; dsimp only [List.set_cons_zero, List.set_cons_succ])
              rfl
            refine pure_ (i := 10) (N := some 69) (v := ?_) (a' := ?_) #[true, true, true, true, true, true, true, true, true, true, true, false, false, false, true, false, false, false, false, false] rfl rfl (by kernel_rfl) (fun _ _ _ h => h) (Or.inl ⟨by rfl, ?_⟩) ?_ ?_
            rotate_left
            · intro w'
              go_simp
              with_reducible rfl
            rotate_left
            · (simp only [Act.put, List.setIfInBounds_toArray, i64_w, i32_w]; dsimp only [List.set_cons_zero, List.set_cons_succ])
              rfl
            refine pure_ (i := 11) (N := some 70) (v := ?_) (a' := ?_) #[true, true, true, true, true, true, true, true, true, true, true, true, false, false, true, false, false, false, false, false] rfl rfl (by kernel_rfl) (fun _ _ _ h => h) (Or.inl ⟨by rfl, ?_⟩) ?_ ?_
            rotate_left
            · intro w'
              go_simp
              with_reducible rfl
            rotate_left
            · (simp only [Act.put, List.setIfInBounds_toArray, i64_w, i32_w]; dsimp only [List.set_cons_zero, List.set_cons_succ])
              rfl
            refine take_ (i := 12) (N := some 71) (v := ?_) (a' := ?_) #[true, true, true, true, true, true, true, true, true, true, true, true, true, false, true, false, false, false, false, false] rfl rfl (by kernel_rfl) (fun _ _ _ h => h) (Or.inl ⟨by rfl, ?_⟩) hHeld ?_ ?_
            rotate_left
            · rintro w' ⟨s0, s1, s2, s3⟩
              go_simp
              with_reducible rfl
            rotate_left
            · (simp only [Act.put, List.setIfInBounds_toArray, i64_w, i32_w]; dsimp only [List.set_cons_zero, List.set_cons_succ])
              rfl
            refine join_ (σ := Option Addr × Nat × Nat) 4 #[true, true, true, true, true, true, true, true, true, true, true, true, true, true, true, true, false, false, false, false] (fun s => [(72, .slice s.1 l s.2.1), (74, .slice (some ⟨s.2.2, 0, none⟩) 1 1)]) (fun s w' => Ext [] w3 w' ∧ RI w' (.slice s.1 l s.2.1) ids0 ∧ (∀ q, (Value.slice s.1 l s.2.1).ownBlock = some q → w3.heap.size ≤ q) ∧ Sl (encI .i64) w' (.slice (some ⟨s.2.2, 0, none⟩) 1 1) [id]) ?_ ?_
            rotate_left
            · intro hCont
              refine two_ (i := 13) (j := 15) (Ni := some 72) (Nj := some 74) #[true, true, true, true, true, true, true, true, true, true, true, true, true, true, true, false, false, false, false, false] #[true, true, true, true, true, true, true, true, true, true, true, true, true, false, true, true, false, false, false, false] rfl rfl rfl rfl (by kernel_rfl) (by decide) (by decide) (fun K hK => ?_) (fun K hK => ?_)
              · skip
                refine step_appN tyI encI_ok (by rfl) _ _ (by rfl) (Rw.nil w3.drew) (by rfl) HSL1.out (by rfl) hlen1 h62 ?_
                intro a4 c4 w5 hr5 hS5 hg5
                have e5 : Ext [] w3 w5 := Ext.of_drew (hS5 [] (by simp [Value.ownBlock]))
                have hg5' : ∀ q, (Value.slice a4 l c4).ownBlock = some q → w3.heap.size ≤ q := fun q hq => (hg5 q hq).elim (fun h => by simp [Value.ownBlock] at h) (fun h => h)
                rw [List.nil_append] at hr5
                clear hS5 hg5
                have e6 : Ext [] w3 (w5.alloc (.cells #[.int .i64 id] 3 (0, 0))) := e5.alloc _
                have hr6 := hr5.alloc (.cells #[.int .i64 id] 3 (0, 0))
                have hs6 := Sl.new (enc := encI .i64) w5 id 3
                refine hK.out _ _ ⟨(KK.out _ e5).1, (KK.out _ e5).2.1, b1, b2⟩ (fun hHeld => ?_)
                clear hK K
                refine norm_ (a' := ?_) ?_ ?_
                rotate_left
                · show Act.put _ (some 72) _ = _
                  (simp only [Act.put, List.setIfInBounds_toArray, i64_w, i32_w]; dsimp only [List.set_cons_zero, List.set_cons_succ])
                  rfl
                refine one_ (i := 15) (N := some 74) #[true, true, true, true, true, true, true, true, true, true, true, true, true, true, true, true, false, false, false, false] rfl rfl (by kernel_rfl) (by decide) (fun K hK => ?_)
                refine value_ (w1 := ?_) (v := ?_) (by rfl) rfl ?_ ?_
                rotate_left 2
                · go_simp
                  constructor
                  · rfl
                  · rfl
                refine hK.out _ _ ⟨(KK.out _ e6).1, (KK.out _ e6).2.1, b1, b2⟩ (fun hHeld => ?_)
                clear hK K
                refine norm_ (a' := ?_) ?_ ?_
                rotate_left
                · show Act.put _ (some 74) _ = _
                  (simp only [Act.put, List.setIfInBounds_toArray, i64_w, i32_w]; dsimp only [List.set_cons_zero, List.set_cons_succ])
                  rfl
                exact norm_ (by simp only [putAll, Act.put, List.setIfInBounds_toArray, List.set_cons_zero, List.set_cons_succ]) (hCont (a4, c4, w5.heap.size) _ ⟨e6, hr6, hg5', hs6⟩)
              · skip
                have e4 : Ext [] w3 (w3.drew.alloc (.cells #[.int .i64 id] 3 (0, 0))) := ((Ext.refl _ _).drew).alloc _
                refine value_ (w1 := ?_) (v := ?_) (by rfl) rfl ?_ ?_
                rotate_left 2
                · go_simp
                  constructor
                  · rfl
                  · rfl
                refine hK.out _ _ ⟨(KK.out _ e4).1, (KK.out _ e4).2.1, b1, b2⟩ (fun hHeld => ?_)
                clear hK K
                refine norm_ (a' := ?_) ?_ ?_
                rotate_left
                · show Act.put _ (some 74) _ = _
                  (simp only [Act.put, List.setIfInBounds_toArray, i64_w, i32_w]; dsimp only [List.set_cons_zero, List.set_cons_succ])
                  rfl
                refine one_ (i := 13) (N := some 72) #[true, true, true, true, true, true, true, true, true, true, true, true, true, true, true, true, false, false, false, false] rfl rfl (by kernel_rfl) (by decide) (fun K hK => ?_)
                refine step_appN tyI encI_ok (by rfl) _ _ (by rfl) (Rw.nil _) (by rfl) (HSL1.out.keep ((Ext.refl [] _).alloc _) (by simp)) (by rfl) hlen1 h62 ?_
                intro a4 c4 w5 hr6 hS5 hg5
                have e5 : Ext [] (w3.drew.alloc (.cells #[.int .i64 id] 3 (0, 0))) w5 := hS5 [] (by simp [Value.ownBlock])
                have e6 : Ext [] w3 w5 := e4.trans e5 (by simp)
                have hg5' : ∀ q, (Value.slice a4 l c4).ownBlock = some q → w3.heap.size ≤ q := fun q hq => (hg5 q hq).elim (fun h => by simp [Value.ownBlock] at h) (fun h => Nat.le_trans e4.size h)
                rw [List.nil_append] at hr6
                have hs6 := (Sl.new (enc := encI .i64) w3.drew id 3).keep e5 (by simp)
                refine hK.out _ _ ⟨(KK.out _ e6).1, (KK.out _ e6).2.1, b1, b2⟩ (fun hHeld => ?_)
                clear hK K
                refine norm_ (a' := ?_) ?_ ?_
                rotate_left
                · show Act.put _ (some 72) _ = _
                  (simp only [Act.put, List.setIfInBounds_toArray, i64_w, i32_w]; dsimp only [List.set_cons_zero, List.set_cons_succ])
                  rfl
                exact norm_ (by simp only [putAll, Act.put, List.setIfInBounds_toArray, List.set_cons_zero, List.set_cons_succ]) (hCont (a4, c4, w3.heap.size) _ ⟨e6, hr6, hg5', hs6⟩)
            rintro ⟨a4, c4, Y⟩ w5 ⟨e6, hr6, hg5', hs6⟩
            have hHeld : w5.cell? ⟨b, 1, none⟩ = some (.slice (some ⟨g, 0, none⟩) n cap) ∧ w5.cell? ⟨g, i * 7 + 6, none⟩ = some (.slice s.ma l s.mc) ∧ (0 : Int) ≤ (i : Int) ∧ (i : Int) < (n : Int) := ⟨(KK.out _ e6).1, (KK.out _ e6).2.1, b1, b2⟩
            refine norm_ (a' := ?_) ?_ ?_
            rotate_left
            · simp only [putAll, Act.put, List.setIfInBounds_toArray, List.set_cons_zero, List.set_cons_succ]
              rfl
            refine one_ (i := 16) (N := some 75) #[true, true, true, true, true, true, true, true, true, true, true, true, true, true, true, true, true, false, false, false] rfl rfl (by kernel_rfl) (by decide) (fun K hK => ?_)
            refine step_appN tyI encI_ok (by rfl) _ _ (by rfl) hr6 (by rfl) hs6 (by rfl) hlen2 h63 ?_
            intro a7 c7 w7 hr7 hS7 hg7
            have e7 : Ext [] w3 w7 := fresh_app e6 hg5' hS7
            have hfz := (KK.out _ e7).2.2
            refine hK.out _ _ ⟨(KK.out _ e7).1, (KK.out _ e7).2.1, b1, b2⟩ (fun hHeld => ?_)
            clear hK K
            refine norm_ (a' := ?_) ?_ ?_
            rotate_left
            · show Act.put _ (some 75) _ = _
              (simp only [Act.put, List.setIfInBounds_toArray, i64_w, i32_w]; dsimp only [List.set_cons_zero, List.set_cons_succ])
              rfl
            refine pure_ (i := 17) (N := some 76) (v := ?_) (a' := ?_) #[true, true, true, true, true, true, true, true, true, true, true, true, true, true, true, true, true, true, false, false] rfl rfl (by kernel_rfl) (fun _ _ _ h => h) (Or.inl ⟨by rfl, ?_⟩) ?_ ?_
            rotate_left
            · intro w'
              go_simp
              with_reducible rfl
            rotate_left
            · (simp only [Act.put, List.setIfInBounds_toArray, i64_w, i32_w]; dsimp only [List.set_cons_zero, List.set_cons_succ])
              rfl
            refine pure_ (i := 18) (N := some 77) (v := ?_) (a' := ?_) #[true, true, true, true, true, true, true, true, true, true, true, true, true, true, true, true, true, true, true, false] rfl rfl (by kernel_rfl) (fun _ _ _ h => h) (Or.inl ⟨by rfl, ?_⟩) ?_ ?_
            rotate_left
            · intro w'
              go_simp
              with_reducible rfl
            rotate_left
            · (simp only [Act.put, List.setIfInBounds_toArray, i64_w, i32_w]; dsimp only [List.set_cons_zero, List.set_cons_succ])
              rfl
            refine last_ (i := 19) (N := none) #[true, true, true, true, true, true, true, true, true, true, true, true, true, true, true, true, true, true, true, true] rfl rfl (by kernel_rfl) (by decide) (fun K hK => ?_)
            refine skip_ (w1 := ?_) (by rfl) rfl ?_ ?_
            rotate_left
            · go_simp
              rfl
            refine hK.out _ _ ?_
            clear hK K
            refine done_ (by kernel_rfl) ?_
            rw [HID0.out] at hr7
            have hset := HT3.out.set_row H1.out a7 c7 (s.ids ++ [id]) (e7.mono (by simp)) (by rw [HL2.out]; exact hr7) (fun y hy => .inr ((hg7 y (by rw [HL2.out] at hy; exact hy)).elim (hg5' y) (fun h => Nat.le_trans e6.size h)))
            rw [HL2.out] at hset
            obtain ⟨hT8, hE8, hO8⟩ := hset
            have hL8 : (L.set i ⟨s.num, s.want, a7, c7, s.ids ++ [id]⟩)[i]? = some ⟨s.num, s.want, a7, c7, s.ids ++ [id]⟩ := by
              rw [List.getElem?_set, if_pos rfl, if_pos (List.getElem?_eq_some_iff.1 H1.out).1]
            generalize w7.setCell ⟨g, i * 7 + 6, none⟩ (.slice a7 (l + 1) c7) = w8 at hT8 hE8 ⊢
            have hcv8 : w8.cell? ⟨b, 1, none⟩ = some (.slice (some ⟨g, 0, none⟩) n cap) := hT8.ob.blk.cell 1
            have c08 := hT8.ob.row.cell encSh_ok.len hL8 0 (by omega)
            simp only [encSh, Nat.add_zero, List.getElem?_cons_zero] at c08
            have HT8 := Lib.hid hT8; have HE8 := Lib.hid hE8; have HO8 := Lib.hid hO8
            clear hr7 hS7 hg7 e7 hfz hT8 hE8 hO8 hL8 hr6 hs6 e6 hg5'
            go_wp2_with fail
            refine bodyPost_ret (v := .tuple #[.int .i64 s.num, .bool false, .int .i64 0]) (by simp [results, Try.results43, go_sem]) rfl ?_
            have hSS : ∀ y, y ∈ (b :: [g]) ++ mOwn L → y ∈ S := fun y hy => by rw [HS.out]; exact hy
            rw [HJ.out]
            refine ⟨rfl, _, ⟨_, _, HT8.out, rfl, by rw [absH_set]; rfl⟩, (X3.out.mono (by simp)).trans HE8.out (fun y hy => .inl (hSS y hy)), ?_⟩
            intro y hy
            rcases List.mem_append.1 hy with hy | hy
            · exact .inl (hSS y (List.mem_append_left _ hy))
            · exact (HO8.out y hy).imp (fun h => hSS y (List.mem_append_right _ h)) (fun h => Nat.le_trans X3.out.size h)
        · have d4 : decide (i < n) = false := decide_eq_false hi
          have hf : (absH L).findIdx? (wantIsA ⟨xo, xu, xc, xm, xn⟩) = none := by
            rw [List.findIdx?_eq_none_iff]
            intro y hy
            obtain ⟨z, hz, rfl⟩ := List.mem_map.1 hy
            obtain ⟨j, hj⟩ := List.mem_iff_getElem?.1 hz
            exact hall.out j z (by have := (List.getElem?_eq_some_iff.1 hj).1; have := HN.out; omega) hj
          have hj := HJG.out
          rw [hf] at hj
          have HJ := Lib.hid hj
          have hBr := HBX.out.keep her (by simp)
          have x3 := X1.out.trans her (by simp)
          have hc1 : wr.cell? ⟨b, 0, none⟩ = some (.int .i64 last) := hTr.ob.blk.cell 0
          have hf1 := hTr.ob.blk.free 0
          have hbX : b ≠ X := HXLT.out b (by simp)
          obtain ⟨hT4, e4⟩ := hTr.bump (last + 1)
          have hB4 := hBr.keep e4 (by simp; exact fun e => hbX e.symm)
          have x4 : Ext (b :: (Value.slice va n cap).ownBlock.toList) w (wr.setCell ⟨b, 0, none⟩ (.int .i64 (last + 1))) := (x3.mono (by simp)).trans e4 (by simp)
          have hw64 : wrap64 (last + 1) = last + 1 := by unfold wrap64; omega
          have HT4 := Lib.hid hT4; have HB4 := Lib.hid hB4; have X4 := Lib.hid x4
          clear hf hj HJG hall hBr x3 hT4 hB4 x4 e4 hTr HT1 HBX X1 her
          go_wp2_with fail
          have hT := HT4.out; have hBq := HB4.out; have hE := X4.out
          generalize wr.setCell ⟨b, 0, none⟩ (.int .i64 (last + 1)) = wq at hT hBq hE ⊢
          clear HT4 HB4 X4 hc1 hf1 hw64 hcv
          have hcv : wq.drew.cell? ⟨b, 1, none⟩ = some (.slice va n cap) := hT.ob.blk.cell 1
          have hc0 : wq.drew.cell? ⟨b, 0, none⟩ = some (.int .i64 (last + 1)) := hT.ob.blk.cell 0
          have k0 : wq.drew.cell? ⟨X, 0, none⟩ = some (.string xo) := hBq.cell 0
          have k1 : wq.drew.cell? ⟨X, 1, none⟩ = some (.string xu) := hBq.cell 1
          have k2 : wq.drew.cell? ⟨X, 2, none⟩ = some (.bool xc) := hBq.cell 2
          have k3 : wq.drew.cell? ⟨X, 3, none⟩ = some (.string xm) := hBq.cell 3
          have k4 : wq.drew.cell? ⟨X, 4, none⟩ = some (.string xn) := hBq.cell 4
          have kk : ∀ W, Ext (Value.slice va n cap).ownBlock.toList wq W → W.cell? ⟨b, 1, none⟩ = some (.slice va n cap) ∧ W.frozen? ⟨b, 1, none⟩ = false ∧ W.cell? ⟨X, 0, none⟩ = some (.string xo) ∧ W.cell? ⟨X, 1, none⟩ = some (.string xu) ∧ W.cell? ⟨X, 2, none⟩ = some (.bool xc) ∧ W.cell? ⟨X, 3, none⟩ = some (.string xm) ∧ W.cell? ⟨X, 4, none⟩ = some (.string xn) ∧ W.cell? ⟨b, 0, none⟩ = some (.int .i64 (last + 1)) := fun W hW => by
            have hb9 := hT.ob.blk.keep hW (by intro hm; exact hT.ob.ne (by simpa using hm))
            have hx9 := hBq.keep hW (fun hm => HXLT.out X (List.mem_append_left _ (List.mem_cons_of_mem _ hm)) rfl)
            exact ⟨hb9.cell 1, hb9.free 1, hx9.cell 0, hx9.cell 1, hx9.cell 2, hx9.cell 3, hx9.cell 4, hb9.cell 0⟩
          obtain ⟨nw, hnw⟩ : ∃ nw : Sh, nw = ⟨last + 1, ⟨xo, xu, xc, xm, xn⟩, some ⟨wq.heap.size, 0, none⟩, 1, [id]⟩ := ⟨_, rfl⟩
          have eA : Ext [] wq (wq.drew.alloc (.cells #[.int .i64 id] 3 (0, 0))) := ((Ext.refl _ _).drew).alloc _
          have eB : Ext [] wq ((wq.drew.alloc (.cells #[.int .i64 id] 3 (0, 0))).alloc (.cells (encSh nw).toArray 114 (0, 0))) := eA.alloc _
          have hrw := (hT.ob.row).keep eB (by simp)
          have hsl := Sl.new (enc := encSh) (wq.drew.alloc (.cells #[.int .i64 id] 3 (0, 0))) nw 114
          have hsz : (wq.drew.alloc (.cells #[.int .i64 id] 3 (0, 0))).heap.size = wq.heap.size + 1 := by rw [World.size_alloc]; rfl
          rw [hsz] at hsl
          have hri := (RI.new1 wq.drew id).alloc (.cells (encSh nw).toArray 114 (0, 0))
          have h63 : n + 1 ≤ 1000000 := by omega
          have hlen : LenIs L [nw] (n + 1) := by unfold LenIs; rw [← HN.out]; rfl
          have hgeq := hE.size
          have hownlt : ∀ y, (Value.slice va n cap).ownBlock = some y → y < wq.heap.size := fun y hy => hT.ob.row.lt y hy
          have HKK := Lib.hid kk; have HRW := Lib.hid hrw; have HSL := Lib.hid hsl; have HT9 := Lib.hid hT; have HE9 := Lib.hid hE; have HRI := Lib.hid hri; have HNW := Lib.hid hnw; have EA := Lib.hid eA; have EB := Lib.hid eB
          have HOWL := Lib.hid hownlt
          have hencnw : encSh nw = [.int .i64 (last + 1), .string xo, .string xu, .bool xc, .string xm, .string xn, .slice (some ⟨wq.heap.size, 0, none⟩) 1 1] := by rw [hnw]; rfl
          rw [hencnw] at HRW HSL EB HRI
          have hltb := hT.ob.blk.lt
          have hltX := hBq.lt
          clear kk hrw hsl hT hE hBq hri hnw eA eB hsz hownlt hencnw
          go_wp2_with fail
          refine start_ (n := 18) (S := fun w' => w'.cell? ⟨b, 1, none⟩ = some (.slice va n cap) ∧ w'.cell? ⟨X, 0, none⟩ = some (.string xo) ∧ w'.cell? ⟨X, 1, none⟩ = some (.string xu) ∧ w'.cell? ⟨X, 2, none⟩ = some (.bool xc) ∧ w'.cell? ⟨X, 3, none⟩ = some (.string xm) ∧ w'.cell? ⟨X, 4, none⟩ = some (.string xn) ∧ w'.cell? ⟨b, 0, none⟩ = some (.int .i64 (last + 1))) (ds := [17]) #[false, false, false, false, false, false, false, false, false, false, false, false, false, false, false, false, false, false] (by kernel_rfl) rfl rfl ⟨hcv, k0, k1, k2, k3, k4, hc0⟩ (fun hHeld => ?_)
          refine pure_ (i := 0) (N := some 93) (v := ?_) (a' := ?_) #[true, false, false, false, false, false, false, false, false, false, false, false, false, false, false, false, false, false] rfl rfl (by kernel_rfl) (fun _ _ _ h => h) (Or.inl ⟨by rfl, ?_⟩) ?_ ?_
          rotate_left
          · intro w'
            go_simp
            with_reducible rfl
          rotate_left
          · (simp only [Act.put, List.setIfInBounds_toArray, i64_w, i32_w]; dsimp only [List.set_cons_zero, List.set_cons_succ])
            rfl
          refine pure_ (i := 1) (N := some 94) (v := ?_) (a' := ?_) #[true, true, false, false, false, false, false, false, false, false, false, false, false, false, false, false, false, false] rfl rfl (by kernel_rfl) (fun _ _ _ h => h) (Or.inl ⟨by rfl, ?_⟩) ?_ ?_
          rotate_left
          · intro w'
            go_simp
            with_reducible rfl
          rotate_left
          · (simp only [Act.put, List.setIfInBounds_toArray, i64_w, i32_w]; dsimp only [List.set_cons_zero, List.set_cons_succ])
            rfl
          refine pure_ (i := 2) (N := some 95) (v := ?_) (a' := ?_) #[true, true, true, false, false, false, false, false, false, false, false, false, false, false, false, false, false, false] rfl rfl (by kernel_rfl) (fun _ _ _ h => h) (Or.inl ⟨by rfl, ?_⟩) ?_ ?_
          rotate_left
          · intro w'
            go_simp
            with_reducible rfl
          rotate_left
          · (simp only [Act.put, List.setIfInBounds_toArray, i64_w, i32_w]; dsimp only [List.set_cons_zero, List.set_cons_succ])
            rfl
          refine pure_ (i := 3) (N := some 96) (v := ?_) (a' := ?_) #[true, true, true, true, false, false, false, false, false, false, false, false, false, false, false, false, false, false] rfl rfl (by kernel_rfl) (fun _ _ _ h => h) (Or.inl ⟨by rfl, ?_⟩) ?_ ?_
          rotate_left
          · intro w'
            go_simp
            with_reducible rfl
          rotate_left
          · (simp only [Act.put, List.setIfInBounds_toArray, i64_w, i32_w]; dsimp only [List.set_cons_zero, List.set_cons_succ])
            rfl
          refine pure_ (i := 5) (N := some 98) (v := ?_) (a' := ?_) #[true, true, true, true, false, true, false, false, false, false, false, false, false, false, false, false, false, false] rfl rfl (by kernel_rfl) (fun _ _ _ h => h) (Or.inl ⟨by rfl, ?_⟩) ?_ ?_
          rotate_left
          · intro w'
            go_simp
            with_reducible rfl
          rotate_left
          · (simp only [Act.put, List.setIfInBounds_toArray, i64_w, i32_w]; dsimp only [List.set_cons_zero, List.set_cons_succ])
            rfl
          refine pure_ (i := 6) (N := some 99) (v := ?_) (a' := ?_) #[true, true, true, true, false, true, true, false, false, false, false, false, false, false, false, false, false, false] rfl rfl (by kernel_rfl) (fun _ _ _ h => h) (Or.inl ⟨by rfl, ?_⟩) ?_ ?_
          rotate_left
          · intro w'
            go_simp
            with_reducible rfl
          rotate_left
          · (simp only [Act.put, List.setIfInBounds_toArray, i64_w, i32_w]; dsimp only [List.set_cons_zero, List.set_cons_succ])
            rfl
          refine pure_ (i := 7) (N := some 100) (v := ?_) (a' := ?_) #[true, true, true, true, false, true, true, true, false, false, false, false, false, false, false, false, false, false] rfl rfl (by kernel_rfl) (fun _ _ _ h => h) (Or.inl ⟨by rfl, ?_⟩) ?_ ?_
          rotate_left
          · intro w'
            go_simp
            with_reducible rfl
          rotate_left
          · (simp only [Act.put, List.setIfInBounds_toArray, i64_w, i32_w]; dsimp only [List.set_cons_zero, List.set_cons_succ])
            rfl
          refine pure_ (i := 10) (N := some 103) (v := ?_) (a' := ?_) #[true, true, true, true, false, true, true, true, false, false, true, false, false, false, false, false, false, false] rfl rfl (by kernel_rfl) (fun _ _ _ h => h) (Or.inl ⟨by rfl, ?_⟩) ?_ ?_
          rotate_left
          · intro w'
            go_simp
            with_reducible rfl
          rotate_left
          · (simp only [Act.put, List.setIfInBounds_toArray, i64_w, i32_w]; dsimp only [List.set_cons_zero, List.set_cons_succ])
            rfl
          refine take_ (i := 4) (N := some 97) (v := ?_) (a' := ?_) #[true, true, true, true, true, true, true, true, false, false, true, false, false, false, false, false, false, false] rfl rfl (by kernel_rfl) (fun _ _ _ h => h) (Or.inl ⟨by rfl, ?_⟩) hHeld ?_ ?_
          rotate_left
          · rintro w' ⟨s0, s1, s2, s3, s4, s5, s6⟩
            go_simp
            with_reducible rfl
          rotate_left
          · (simp only [Act.put, List.setIfInBounds_toArray, i64_w, i32_w]; dsimp only [List.set_cons_zero, List.set_cons_succ])
            rfl
          refine take_ (i := 8) (N := some 101) (v := ?_) (a' := ?_) #[true, true, true, true, true, true, true, true, true, false, true, false, false, false, false, false, false, false] rfl rfl (by kernel_rfl) (fun _ _ _ h => h) (Or.inl ⟨by rfl, ?_⟩) hHeld ?_ ?_
          rotate_left
          · rintro w' ⟨s0, s1, s2, s3, s4, s5, s6⟩
            go_simp
            with_reducible rfl
          rotate_left
          · (simp only [Act.put, List.setIfInBounds_toArray, i64_w, i32_w]; dsimp only [List.set_cons_zero, List.set_cons_succ])
            rfl
          refine take_ (i := 9) (N := some 102) (v := ?_) (a' := ?_) #[true, true, true, true, true, true, true, true, true, true, true, false, false, false, false, false, false, false] rfl rfl (by kernel_rfl) (fun _ _ _ h => h) (Or.inl ⟨by rfl, ?_⟩) hHeld ?_ ?_
          rotate_left
          · rintro w' ⟨s0, s1, s2, s3, s4, s5, s6⟩
            go_simp
            with_reducible rfl
          rotate_left
          · (simp only [Act.put, List.setIfInBounds_toArray, i64_w, i32_w]; dsimp only [List.set_cons_zero, List.set_cons_succ])
            rfl
          refine one_ (i := 11) (N := some 104) #[true, true, true, true, true, true, true, true, true, true, true, true, false, false, false, false, false, false] rfl rfl (by kernel_rfl) (by decide) (fun K hK => ?_)
          refine value_ (w1 := ?_) (v := ?_) (by rfl) rfl ?_ ?_
          rotate_left 2
          · go_simp
            constructor
            · rfl
            · rfl
          refine hK.out _ _ ⟨(HKK.out _ (EA.out.mono (by simp))).1, (HKK.out _ (EA.out.mono (by simp))).2.2.1, (HKK.out _ (EA.out.mono (by simp))).2.2.2.1, (HKK.out _ (EA.out.mono (by simp))).2.2.2.2.1, (HKK.out _ (EA.out.mono (by simp))).2.2.2.2.2.1, (HKK.out _ (EA.out.mono (by simp))).2.2.2.2.2.2.1, (HKK.out _ (EA.out.mono (by simp))).2.2.2.2.2.2.2⟩ (fun hHeld => ?_)
          clear hK K
          refine norm_ (a' := ?_) ?_ ?_
          rotate_left
          · show Act.put _ (some 104) _ = _
            (simp only [Act.put, List.setIfInBounds_toArray, i64_w, i32_w]; dsimp only [List.set_cons_zero, List.set_cons_succ])
            rfl
          refine pure_ (i := 12) (N := some 105) (v := ?_) (a' := ?_) #[true, true, true, true, true, true, true, true, true, true, true, true, true, false, false, false, false, false] rfl rfl (by kernel_rfl) (fun _ _ _ h => h) (Or.inl ⟨by rfl, ?_⟩) ?_ ?_
          rotate_left
          · intro w'
            go_simp
            with_reducible rfl
          rotate_left
          · (simp only [Act.put, List.setIfInBounds_toArray, i64_w, i32_w]; dsimp only [List.set_cons_zero, List.set_cons_succ])
            rfl
          refine one_ (i := 13) (N := some 106) #[true, true, true, true, true, true, true, true, true, true, true, true, true, true, false, false, false, false] rfl rfl (by kernel_rfl) (by decide) (fun K hK => ?_)
          refine value_ (w1 := ?_) (v := ?_) (by rfl) rfl ?_ ?_
          rotate_left 2
          · go_simp
            constructor
            · rfl
            · rfl
          refine hK.out _ _ ⟨(HKK.out _ (EB.out.mono (by simp))).1, (HKK.out _ (EB.out.mono (by simp))).2.2.1, (HKK.out _ (EB.out.mono (by simp))).2.2.2.1, (HKK.out _ (EB.out.mono (by simp))).2.2.2.2.1, (HKK.out _ (EB.out.mono (by simp))).2.2.2.2.2.1, (HKK.out _ (EB.out.mono (by simp))).2.2.2.2.2.2.1, (HKK.out _ (EB.out.mono (by simp))).2.2.2.2.2.2.2⟩ (fun hHeld => ?_)
          clear hK K
          refine norm_ (a' := ?_) ?_ ?_
          rotate_left
          · show Act.put _ (some 106) _ = _
            (simp only [Act.put, List.setIfInBounds_toArray, i64_w, i32_w]; dsimp only [List.set_cons_zero, List.set_cons_succ])
            rfl
          refine one_ (i := 14) (N := some 107) #[true, true, true, true, true, true, true, true, true, true, true, true, true, true, true, false, false, false] rfl rfl (by kernel_rfl) (by decide) (fun K hK => ?_)
          refine step_appN tyRp encSh_ok (by rfl) _ _ (by rfl) HRW.out (by rfl) HSL.out (by rfl) hlen h63 ?_
          intro a4 c4 w7 hr7 hS7 hg7
          have e7 : Ext (Value.slice va n cap).ownBlock.toList wq w7 := (EB.out.mono (by simp)).trans (hS7 (Value.slice va n cap).ownBlock.toList (by simp +contextual)) (fun y hy => .inl hy)
          have hfz := (HKK.out _ e7).2.1
          refine hK.out _ _ ⟨(HKK.out _ e7).1, (HKK.out _ e7).2.2.1, (HKK.out _ e7).2.2.2.1, (HKK.out _ e7).2.2.2.2.1, (HKK.out _ e7).2.2.2.2.2.1, (HKK.out _ e7).2.2.2.2.2.2.1, (HKK.out _ e7).2.2.2.2.2.2.2⟩ (fun hHeld => ?_)
          clear hK K
          refine norm_ (a' := ?_) ?_ ?_
          rotate_left
          · show Act.put _ (some 107) _ = _
            (simp only [Act.put, List.setIfInBounds_toArray, i64_w, i32_w]; dsimp only [List.set_cons_zero, List.set_cons_succ])
            rfl
          refine pure_ (i := 15) (N := some 108) (v := ?_) (a' := ?_) #[true, true, true, true, true, true, true, true, true, true, true, true, true, true, true, true, false, false] rfl rfl (by kernel_rfl) (fun _ _ _ h => h) (Or.inl ⟨by rfl, ?_⟩) ?_ ?_
          rotate_left
          · intro w'
            go_simp
            with_reducible rfl
          rotate_left
          · (simp only [Act.put, List.setIfInBounds_toArray, i64_w, i32_w]; dsimp only [List.set_cons_zero, List.set_cons_succ])
            rfl
          refine pure_ (i := 16) (N := some 109) (v := ?_) (a' := ?_) #[true, true, true, true, true, true, true, true, true, true, true, true, true, true, true, true, true, false] rfl rfl (by kernel_rfl) (fun _ _ _ h => h) (Or.inl ⟨by rfl, ?_⟩) ?_ ?_
          rotate_left
          · intro w'
            go_simp
            with_reducible rfl
          rotate_left
          · (simp only [Act.put, List.setIfInBounds_toArray, i64_w, i32_w]; dsimp only [List.set_cons_zero, List.set_cons_succ])
            rfl
          refine last_ (i := 17) (N := none) #[true, true, true, true, true, true, true, true, true, true, true, true, true, true, true, true, true, true] rfl rfl (by kernel_rfl) (by decide) (fun K hK => ?_)
          refine skip_ (w1 := ?_) (by rfl) rfl ?_ ?_
          rotate_left
          · go_simp
            rfl
          refine hK.out _ _ ?_
          clear hK K
          refine done_ (by kernel_rfl) ?_
          have hszB := EB.out.size
          have hfin := HT9.out.ob.appended EB.out hr7 hS7 (fun y hy => (hg7 y hy).imp_right (fun h => Nat.le_trans hszB h)) 1 (by simp)
          have hri7 := HRI.out.keep (hS7 (Value.slice va n cap).ownBlock.toList (by simp +contextual)) (fun y hy hm => by
            have h8 : wq.heap.size = y := by simpa [Value.ownBlock] using hy
            have h9 := HOWL.out y (by simpa using hm)
            omega)
          have hcz : (w7.setCell ⟨b, 1, none⟩ (.slice a4 (n + 1) c4)).cell? ⟨b, 0, none⟩ = some (.int .i64 (last + 1)) := hfin.1.blk.cell 0
          have HF := Lib.hid hfin; have HRI7 := Lib.hid hri7
          clear hr7 hS7 hg7 e7 hfz hfin hri7 hcv hc0
          go_wp2_with fail
          refine bodyPost_ret (v := .tuple #[.int .i64 (last + 1), .bool true, .int .i64 0]) (by simp [results, Try.results43, go_sem]) rfl ?_
          rw [HJ.out]
          have hnwrow : nw.row = .slice (some ⟨wq.heap.size, 0, none⟩) 1 1 := by rw [HNW.out]; rfl
          have hmo : mOwn (L ++ [nw]) = mOwn L ++ [wq.heap.size] := by rw [mOwn_append, mOwn_cons, hnwrow]; rfl
          have hTlt := HT9.out.lt
          refine ⟨rfl, (b :: (Value.slice a4 (n + 1) c4).ownBlock.toList) ++ mOwn (L ++ [nw]), ⟨_, L ++ [nw], ⟨HF.out.1, ?_, ?_⟩, rfl, ?_⟩, HE9.out.trans HF.out.2.1 (fun y hy => .inl hy) |>.mono (fun y hy => .inl (by rw [HS.out]; exact List.mem_append_left _ hy)), ?_⟩
          · intro t ht
            rcases List.mem_append.1 ht with ht | ht
            · exact (HT9.out.inn t ht).keep HF.out.2.1 (fun y hy hm => HT9.out.apart y (mem_mOwn ht hy) hm)
            · have : t = nw := by simpa using ht
              subst this
              rw [hnwrow]
              have hids : t.ids = [id] := by rw [HNW.out]
              rw [hids]
              refine HRI7.out.keep ((Ext.refl [b] _).setCell (Or.inl (by simp)) _) (fun y hy hm => ?_)
              have h8 : wq.heap.size = y := by simpa [Value.ownBlock] using hy
              simp at hm
              omega
          · rw [hmo, List.nodup_append]
            refine ⟨HT9.out.dis, by simp, fun y hy z hz e => ?_⟩
            simp at hz
            have := hTlt y (List.mem_append_right _ hy)
            omega
          · unfold absH
            rw [List.map_append, List.map_singleton]
            rw [show nw.abs = (⟨last + 1, ⟨xo, xu, xc, xm, xn⟩, [id]⟩ : Sk) by rw [HNW.out]; rfl]
          · intro y hy
            rw [hmo] at hy
            rcases List.mem_append.1 hy with hy | hy
            · rcases HF.out.2.2 y hy with h8 | h8
              · exact .inl (by rw [HS.out]; exact List.mem_append_left _ h8)
              · exact .inr (by omega)
            · rcases List.mem_append.1 hy with hy | hy
              · exact .inl (by rw [HS.out]; exact List.mem_append_right _ hy)
              · simp at hy
                exact .inr (by omega)
end Go.Proofs.Ytkbjpackijdnkaa
