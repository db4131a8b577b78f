/- SignalAborts: its walk. -/
import Derived.Test.YtmmhpjodnceipaaSgLaws
import Derived.Test.YtmmhpjodnceipaaSgGrown
import Derived.Test.YtmmhpjodnceipaaLow
import Derived.Deep.DeepCutAuto
namespace Go.Proofs.Ytmmhpjodnceipaa
open Go.RowKit Go.Proofs.YtmmhpjodnceipaaW.PrintLast
set_option linter.unusedVariables false
set_option linter.unusedSimpArgs false

theorem abRS_off {M : List Sm} {q : Nat} {s : Sm} {r : List Int} (h : M[q]? = some s) (ho : s.off = true) : abRS M (((q : Int) + 1) :: r) = abRS M r := by
  rw [abRS, show ((q : Int) + 1 - 1).toNat = q by omega, h]; simp [ho]
theorem abRS_on {M : List Sm} {q : Nat} {s : Sm} {r : List Int} (h : M[q]? = some s) (ho : s.off = false) :
    abRS M (((q : Int) + 1) :: r) = ((abRS (M.set q ⟨s.up, true⟩) r).1, ((q : Int) + 1) :: (abRS (M.set q ⟨s.up, true⟩) r).2) := by
  rw [abRS, show ((q : Int) + 1 - 1).toNat = q by omega, h]; simp [ho]
theorem offS_at {M : List Sm} {q : Nat} {s : Sm} (h : M[q]? = some s) : offS M ((q : Int) + 1) = s.off := by
  unfold offS
  rw [isS_succ (List.getElem?_eq_some_iff.1 h).1, show ((q : Int) + 1 - 1).toNat = q by omega, h]; simp
theorem offS_zero (M : List Sm) : offS M 0 = false := by unfold offS isS; simp
theorem offS_none {M : List Sm} (h : ∀ s ∈ M, s.off = false) (z : Int) : offS M z = false := by
  unfold offS
  cases hq : M[(z - 1).toNat]? with
  | none => simp
  | some s => simp [h s (List.mem_of_getElem? hq)]
theorem offS_set {M : List Sm} {q : Nat} {s : Sm} (h : M[q]? = some s) (z : Nat) (hz : z < M.length + 1) : offS (M.set q ⟨s.up, true⟩) (z : Int) = if z = q + 1 then true else offS M (z : Int) := by
  cases z with
  | zero => rw [if_neg (by omega)]; simp only [Int.ofNat_zero]; exact (offS_zero _).trans (offS_zero _).symm
  | succ z =>
    have hq := (List.getElem?_eq_some_iff.1 h).1
    obtain ⟨t, ht⟩ : ∃ t, M[z]? = some t := ⟨_, List.getElem?_eq_getElem (by omega)⟩
    push_cast
    by_cases hk : z = q
    · subst hk
      rw [if_pos rfl, offS_at (s := ⟨s.up, true⟩) (by rw [List.getElem?_set]; simp [hq])]
    · rw [if_neg (by omega), offS_at ht, offS_at (s := t) (by rw [List.getElem?_set, if_neg (Ne.symm hk)]; exact ht)]

set_option maxHeartbeats 6400000 in
set_option maxRecDepth 100000 in
theorem signalAborts_walk (w : World) (a : Option Addr) (n c : Nat) (xs : List Int) (hs : Slc (encI .u64) 1 w a n xs) (_hg : ∀ z ∈ xs, (Lit.int .u64 z).wf = true) (aa : Option Addr) (al ac : Nat) (ys : List Int) (hys : Slc (encI .i64) 1 w aa al ys) (_hg2 : ∀ z ∈ ys, (Lit.int .i64 z).wf = true) :
    Calls Try.prog 7 #[.slice a n c, .slice aa al ac] w fun e w' => e = .returned (.bool true) ∧ Ext [] w w' := by
  clear _hg _hg2
  have hgr := grown_any w a n c xs hs
  unfold GrownP at hgr
  have HYS := Lib.hid hys
  clear hs hys
  go_enter Try.func7, Try.ntmps7
  go_wp2_with fail
  refine hgr.mono ?_
  rintro e w1 ⟨b, S, M, rfl, h1, hin, hl60, hof, o1⟩
  clear hgr
  have hlen := fun W (hW : SO W b S M) => so_len b S M W hW
  obtain ⟨m, hm⟩ : ∃ m, m = M.length := ⟨_, rfl⟩
  rw [← hm] at hlen hl60
  have HLEN := Lib.hid hlen
  by_cases hm0 : m = 0
  · have d0 : ((m : Int) == 0) = true := by rw [hm0]; rfl
    have H1 := Lib.hid h1; have O1 := Lib.hid o1
    clear hin h1 o1 hm hlen hm0 hof
    go_wp2_with fail
    refine (HLEN.out w1 H1.out).mono ?_
    rintro e w2 ⟨rfl, rfl⟩
    go_wp2_with fail
    refine (awakeS_any _).mono ?_
    rintro e w2 ⟨rfl, e2⟩
    go_wp2_with fail
    go_ret
    exact ⟨rfl, O1.out.ext.trans e2 (by simp)⟩
  have d0 : ((m : Int) == 0) = false := by rw [beq_eq_false_iff_ne]; omega
  by_cases hal : 30 < al
  · have dal : decide (30 < (al : Int)) = true := decide_eq_true (by omega)
    have H1 := Lib.hid h1; have O1 := Lib.hid o1
    clear hin h1 o1 hm hlen hm0 hof hal
    go_wp2_with fail
    refine (HLEN.out w1 H1.out).mono ?_
    rintro e w2 ⟨rfl, rfl⟩
    go_wp2_with fail
    refine (awakeS_any _).mono ?_
    rintro e w2 ⟨rfl, e2⟩
    go_wp2_with fail
    go_ret
    exact ⟨rfl, O1.out.ext.trans e2 (by simp)⟩
  have dal : decide (30 < (al : Int)) = false := decide_eq_false (by omega)
  have hal' : al ≤ 30 := by omega
  have H1 := Lib.hid h1; have O1 := Lib.hid o1; have HM := Lib.hid hm; have HIN := Lib.hid hin; have HOF := Lib.hid hof
  have hm1 : 1 ≤ m := by omega
  clear hin h1 o1 hm hlen hm0 hal hof
  go_wp2_with fail
  refine (HLEN.out w1 H1.out).mono ?_
  rintro e w2 ⟨rfl, rfl⟩
  go_wp2_with fail
  refine (HLEN.out w1 H1.out).mono ?_
  rintro e w2 ⟨rfl, rfl⟩
  have hn1 : m + 1 ≤ 1000000 := by omega
  clear HLEN
  go_wp2_with (at_make; refine wpList_mkB _ rfl _ _ 39 rfl Try.t4 (by kernel_rfl) (by kernel_rfl) (by rfl) (by rfl) (by rfl) .i64 .i64 ((m : Int) + 1) (m + 1) (by rfl) (by rfl) (by rfl) hn1 ?_)
  intro w3 hr3 e3
  obtain ⟨B, hB⟩ : ∃ B, B = w1.heap.size := ⟨_, rfl⟩
  rw [← hB] at hr3 ⊢
  rw [mkB_none m (offS M) (fun z _ => offS_none HOF.out _)] at hr3
  have hSB : ∀ x ∈ S, x ≠ B := fun x hx => by have h8 := H1.out.lt x hx; omega
  have hwB : w.heap.size ≤ B := by have h8 := O1.out.ext.size; omega
  have o3 := O1.out.quiet e3
  have h3 := H1.out.keep0 e3
  have HSB := Lib.hid hSB; have HO3 := Lib.hid o3
  clear O1 H1 hSB o3 hB e3
  go_wp2_with fail
  go_loopw [8] (fun iv wr => ∃ (j : Nat) (L : List Sm), j ≤ al ∧ iv = .int .i64 j ∧ SO wr b S L ∧ RB wr (.slice (some ⟨B, 0, none⟩) (m + 1) (m + 1)) (mkB m (offS L)) ∧ Ext (B :: S) w3 wr ∧ Hid (UpIn L) ∧ Hid (m = L.length)) (fun iv _ => al - (intOf iv).toNat)
  case atStart => exact ⟨0, M, Nat.zero_le _, rfl, h3, hr3, Ext.refl _ _, HIN.out, HM.out⟩
  case round =>
    obtain ⟨j, L, hja, rfl, hw, hRB, hex, hin, hml⟩ := hrel
    clear h3 hr3 HIN HM HOF
    have hexw : Ext [] w wr := HO3.out.ext.fresh hex (fun x hx => by
      rcases List.mem_cons.1 hx with rfl | hx
      · exact hwB
      · exact HO3.out.ge x hx)
    by_cases hj : j < al
    · have d1 : decide (j < al) = true := decide_eq_true hj
      obtain ⟨x, hx⟩ : ∃ x, ys[j]? = some x := ⟨_, List.getElem?_eq_getElem (by rw [HYS.out.1]; exact hj)⟩
      have hxa : ∃ ab ao, aa = some ⟨ab, ao, none⟩ ∧ ab < w.heap.size ∧ w.cell? ⟨ab, ao + j, none⟩ = some (.int .i64 x) := by
        obtain ⟨ab, ao, h1, h2, h3⟩ := HYS.out.2 (by omega)
        have := h3 j x hx 0 _ rfl
        rw [Nat.mul_one, Nat.add_zero] at this
        exact ⟨ab, ao, h1, h2, this⟩
      obtain ⟨ab, ao, rfl, hab, hx0⟩ := hxa
      have hx1 := (hexw.cell (p := ⟨ab, ao + j, none⟩) hab (by simp)).trans hx0
      have b1 : (0 : Int) ≤ (j : Int) := by omega
      have b2 : (j : Int) < (al : Int) := by omega
      have hlb := lowI_bd x m (by omega)
      have hLow := low_any x m (by omega) (by omega)
      obtain ⟨i, hi⟩ : ∃ i : Nat, lowI x m = (i : Int) := ⟨(lowI x m).toNat, by omega⟩
      rw [hi] at hlb hLow
      have him : i < L.length := by rw [← hml.out]; omega
      have him' : i < m := by omega
      have hund := so_under b S L ((i : Int) + 1) (by rw [← hml.out]; omega) hin.out.ok wr hw
      have hurg := fun z (hz : z ∈ undS L ((i : Int) + 1)) => undS_range him hz
      have hull := undS_len L ((i : Int) + 1)
      have hab2 := fun W (hW : SO W b S L) => so_abort b S L ((i : Int) + 1) (by rw [← hml.out]; omega) hin.out.ok W hW
      have hal2 := abS_len L ((i : Int) + 1)
      have hai := hin.out.ab ((i : Int) + 1)
      obtain ⟨s, hs⟩ : ∃ s, L[i]? = some s := ⟨_, List.getElem?_eq_getElem him⟩
      have hoff := offS_at hs
      have hisS := isS_succ him
      have hmi := hRB.cell encB_ok.len (i := i + 1) (mkB_at (by omega)) 0 (by omega)
      rw [Nat.mul_one, Nat.add_zero] at hmi
      push_cast at hmi
      simp only [encB, List.getElem?_cons_zero] at hmi
      have c1 : (0 : Int) ≤ (i : Int) + 1 := by omega
      have c2 : (i : Int) + 1 < (m : Int) + 1 := by omega
      unfold AbP at hab2
      rw [← hml.out] at hull hal2 hurg
      cases ho : s.off with
      | true =>
        rw [ho] at hoff
        have hA : abS L ((i : Int) + 1) = (13, [], L) := by unfold abS; rw [if_neg (by rw [hisS]; decide), if_pos hoff]
        rw [hA] at hab2
        rw [hoff] at hmi
        have HLOW := Lib.hid hLow; have HUND := Lib.hid hund; have HAB := Lib.hid hab2; have HRB := Lib.hid hRB; have HW := Lib.hid hw; have HEX := Lib.hid hex; have HOFF := Lib.hid hoff
        clear hLow hund hurg hull hab2 hal2 hai hs hoff hisS hx hx0 hlb hi him hA ho hRB hw hex hmi
        go_wp2_with fail
        refine (HLOW.out wr).mono ?_
        rintro e w4 ⟨rfl, rfl⟩
        go_wp2_with fail
        rw [show (1 : Int) + i = (i : Int) + 1 by omega]
        refine HUND.out.mono ?_
        rintro e w4 ⟨ua, uc, rfl, hur, e4, huf⟩
        clear hur huf hx1
        go_wp2_with fail
        refine (HAB.out w4 (HW.out.keep0 e4)).mono ?_
        rintro e w5 ⟨ta, tc, rfl, htr, htf, h5, e5⟩
        have hm5 : w5.cell? ⟨B, i + 1, none⟩ = some (.bool true) := by
          have h8 := (HRB.out.keep e4 (by simp)).keep e5 (fun x hx hm => by
            have h9 : B = x := by simpa [Value.ownBlock] using hx
            exact HSB.out x hm h9.symm)
          have h9 := h8.cell encB_ok.len (i := i + 1) (mkB_at (by omega)) 0 (by omega)
          rw [Nat.mul_one, Nat.add_zero] at h9
          push_cast at h9
          rw [HOFF.out] at h9
          simpa only [encB, List.getElem?_cons_zero] using h9
        have hr5 := (HRB.out.keep e4 (by simp)).keep e5 (fun x hx hm => by
            have h9 : B = x := by simpa [Value.ownBlock] using hx
            exact HSB.out x hm h9.symm)
        have hx5 : Ext (B :: S) w3 w5 := (HEX.out.trans e4 (by simp)).trans e5 (fun x hx => .inl (List.mem_cons_of_mem _ hx))
        have HR5 := Lib.hid hr5; have H5 := Lib.hid h5; have HX5 := Lib.hid hx5
        clear htr htf h5 hr5 hx5 e4 e5
        go_wp2_with fail
        exact ⟨⟨j + 1, L, by omega, by go_num, H5.out, HR5.out, HX5.out, hin, hml⟩, by simp [intOf]; omega⟩
      | false =>
        rw [ho] at hoff
        have hA : abS L ((i : Int) + 1) = (0, (abRS L (undS L ((i : Int) + 1))).2, (abRS L (undS L ((i : Int) + 1))).1) := by unfold abS; rw [if_neg (by rw [hisS]; decide), if_neg (by rw [hoff]; decide)]
        rw [hA] at hab2 hal2 hai
        rw [hoff] at hmi
        obtain ⟨U, hU⟩ : ∃ U, U = undS L ((i : Int) + 1) := ⟨_, rfl⟩
        rw [← hU] at hab2 hal2 hai hund hurg hull
        obtain ⟨T, hT⟩ : ∃ T, T = (abRS L U).2 := ⟨_, rfl⟩
        obtain ⟨L', hL'⟩ : ∃ L', L' = (abRS L U).1 := ⟨_, rfl⟩
        have htl := abRS_len U L
        have habe : abRS L U = (L', T) := by rw [hT, hL']
        rw [← hT] at hab2 htl; rw [← hL'] at hab2 hai hal2
        obtain ⟨ul, hul⟩ : ∃ ul, ul = U.length := ⟨_, rfl⟩
        obtain ⟨tl, htl2⟩ : ∃ tl, tl = T.length := ⟨_, rfl⟩
        rw [← htl2] at hab2 htl
        have hul' : ul ≤ m + 1 := by omega
        have htl' : tl ≤ ul := by omega
        have HLOW := Lib.hid hLow; have HUND := Lib.hid hund; have HAB := Lib.hid hab2; have HRB := Lib.hid hRB; have HW := Lib.hid hw; have HEX := Lib.hid hex; have HOFF := Lib.hid hoff
        have HUR := Lib.hid hurg; have HAI := Lib.hid hai; have HAL := Lib.hid hal2; have HABE := Lib.hid habe; have HUL := Lib.hid hul; have HTL := Lib.hid htl2
        clear hLow hund hurg hull hab2 hal2 hai hs hoff hisS hx hx0 hlb hi him hA ho hRB hw hex hmi hU hT hL' htl habe hul htl2
        go_wp2_with fail
        refine (HLOW.out wr).mono ?_
        rintro e w4 ⟨rfl, rfl⟩
        go_wp2_with fail
        rw [show (1 : Int) + i = (i : Int) + 1 by omega]
        refine HUND.out.mono ?_
        rintro e w4 ⟨ua, uc, rfl, hur, e4, huf⟩
        rw [← HUL.out] at hur huf ⊢
        have HUR4 := Lib.hid hur; have HUF := Lib.hid huf
        clear hur huf hx1
        go_wp2_with fail
        refine (HAB.out w4 (HW.out.keep0 e4)).mono ?_
        rintro e w5 ⟨ta, tc, rfl, htr, htf, h5, e5⟩
        have hm5 : w5.cell? ⟨B, i + 1, none⟩ = some (.bool false) := by
          have h8 := (HRB.out.keep e4 (by simp)).keep e5 (fun x hx hm => by
            have h9 : B = x := by simpa [Value.ownBlock] using hx
            exact HSB.out x hm h9.symm)
          have h9 := h8.cell encB_ok.len (i := i + 1) (mkB_at (by omega)) 0 (by omega)
          rw [Nat.mul_one, Nat.add_zero] at h9
          push_cast at h9
          rw [HOFF.out] at h9
          simpa only [encB, List.getElem?_cons_zero] using h9
        have hr5 := (HRB.out.keep e4 (by simp)).keep e5 (fun x hx hm => by
            have h9 : B = x := by simpa [Value.ownBlock] using hx
            exact HSB.out x hm h9.symm)
        have hx5 : Ext (B :: S) w3 w5 := (HEX.out.trans e4 (by simp)).trans e5 (fun x hx => .inl (List.mem_cons_of_mem _ hx))
        have hBlt : B < wr.heap.size := HRB.out.lt B rfl
        have hSlt := HW.out.lt
        have hu5 := HUR4.out.keep e5 (fun x hx hm => by have h8 := HUF.out x hx; have h9 := hSlt x hm; omega)
        have huB : ∀ x, (Value.slice ua ul uc).ownBlock = some x → x ≠ B := fun x hx => by have h8 := HUF.out x hx; omega
        have htB : ∀ x, (Value.slice ta tl tc).ownBlock = some x → x ≠ B := fun x hx => by have h8 := htf x hx; have h9 := e4.size; omega
        have HR5 := Lib.hid hr5; have H5 := Lib.hid h5; have HX5 := Lib.hid hx5; have HT5 := Lib.hid htr; have HU5 := Lib.hid hu5; have HUB := Lib.hid huB; have HTB := Lib.hid htB
        have HM5 := Lib.hid hm5
        clear htr htf h5 hr5 hx5 e4 e5 hBlt hSlt hu5 huB htB HUR4 HUF HRB HW HEX HAB HUND HLOW hexw
        go_wp2_with fail
        clear hm5 HM5
        generalize hwo : w5 = wb at *
        clear hwo
        go_loopw [13, 14] (fun kv pv wx => ∃ (p : Nat) (Lp : List Sm) (Tp : List Int) (k : Nat), p ≤ ul ∧ k ≤ p ∧ kv = .int .i64 k ∧ pv = .int .i64 p ∧ RB wx (.slice (some ⟨B, 0, none⟩) (m + 1) (m + 1)) (mkB m (offS Lp)) ∧ Ext [B] wb wx ∧ Hid (m = Lp.length) ∧ Hid (k = Tp.length) ∧ Hid (L' = (abRS Lp (U.drop p)).1 ∧ T = Tp ++ (abRS Lp (U.drop p)).2)) (fun _ pv _ => ul - (intOf pv).toNat)
        case atStart => exact ⟨0, L, [], 0, Nat.zero_le _, Nat.le_refl _, rfl, rfl, HR5.out, Ext.refl _ _, hml.out, rfl, by rw [List.drop_zero, HABE.out]; exact ⟨rfl, rfl⟩⟩
        case round =>
          obtain ⟨p, Lp, Tp, k, hpu, hkp, rfl, rfl, hRx, hexx, hLp, hTp, hab⟩ := hrel
          have hux := HU5.out.keep hexx (fun x hx hm => HUB.out x hx (by simpa using hm))
          have htx := HT5.out.keep hexx (fun x hx hm => HTB.out x hx (by simpa using hm))
          by_cases hp : p < ul
          · have d2 : decide (p < ul) = true := decide_eq_true hp
            obtain ⟨x, hx⟩ : ∃ x, U[p]? = some x := ⟨_, List.getElem?_eq_getElem (by rw [← HUL.out]; exact hp)⟩
            obtain ⟨q, rfl, hiq, hqm⟩ := HUR.out x (List.mem_of_getElem? hx)
            have hdr : U.drop p = ((q : Int) + 1) :: U.drop (p + 1) := by
              have hjl := (List.getElem?_eq_some_iff.1 hx).1
              have hjv := (List.getElem?_eq_some_iff.1 hx).2
              rw [List.drop_eq_getElem_cons hjl, hjv]
            obtain ⟨s, hs⟩ : ∃ s, Lp[q]? = some s := ⟨_, List.getElem?_eq_getElem (by rw [← hLp.out]; exact hqm)⟩
            obtain ⟨ug, rfl, hug⟩ := hux.addr (by omega)
            have hx0 := hux.cell encI_ok.len hx 0 (by omega)
            simp only [encI, Nat.add_zero, Nat.mul_one, List.getElem?_cons_zero] at hx0
            have hm0 := hRx.cell encB_ok.len (i := q + 1) (mkB_at (by omega)) 0 (by omega)
            rw [Nat.mul_one, Nat.add_zero] at hm0
            push_cast at hm0
            rw [offS_at hs] at hm0
            simp only [encB, List.getElem?_cons_zero] at hm0
            have d3 : decide ((q : Int) + 1 < 1) = false := decide_eq_false (by omega)
            have d3' : decide ((q : Int) < 0) = false := decide_eq_false (by omega)
            have d4 : decide ((m : Int) < (q : Int) + 1) = false := decide_eq_false (by omega)
            have d4' : decide (m ≤ q) = false := decide_eq_false (by omega)
            have b3 : (0 : Int) ≤ (p : Int) := by omega
            have b4 : (p : Int) < (ul : Int) := by omega
            have c3 : (0 : Int) ≤ (q : Int) + 1 := by omega
            have c4 : (q : Int) + 1 < (m : Int) + 1 := by omega
            cases ho : s.off with
            | true =>
              rw [ho] at hm0
              have hab2 : L' = (abRS Lp (U.drop (p + 1))).1 ∧ T = Tp ++ (abRS Lp (U.drop (p + 1))).2 := by
                have := hab.out
                rw [hdr, abRS_off hs ho] at this; exact this
              have HAB2 := Lib.hid hab2; have HRX := Lib.hid hRx; have HEXX := Lib.hid hexx
              clear hab hab2 hdr hs hx hux htx ho hRx hexx
              go_wp2_with fail
              exact ⟨⟨p + 1, Lp, Tp, k, by omega, by omega, rfl, by go_num, HRX.out, HEXX.out, hLp, hTp, HAB2.out⟩, by simp [intOf]; omega⟩
            | false =>
              rw [ho] at hm0
              have hab2 : L' = (abRS (Lp.set q ⟨s.up, true⟩) (U.drop (p + 1))).1 ∧ T = (Tp ++ [(q : Int) + 1]) ++ (abRS (Lp.set q ⟨s.up, true⟩) (U.drop (p + 1))).2 := by
                have := hab.out
                rw [hdr, abRS_on hs ho] at this
                exact ⟨this.1, by rw [this.2]; simp⟩
              have hTk : T[k]? = some ((q : Int) + 1) := by
                rw [hab2.2, hTp.out, List.append_assoc, List.getElem?_append_right (Nat.le_refl _)]
                simp
              have hkt : k < tl := by rw [HTL.out]; exact (List.getElem?_eq_some_iff.1 hTk).1
              obtain ⟨tg, rfl, htg⟩ := htx.addr (by omega)
              have ht0 := htx.cell encI_ok.len hTk 0 (by omega)
              simp only [encI, Nat.add_zero, Nat.mul_one, List.getElem?_cons_zero] at ht0
              have d5 : decide (tl ≤ k) = false := decide_eq_false (by omega)
              have b5 : (0 : Int) ≤ (k : Int) := by omega
              have b6 : (k : Int) < (tl : Int) := by omega
              have hset : RB (wr.drew.setCell ⟨B, q + 1, none⟩ (.bool true)) (.slice (some ⟨B, 0, none⟩) (m + 1) (m + 1)) (mkB m (offS (Lp.set q ⟨s.up, true⟩))) := by
                have hlg : q + 1 < (mkB m (offS Lp)).length := by rw [mkB_len]; omega
                have := (hRx.keep (Ext.refl [] wr).drew (by simp)).put encB_ok.len hlg true
                rw [Nat.mul_one] at this
                rw [← mkB_set m (q + 1) (offS Lp) (offS (Lp.set q ⟨s.up, true⟩))]
                · exact this
                · intro z hz
                  exact offS_set hs z (by rw [← hLp.out]; exact hz)
              have hf1 := (hRx.keep (Ext.refl [] wr).drew (by simp)).free (q + 1)
              have hm1 : wr.drew.cell? ⟨B, q + 1, none⟩ = some (.bool false) := by
                have := (hRx.keep (Ext.refl [] wr).drew (by simp)).cell encB_ok.len (i := q + 1) (mkB_at (by omega)) 0 (by omega)
                rw [Nat.mul_one, Nat.add_zero] at this
                push_cast at this
                rw [offS_at hs, ho] at this
                simpa only [encB, List.getElem?_cons_zero] using this
              have hx1 : wr.drew.cell? ⟨ug, p, none⟩ = some (.int .i64 ((q : Int) + 1)) := hx0
              have hex2 : Ext [B] wb (wr.drew.setCell ⟨B, q + 1, none⟩ (.bool true)) := hexx.drew.setCell (Or.inl (by simp)) _
              have hl2 : m = (Lp.set q ⟨s.up, true⟩).length := by rw [List.length_set]; exact hLp.out
              have ht2 : k + 1 = (Tp ++ [(q : Int) + 1]).length := by rw [List.length_append, ← hTp.out]; rfl
              have HAB2 := Lib.hid hab2; have HSET := Lib.hid hset; have HEX2 := Lib.hid hex2; have HL2 := Lib.hid hl2; have HT2 := Lib.hid ht2
              clear hab hab2 hdr hs hx hux htx ho hRx hexx hset hex2 hTk hl2 ht2 hkt
              go_wp2_with fail
              refine start_ (n := 15) (S := fun w' => w'.cell? ⟨ug, p, none⟩ = some (.int .i64 ((q : Int) + 1)) ∧ w'.cell? ⟨tg, k, none⟩ = some (.int .i64 ((q : Int) + 1)) ∧ (0 : Int) ≤ (p : Int) ∧ (p : Int) < (ul : Int) ∧ (0 : Int) ≤ (k : Int) ∧ (k : Int) < (tl : Int)) (ds := []) #[false, false, false, false, false, false, false, false, false, false, false, false, false, false, false] (by kernel_rfl) rfl rfl ⟨hx0, ht0, b3, b4, b5, b6⟩ (fun hHeld => ?_)
              refine pure_ (i := 0) (N := some 110) (v := ?_) (a' := ?_) #[true, false, false, false, false, false, false, false, false, false, false, false, false, false, false] rfl rfl (by kernel_rfl) (fun _ _ _ h => h) (Or.inl ⟨by rfl, ?_⟩) ?_ ?_
              rotate_left
              · intro w'
                go_simp
                with_reducible rfl
              rotate_left
              · simp only [Act.put, List.setIfInBounds_toArray, List.set_cons_zero, List.set_cons_succ, i64_w, i32_w]
                rfl
              refine pure_ (i := 1) (N := some 111) (v := ?_) (a' := ?_) #[true, true, false, false, false, false, false, false, false, false, false, false, false, false, false] rfl rfl (by kernel_rfl) (fun _ _ _ h => h) (Or.inl ⟨by rfl, ?_⟩) ?_ ?_
              rotate_left
              · intro w'
                go_simp
                with_reducible rfl
              rotate_left
              · simp only [Act.put, List.setIfInBounds_toArray, List.set_cons_zero, List.set_cons_succ, i64_w, i32_w]
                rfl
              refine pure_ (i := 2) (N := some 112) (v := ?_) (a' := ?_) #[true, true, true, false, false, false, false, false, false, false, false, false, false, false, false] rfl rfl (by kernel_rfl) (fun _ _ _ h => h) (Or.inl ⟨by rfl, ?_⟩) ?_ ?_
              rotate_left
              · intro w'
                go_simp
                with_reducible rfl
              rotate_left
              · simp only [Act.put, List.setIfInBounds_toArray, List.set_cons_zero, List.set_cons_succ, i64_w, i32_w]
                rfl
              refine pure_ (i := 3) (N := some 113) (v := ?_) (a' := ?_) #[true, true, true, true, false, false, false, false, false, false, false, false, false, false, false] rfl rfl (by kernel_rfl) (fun _ _ _ h => h) (Or.inl ⟨by rfl, ?_⟩) ?_ ?_
              rotate_left
              · intro w'
                go_simp
                with_reducible rfl
              rotate_left
              · simp only [Act.put, List.setIfInBounds_toArray, List.set_cons_zero, List.set_cons_succ, i64_w, i32_w]
                rfl
              refine pure_ (i := 4) (N := some 114) (v := ?_) (a' := ?_) #[true, true, true, true, true, false, false, false, false, false, false, false, false, false, false] rfl rfl (by kernel_rfl) (fun _ _ _ h => h) (Or.inl ⟨by rfl, ?_⟩) ?_ ?_
              rotate_left
              · intro w'
                go_simp
                with_reducible rfl
              rotate_left
              · simp only [Act.put, List.setIfInBounds_toArray, List.set_cons_zero, List.set_cons_succ, i64_w, i32_w]
                rfl
              refine pure_ (i := 5) (N := some 115) (v := ?_) (a' := ?_) #[true, true, true, true, true, true, false, false, false, false, false, false, false, false, false] rfl rfl (by kernel_rfl) (fun _ _ _ h => h) (Or.inl ⟨by rfl, ?_⟩) ?_ ?_
              rotate_left
              · intro w'
                go_simp
                with_reducible rfl
              rotate_left
              · simp only [Act.put, List.setIfInBounds_toArray, List.set_cons_zero, List.set_cons_succ, i64_w, i32_w]
                rfl
              refine pure_ (i := 6) (N := some 116) (v := ?_) (a' := ?_) #[true, true, true, true, true, true, true, false, false, false, false, false, false, false, false] rfl rfl (by kernel_rfl) (fun _ _ _ h => h) (Or.inl ⟨by rfl, ?_⟩) ?_ ?_
              rotate_left
              · intro w'
                go_simp
                with_reducible rfl
              rotate_left
              · simp only [Act.put, List.setIfInBounds_toArray, List.set_cons_zero, List.set_cons_succ, i64_w, i32_w]
                rfl
              refine pure_ (i := 7) (N := some 117) (v := ?_) (a' := ?_) #[true, true, true, true, true, true, true, true, false, false, false, false, false, false, false] rfl rfl (by kernel_rfl) (fun _ _ _ h => h) (Or.inl ⟨by rfl, ?_⟩) ?_ ?_
              rotate_left
              · intro w'
                go_simp
                with_reducible rfl
              rotate_left
              · simp only [Act.put, List.setIfInBounds_toArray, List.set_cons_zero, List.set_cons_succ, i64_w, i32_w]
                rfl
              refine pure_ (i := 9) (N := some 119) (v := ?_) (a' := ?_) #[true, true, true, true, true, true, true, true, false, true, false, false, false, false, false] rfl rfl (by kernel_rfl) (fun _ _ _ h => h) (Or.inl ⟨by rfl, ?_⟩) ?_ ?_
              rotate_left
              · intro w'
                go_simp
                with_reducible rfl
              rotate_left
              · simp only [Act.put, List.setIfInBounds_toArray, List.set_cons_zero, List.set_cons_succ, i64_w, i32_w]
                rfl
              refine pure_ (i := 10) (N := some 120) (v := ?_) (a' := ?_) #[true, true, true, true, true, true, true, true, false, true, true, false, false, false, false] rfl rfl (by kernel_rfl) (fun _ _ _ h => h) (Or.inl ⟨by rfl, ?_⟩) ?_ ?_
              rotate_left
              · intro w'
                go_simp
                with_reducible rfl
              rotate_left
              · simp only [Act.put, List.setIfInBounds_toArray, List.set_cons_zero, List.set_cons_succ, i64_w, i32_w]
                rfl
              refine pure_ (i := 11) (N := some 121) (v := ?_) (a' := ?_) #[true, true, true, true, true, true, true, true, false, true, true, true, false, false, false] rfl rfl (by kernel_rfl) (fun _ _ _ h => h) (Or.inl ⟨by rfl, ?_⟩) ?_ ?_
              rotate_left
              · intro w'
                go_simp
                with_reducible rfl
              rotate_left
              · simp only [Act.put, List.setIfInBounds_toArray, List.set_cons_zero, List.set_cons_succ, i64_w, i32_w]
                rfl
              refine take_ (i := 8) (N := some 118) (v := ?_) (a' := ?_) #[true, true, true, true, true, true, true, true, true, true, true, true, false, false, false] rfl rfl (by kernel_rfl) (fun _ _ _ h => h) (Or.inl ⟨by rfl, ?_⟩) hHeld ?_ ?_
              rotate_left
              · rintro w' ⟨s0, s1, s2, s3, s4, s5⟩
                go_simp
                with_reducible rfl
              rotate_left
              · simp only [Act.put, List.setIfInBounds_toArray, List.set_cons_zero, List.set_cons_succ, i64_w, i32_w]
                rfl
              refine take_ (i := 12) (N := some 122) (v := ?_) (a' := ?_) #[true, true, true, true, true, true, true, true, true, true, true, true, true, false, false] rfl rfl (by kernel_rfl) (fun _ _ _ h => h) (Or.inl ⟨by rfl, ?_⟩) hHeld ?_ ?_
              rotate_left
              · rintro w' ⟨s0, s1, s2, s3, s4, s5⟩
                go_simp
                with_reducible rfl
              rotate_left
              · simp only [Act.put, List.setIfInBounds_toArray, List.set_cons_zero, List.set_cons_succ, i64_w, i32_w]
                rfl
              refine pure_ (i := 13) (N := some 123) (v := ?_) (a' := ?_) #[true, true, true, true, true, true, true, true, true, true, true, true, true, true, false] rfl rfl (by kernel_rfl) (fun _ _ _ h => h) (Or.inl ⟨by rfl, ?_⟩) ?_ ?_
              rotate_left
              · intro w'
                go_simp
                with_reducible rfl
              rotate_left
              · simp only [Act.put, List.setIfInBounds_toArray, List.set_cons_zero, List.set_cons_succ, i64_w, i32_w]
                rfl
              refine pure_ (i := 14) (N := some 124) (v := ?_) (a' := ?_) #[true, true, true, true, true, true, true, true, true, true, true, true, true, true, true] rfl rfl (by kernel_rfl) (fun _ _ _ h => h) (Or.inl ⟨by rfl, ?_⟩) ?_ ?_
              rotate_left
              · intro w'
                go_simp
                with_reducible rfl
              rotate_left
              · simp only [Act.put, List.setIfInBounds_toArray, List.set_cons_zero, List.set_cons_succ, i64_w, i32_w]
                rfl
              refine done_ (by kernel_rfl) ?_
              go_wp2_with fail
              exact ⟨⟨p + 1, _, Tp ++ [(q : Int) + 1], k + 1, by omega, by omega, by go_num, by go_num, HSET.out, HEX2.out, HL2.out, HT2.out, HAB2.out⟩, by simp [intOf]; omega⟩
          · have d2 : decide (p < ul) = false := decide_eq_false hp
            have habn : L' = Lp ∧ T = Tp := by
              have := hab.out
              rw [List.drop_eq_nil_of_le (by rw [← HUL.out]; omega), abRS] at this
              exact ⟨this.1, by rw [this.2]; simp⟩
            have hkt : k = tl := by rw [HTL.out, hTp.out, habn.2]
            have d5 : ((k : Int) != (tl : Int)) = false := by rw [hkt]; simp
            rw [← habn.1] at hRx
            have hw6 := H5.out.keep hexx (fun x hx hm => HSB.out x hx (by simpa using hm))
            have hex6 : Ext (B :: S) w3 wr := HX5.out.trans hexx (fun x hx => .inl (by simp at hx; simp [hx]))
            have habo := fun (z : Int) W (hW : SO W b S L') => so_aborted b S L' z (by rw [HAL.out]; omega) W hW
            have HW6 := Lib.hid hw6; have HR6 := Lib.hid hRx; have HE6 := Lib.hid hex6; have HABO := Lib.hid habo
            clear hab habn hux htx hkt hRx hexx hLp hTp hw6 hex6 habo HX5 H5 HR5 HT5 HU5
            generalize hwo : wr = wd at *
            clear hwo
            go_wp2_with fail
            go_loopw [15] (fun zv wx => ∃ (z : Nat), z ≤ m ∧ zv = .int .i64 ((z : Int) + 1) ∧ Ext [] wd wx) (fun zv _ => m + 1 - (intOf zv).toNat)
            case atStart => exact ⟨0, Nat.zero_le _, rfl, Ext.refl _ _⟩
            case round =>
              obtain ⟨z, hzm, rfl, hexz⟩ := hrel
              by_cases hz : z < m
              · have d6 : decide ((z : Int) + 1 ≤ (m : Int)) = true := decide_eq_true (by omega)
                have d6' : decide (z < m) = true := decide_eq_true hz
                have hrx := HR6.out.keep hexz (by simp)
                have hwx := HW6.out.keep0 hexz
                have hz0 := hrx.cell encB_ok.len (i := z + 1) (mkB_at (by omega)) 0 (by omega)
                rw [Nat.mul_one, Nat.add_zero] at hz0
                push_cast at hz0
                simp only [encB, List.getElem?_cons_zero] at hz0
                have hzo := HABO.out ((z : Int) + 1)
                generalize offS L' ((z : Int) + 1) = bo at hz0 hzo
                have HZO := Lib.hid hzo; have HWX := Lib.hid hwx
                have b7 : (0 : Int) ≤ (z : Int) + 1 := by omega
                have b8 : (z : Int) + 1 < (m : Int) + 1 := by omega
                clear hrx hwx hzo
                go_wp2_with fail
                refine start_ (n := 8) (S := fun w' => w'.cell? ⟨B, z + 1, none⟩ = some (.bool bo) ∧ (0 : Int) ≤ (z : Int) + 1 ∧ (z : Int) + 1 < (m : Int) + 1) (ds := []) #[false, false, false, false, false, false, false, false] (by kernel_rfl) rfl rfl ⟨hz0, b7, b8⟩ (fun hHeld => ?_)
                refine pure_ (i := 0) (N := some 142) (v := ?_) (a' := ?_) #[true, false, false, false, false, false, false, false] rfl rfl (by kernel_rfl) (fun _ _ _ h => h) (Or.inl ⟨by rfl, ?_⟩) ?_ ?_
                rotate_left
                · intro w'
                  go_simp
                  with_reducible rfl
                rotate_left
                · simp only [Act.put, List.setIfInBounds_toArray, List.set_cons_zero, List.set_cons_succ, i64_w, i32_w]
                  rfl
                refine pure_ (i := 1) (N := some 143) (v := ?_) (a' := ?_) #[true, true, false, false, false, false, false, false] rfl rfl (by kernel_rfl) (fun _ _ _ h => h) (Or.inl ⟨by rfl, ?_⟩) ?_ ?_
                rotate_left
                · intro w'
                  go_simp
                  with_reducible rfl
                rotate_left
                · simp only [Act.put, List.setIfInBounds_toArray, List.set_cons_zero, List.set_cons_succ, i64_w, i32_w]
                  rfl
                refine pure_ (i := 3) (N := some 145) (v := ?_) (a' := ?_) #[true, true, false, true, false, false, false, false] rfl rfl (by kernel_rfl) (fun _ _ _ h => h) (Or.inl ⟨by rfl, ?_⟩) ?_ ?_
                rotate_left
                · intro w'
                  go_simp
                  with_reducible rfl
                rotate_left
                · simp only [Act.put, List.setIfInBounds_toArray, List.set_cons_zero, List.set_cons_succ, i64_w, i32_w]
                  rfl
                refine pure_ (i := 4) (N := some 146) (v := ?_) (a' := ?_) #[true, true, false, true, true, false, false, false] rfl rfl (by kernel_rfl) (fun _ _ _ h => h) (Or.inl ⟨by rfl, ?_⟩) ?_ ?_
                rotate_left
                · intro w'
                  go_simp
                  with_reducible rfl
                rotate_left
                · simp only [Act.put, List.setIfInBounds_toArray, List.set_cons_zero, List.set_cons_succ, i64_w, i32_w]
                  rfl
                refine pure_ (i := 5) (N := some 147) (v := ?_) (a' := ?_) #[true, true, false, true, true, true, false, false] rfl rfl (by kernel_rfl) (fun _ _ _ h => h) (Or.inl ⟨by rfl, ?_⟩) ?_ ?_
                rotate_left
                · intro w'
                  go_simp
                  with_reducible rfl
                rotate_left
                · simp only [Act.put, List.setIfInBounds_toArray, List.set_cons_zero, List.set_cons_succ, i64_w, i32_w]
                  rfl
                refine take_ (i := 6) (N := some 148) (v := ?_) (a' := ?_) #[true, true, false, true, true, true, true, false] rfl rfl (by kernel_rfl) (fun _ _ _ h => h) (Or.inl ⟨by rfl, ?_⟩) hHeld ?_ ?_
                rotate_left
                · rintro w' ⟨s0, s1, s2⟩
                  go_simp
                  with_reducible rfl
                rotate_left
                · simp only [Act.put, List.setIfInBounds_toArray, List.set_cons_zero, List.set_cons_succ, i64_w, i32_w]
                  rfl
                refine one_ (i := 2) (N := some 144) #[true, true, true, true, true, true, true, false] rfl rfl (by kernel_rfl) (by decide) (fun K hK => ?_)
                refine goes_ Try.func29 (by kernel_rfl) rfl #[.pointer (some ⟨b, 0, none⟩), .int .i64 ((z : Int) + 1)] (by rfl) rfl rfl (by simp only [List.map_toArray, List.map_cons, List.map_nil]; rfl) ?_
                with_reducible refine (HZO.out _ (HWX.out.keep0 (Ext.refl [] _).drew)).mono ?_
                rintro e w9 ⟨rfl, rfl⟩
                refine ⟨_, rfl, ?_⟩
                refine hK.out _ _ ⟨hz0, b7, b8⟩ (fun hHeld => ?_)
                clear hK K
                refine norm_ (a' := ?_) ?_ ?_
                rotate_left
                · show Act.put _ (some 144) _ = _
                  simp only [Act.put, List.setIfInBounds_toArray, List.set_cons_zero, List.set_cons_succ, i64_w, i32_w]
                  rfl
                refine pure_ (i := 7) (N := some 149) (v := ?_) (a' := ?_) #[true, true, true, true, true, true, true, true] rfl rfl (by kernel_rfl) (fun _ _ _ h => h) (Or.inl ⟨by rfl, ?_⟩) ?_ ?_
                rotate_left
                · intro w'
                  go_simp
                  with_reducible rfl
                rotate_left
                · simp only [Act.put, List.setIfInBounds_toArray, List.set_cons_zero, List.set_cons_succ, i64_w, i32_w]
                  rfl
                refine done_ (by kernel_rfl) ?_
                go_wp2_with fail
                exact ⟨⟨z + 1, by omega, by go_num, hexz.drew⟩, by simp [intOf]; omega⟩
              · have d6 : decide ((z : Int) + 1 ≤ (m : Int)) = false := decide_eq_false (by omega)
                have d6' : decide (z < m) = false := decide_eq_false hz
                have hrx := HR6.out.keep hexz (by simp)
                have hwx := HW6.out.keep0 hexz
                have hex7 := HE6.out.trans hexz (by simp)
                have HRX := Lib.hid hrx; have HWX := Lib.hid hwx; have HE7 := Lib.hid hex7
                clear hrx hwx hex7
                go_wp2_with fail
                exact ⟨⟨j + 1, L', by omega, by go_num, HWX.out, HRX.out, HE7.out, HAI.out, HAL.out.symm⟩, by simp [intOf]; omega⟩
    · have d1 : decide (j < al) = false := decide_eq_false hj
      have HEX := Lib.hid hexw
      clear hexw hw hRB hex
      go_wp2_with fail
      refine (awakeS_any _).mono ?_
      rintro e w6 ⟨rfl, e6⟩
      go_wp2_with fail
      go_ret
      exact ⟨rfl, HEX.out.trans e6 (by simp)⟩
end Go.Proofs.Ytmmhpjodnceipaa
