/- SignalUnder: its walk. -/
import Derived.Test.YtmmhpjodnceipaaSgLaws
import Derived.Test.YtmmhpjodnceipaaSgGrown
import Derived.Test.YtmmhpjodnceipaaLow
import Derived.Deep.DeepCutAuto
namespace Go.Proofs.Ytmmhpjodnceipaa
open Go.RowKit Go.Proofs.YtmmhpjodnceipaaW.PrintLast
set_option linter.unusedVariables false
set_option linter.unusedSimpArgs false

set_option maxHeartbeats 6400000 in
set_option maxRecDepth 100000 in
theorem signalUnder_walk (w : World) (a : Option Addr) (n c : Nat) (xs : List Int) (hs : Slc (encI .u64) 1 w a n xs) (_hg : ∀ z ∈ xs, (Lit.int .u64 z).wf = true) (ask : Int) (hask : (Lit.int .i64 ask).wf = true) :
    Calls Try.prog 4 #[.slice a n c, .int .i64 ask] w fun e w' => e = .returned (.bool true) ∧ Ext [] w w' := by
  clear hask _hg
  have hgr := grown_any w a n c xs hs
  unfold GrownP at hgr
  clear hs
  go_enter Try.func4, Try.ntmps4
  go_wp2_with fail
  refine hgr.mono ?_
  rintro e w1 ⟨b, S, M, rfl, h1, hin, hl60, hof, o1⟩
  clear hgr hof
  have hlen := fun W (hW : SO W b S M) => so_len b S M W hW
  obtain ⟨m, hm⟩ : ∃ m, m = M.length := ⟨_, rfl⟩
  rw [← hm] at hlen hl60
  have HLEN := Lib.hid hlen
  by_cases hm0 : m = 0
  · have d0 : (m == 0) = true := by rw [hm0]; rfl
    have H1 := Lib.hid h1; have O1 := Lib.hid o1
    clear hin h1 o1 hm hlen hm0
    go_wp2_with fail
    refine (HLEN.out w1 H1.out).mono ?_
    rintro e w2 ⟨rfl, rfl⟩
    go_wp2_with fail
    refine (awakeS_any _).mono ?_
    rintro e w2 ⟨rfl, e2⟩
    go_wp2_with fail
    go_ret
    exact ⟨rfl, O1.out.ext.trans e2 (by simp)⟩
  have d0 : (m == 0) = false := by rw [beq_eq_false_iff_ne]; exact hm0
  have hlb := lowI_bd ask m (by omega)
  have hLow := low_any ask m (by omega) (by omega)
  obtain ⟨i, hi⟩ : ∃ i : Nat, lowI ask m = (i : Int) := ⟨(lowI ask m).toNat, by omega⟩
  rw [hi] at hlb hLow
  have him : i < M.length := by omega
  have hund := fun W x (hW : SO W b S M) => so_under b S M x (by omega) hin.ok W hW
  obtain ⟨ur, hucons⟩ := undS_cons him
  have hupw := undS_up him
  have hurg := fun z (hz : z ∈ undS M ((i : Int) + 1)) => undS_range him hz
  have hutr := fun (q : Nat) (hq : (q : Int) + 1 ∈ undS M ((i : Int) + 1)) z (hz : z ∈ undS M ((q : Int) + 1)) => undS_trans him hq hz
  have hul := undS_len M ((i : Int) + 1)
  have huno := undS_no M
  obtain ⟨U, hU⟩ : ∃ U, U = undS M ((i : Int) + 1) := ⟨_, rfl⟩
  have hu1 := fun W (hW : SO W b S M) => so_under b S M ((i : Int) + 1) (by omega) hin.ok W hW
  have hu2 := fun W (hW : SO W b S M) => so_under b S M ((m : Int) + 1) (by omega) hin.ok W hW
  rw [← hU] at hucons hupw hurg hutr hul hu1
  rw [← hm] at hurg hul huno
  rw [huno] at hu2
  have hln := fun (x : Int) => undS_len M x
  rw [← hm] at hln
  obtain ⟨ul, hull⟩ : ∃ ul, ul = U.length := ⟨_, rfl⟩
  have hul1 : 1 ≤ ul := by rw [hull, hucons]; simp
  rw [← hull] at hul
  have HLOW := Lib.hid hLow; have HUND := Lib.hid hund; have HUC := Lib.hid hucons; have HUP := Lib.hid hupw; have HUR := Lib.hid hurg; have HUT := Lib.hid hutr; have HU1 := Lib.hid hu1; have HU2 := Lib.hid hu2; have HLN := Lib.hid hln; have HULL := Lib.hid hull
  have H1 := Lib.hid h1; have O1 := Lib.hid o1
  have him' : i < m := by omega
  clear hin h1 o1 hm hlen hm0 hlb hLow hi hund hucons hupw hurg hutr huno hU hu1 hu2 hln hull him
  go_wp2_with fail
  refine (HLEN.out w1 H1.out).mono ?_
  rintro e w2 ⟨rfl, rfl⟩
  go_wp2_with fail
  refine (HLEN.out w1 H1.out).mono ?_
  rintro e w2 ⟨rfl, rfl⟩
  go_wp2_with fail
  refine (HLOW.out w1).mono ?_
  rintro e w2 ⟨rfl, rfl⟩
  go_wp2_with fail
  rw [show (1 : Int) + i = (i : Int) + 1 by omega]
  refine (HU1.out w1 H1.out).mono ?_
  rintro e w2 ⟨ua, uc, rfl, hur, e2, huf⟩
  rw [← HULL.out] at hur huf ⊢
  have hn1 : m + 1 ≤ 1000000 := by omega
  have HUR2 := Lib.hid hur; have E2 := Lib.hid e2; have HUF := Lib.hid huf
  clear hur huf e2
  go_wp2_with (at_make; refine wpList_mkB _ rfl _ _ 39 rfl Try.t4 (by kernel_rfl) (by kernel_rfl) (by rfl) (by rfl) (by rfl) .i64 .i64 ((m : Int) + 1) (m + 1) (by rfl) (by rfl) (by rfl) hn1 ?_)
  intro w3 hr3 e3
  obtain ⟨B, hB⟩ : ∃ B, B = w2.heap.size := ⟨_, rfl⟩
  rw [← hB] at hr3 ⊢
  rw [mkB_none m (hasI []) (fun z _ => rfl)] at hr3
  obtain ⟨ug, rfl, hug⟩ := HUR2.out.addr (by omega)
  have hugB : ug ≠ B := by omega
  have hSB : ∀ x ∈ S, x ≠ B := fun x hx => by have h8 := H1.out.lt x hx; have h9 := E2.out.size; omega
  have hwB : w.heap.size ≤ B := by have h8 := O1.out.ext.size; have h9 := E2.out.size; omega
  have o3 := (O1.out.quiet E2.out).quiet e3
  have h3 := (H1.out.keep0 E2.out).keep0 e3
  have u3 := HUR2.out.keep e3 (by simp)
  have HW3 := Lib.hid h3; have HO3 := Lib.hid o3; have HU3 := Lib.hid u3; have HSB := Lib.hid hSB
  clear H1 O1 E2 HUR2 HUF e3 hB hug o3 h3 u3 hSB HU1
  go_wp2_with fail
  go_loopw [10] (fun iv wr => ∃ (j : Nat), j ≤ ul ∧ iv = .int .i64 j ∧ RB wr (.slice (some ⟨B, 0, none⟩) (m + 1) (m + 1)) (mkB m (hasI (U.take j))) ∧ Ext [B] w3 wr) (fun iv _ => ul - (intOf iv).toNat)
  case atStart => exact ⟨0, Nat.zero_le _, rfl, hr3, Ext.refl _ _⟩
  case round =>
    obtain ⟨j, hju, rfl, hRB, hex⟩ := hrel
    clear hr3
    have hUw := HU3.out.keep hex (fun x hx hm => by
      have h8 : ug = x := by simpa [Value.ownBlock] using hx
      simp at hm; omega)
    by_cases hj : j < ul
    · have d1 : decide (j < ul) = true := decide_eq_true hj
      obtain ⟨x, hx⟩ : ∃ x, U[j]? = some x := ⟨_, List.getElem?_eq_getElem (by rw [← HULL.out]; exact hj)⟩
      obtain ⟨q, rfl, hiq, hqm⟩ := HUR.out x (List.mem_of_getElem? hx)
      have hx0 := hUw.cell encI_ok.len hx 0 (by omega)
      simp only [encI, Nat.add_zero, Nat.mul_one, List.getElem?_cons_zero] at hx0
      have d2 : decide ((q : Int) + 1 < (i : Int) + 1) = false := decide_eq_false (by omega)
      have d3 : decide ((m : Int) < (q : Int) + 1) = false := decide_eq_false (by omega)
      have d2' : decide (q < i) = false := decide_eq_false (by omega)
      have d2n : ¬ q < i := by omega
      have d3' : decide (m ≤ q) = false := decide_eq_false (by omega)
      have d3n : ¬ m ≤ q := by omega
      have b1 : (0 : Int) ≤ (j : Int) := by omega
      have b2 : (j : Int) < (ul : Int) := by omega
      have hset : RB (wr.drew.setCell ⟨B, q + 1, none⟩ (.bool true)) (.slice (some ⟨B, 0, none⟩) (m + 1) (m + 1)) (mkB m (hasI (U.take (j + 1)))) := by
        have hlg : q + 1 < (mkB m (hasI (U.take j))).length := by rw [mkB_len]; omega
        have := (hRB.keep (Ext.refl [] wr).drew (by simp)).put encB_ok.len hlg true
        rw [Nat.mul_one] at this
        rw [← mkB_set m (q + 1) (hasI (U.take j)) (hasI (U.take (j + 1)))]
        · exact this
        · intro z hz
          rw [List.take_add_one, hx]
          unfold hasI
          rw [List.any_append]
          by_cases h : z = q + 1
          · subst h; simp
          · rw [if_neg h]
            have : ([(q : Int) + 1].any fun y => (z : Int) == y) = false := by simp; omega
            simp only [Option.toList_some, this, Bool.or_false]
      have hf1 := (hRB.keep (Ext.refl [] wr).drew (by simp)).free (q + 1)
      have hcx : ∃ v, wr.drew.cell? ⟨B, q + 1, none⟩ = some v := by
        have := (hRB.keep (Ext.refl [] wr).drew (by simp)).cell encB_ok.len (i := q + 1) (mkB_at (by omega)) 0 (by omega)
        rw [Nat.mul_one, Nat.add_zero] at this
        exact ⟨_, this⟩
      obtain ⟨cv, hcx⟩ := hcx
      have c1 : (0 : Int) ≤ (q : Int) + 1 := by omega
      have c2 : (q : Int) + 1 < (m : Int) + 1 := by omega
      have hex2 : Ext [B] w3 (wr.drew.setCell ⟨B, q + 1, none⟩ (.bool true)) := hex.drew.setCell (Or.inl (by simp)) _
      by_cases hj0 : 0 < j
      · obtain ⟨y, hy⟩ : ∃ y, U[j - 1]? = some y := ⟨_, List.getElem?_eq_getElem (by rw [← HULL.out]; omega)⟩
        have hy0 := hUw.cell encI_ok.len hy 0 (by omega)
        simp only [encI, Nat.add_zero, Nat.mul_one, List.getElem?_cons_zero] at hy0
        have hyx : y < (q : Int) + 1 := by
          have h1 := (List.getElem?_eq_some_iff.1 hx)
          have h2 := (List.getElem?_eq_some_iff.1 hy)
          have := List.pairwise_iff_getElem.1 HUP.out (j - 1) j h2.1 h1.1 (by omega)
          rw [h1.2, h2.2] at this
          exact this
        obtain ⟨p, hp⟩ : ∃ p, p = j - 1 := ⟨_, rfl⟩
        rw [← hp] at hy0
        have hjm : (j : Int) - 1 = (p : Int) := by omega
        have d4 : decide (0 < j) = true := decide_eq_true hj0
        have d5 : decide ((q : Int) + 1 ≤ y) = false := decide_eq_false (by omega)
        have d5' : decide ((q : Int) < y) = false := decide_eq_false (by omega)
        have b3 : (0 : Int) ≤ (p : Int) := by omega
        have b4 : (p : Int) < (ul : Int) := by omega
        have HSET := Lib.hid hset; have HEX2 := Lib.hid hex2
        clear hset hRB hUw hx hy hyx hp hex2
        go_wp2_with fail
        refine start_ (n := 30) (S := fun w' => w'.cell? ⟨ug, j, none⟩ = some (.int .i64 ((q : Int) + 1)) ∧ w'.cell? ⟨ug, p, none⟩ = some (.int .i64 y) ∧ (j : Int) - 1 = (p : Int) ∧ wrap64 (p : Int) = (p : Int) ∧ (0 : Int) ≤ (j : Int) ∧ (j : Int) < (ul : Int) ∧ (0 : Int) ≤ (p : Int) ∧ (p : Int) < (ul : Int)) (ds := []) #[false, false, false, false, false, false, false, false, false, false, false, false, false, false, false, false, false, false, false, false, false, false, false, false, false, false, false, false, false, false] (by kernel_rfl) rfl rfl ⟨hx0, hy0, hjm, (by unfold wrap64; omega), b1, b2, b3, b4⟩ (fun hHeld => ?_)
        refine pure_ (i := 0) (N := some 46) (v := ?_) (a' := ?_) #[true, false, false, false, false, false, false, false, false, false, false, false, false, false, false, false, false, false, false, false, false, false, false, false, false, false, false, false, false, false] rfl rfl (by kernel_rfl) (fun _ _ _ h => h) (Or.inl ⟨by rfl, ?_⟩) ?_ ?_
        rotate_left
        · intro w'
          go_simp
          with_reducible rfl
        rotate_left
        · simp only [Act.put, List.setIfInBounds_toArray, List.set_cons_zero, List.set_cons_succ, i64_w, i32_w]
          rfl
        refine pure_ (i := 1) (N := some 47) (v := ?_) (a' := ?_) #[true, true, false, false, false, false, false, false, false, false, false, false, false, false, false, false, false, false, false, false, false, false, false, false, false, false, false, false, false, false] rfl rfl (by kernel_rfl) (fun _ _ _ h => h) (Or.inl ⟨by rfl, ?_⟩) ?_ ?_
        rotate_left
        · intro w'
          go_simp
          with_reducible rfl
        rotate_left
        · simp only [Act.put, List.setIfInBounds_toArray, List.set_cons_zero, List.set_cons_succ, i64_w, i32_w]
          rfl
        refine pure_ (i := 2) (N := some 48) (v := ?_) (a' := ?_) #[true, true, true, false, false, false, false, false, false, false, false, false, false, false, false, false, false, false, false, false, false, false, false, false, false, false, false, false, false, false] rfl rfl (by kernel_rfl) (fun _ _ _ h => h) (Or.inl ⟨by rfl, ?_⟩) ?_ ?_
        rotate_left
        · intro w'
          go_simp
          with_reducible rfl
        rotate_left
        · simp only [Act.put, List.setIfInBounds_toArray, List.set_cons_zero, List.set_cons_succ, i64_w, i32_w]
          rfl
        refine pure_ (i := 4) (N := some 50) (v := ?_) (a' := ?_) #[true, true, true, false, true, false, false, false, false, false, false, false, false, false, false, false, false, false, false, false, false, false, false, false, false, false, false, false, false, false] rfl rfl (by kernel_rfl) (fun _ _ _ h => h) (Or.inl ⟨by rfl, ?_⟩) ?_ ?_
        rotate_left
        · intro w'
          go_simp
          with_reducible rfl
        rotate_left
        · simp only [Act.put, List.setIfInBounds_toArray, List.set_cons_zero, List.set_cons_succ, i64_w, i32_w]
          rfl
        refine take_ (i := 3) (N := some 49) (v := ?_) (a' := ?_) #[true, true, true, true, true, false, false, false, false, false, false, false, false, false, false, false, false, false, false, false, false, false, false, false, false, false, false, false, false, false] rfl rfl (by kernel_rfl) (fun _ _ _ h => h) (Or.inl ⟨by rfl, ?_⟩) hHeld ?_ ?_
        rotate_left
        · rintro w' ⟨s0, s1, s2, s3, s4, s5, s6, s7⟩
          go_simp
          with_reducible rfl
        rotate_left
        · simp only [Act.put, List.setIfInBounds_toArray, List.set_cons_zero, List.set_cons_succ, i64_w, i32_w]
          rfl
        refine pure_ (i := 5) (N := some 51) (v := ?_) (a' := ?_) #[true, true, true, true, true, true, false, false, false, false, false, false, false, false, false, false, false, false, false, false, false, false, false, false, false, false, false, false, false, false] rfl rfl (by kernel_rfl) (fun _ _ _ h => h) (Or.inl ⟨by rfl, ?_⟩) ?_ ?_
        rotate_left
        · intro w'
          go_simp
          with_reducible rfl
        rotate_left
        · simp only [Act.put, List.setIfInBounds_toArray, List.set_cons_zero, List.set_cons_succ, i64_w, i32_w]
          rfl
        refine pure_ (i := 6) (N := some 52) (v := ?_) (a' := ?_) #[true, true, true, true, true, true, true, false, false, false, false, false, false, false, false, false, false, false, false, false, false, false, false, false, false, false, false, false, false, false] rfl rfl (by kernel_rfl) (fun _ _ _ h => h) (Or.inl ⟨by rfl, ?_⟩) ?_ ?_
        rotate_left
        · intro w'
          go_simp
          with_reducible rfl
        rotate_left
        · simp only [Act.put, List.setIfInBounds_toArray, List.set_cons_zero, List.set_cons_succ, i64_w, i32_w]
          rfl
        refine pure_ (i := 7) (N := some 53) (v := ?_) (a' := ?_) #[true, true, true, true, true, true, true, true, false, false, false, false, false, false, false, false, false, false, false, false, false, false, false, false, false, false, false, false, false, false] rfl rfl (by kernel_rfl) (fun _ _ _ h => h) (Or.inl ⟨by rfl, ?_⟩) ?_ ?_
        rotate_left
        · intro w'
          go_simp
          with_reducible rfl
        rotate_left
        · simp only [Act.put, List.setIfInBounds_toArray, List.set_cons_zero, List.set_cons_succ, i64_w, i32_w]
          rfl
        refine pure_ (i := 8) (N := some 54) (v := ?_) (a' := ?_) #[true, true, true, true, true, true, true, true, true, false, false, false, false, false, false, false, false, false, false, false, false, false, false, false, false, false, false, false, false, false] rfl rfl (by kernel_rfl) (fun _ _ _ h => h) (Or.inl ⟨by rfl, ?_⟩) ?_ ?_
        rotate_left
        · intro w'
          go_simp
          with_reducible rfl
        rotate_left
        · simp only [Act.put, List.setIfInBounds_toArray, List.set_cons_zero, List.set_cons_succ, i64_w, i32_w]
          rfl
        refine pure_ (i := 9) (N := some 55) (v := ?_) (a' := ?_) #[true, true, true, true, true, true, true, true, true, true, false, false, false, false, false, false, false, false, false, false, false, false, false, false, false, false, false, false, false, false] rfl rfl (by kernel_rfl) (fun _ _ _ h => h) (Or.inl ⟨by rfl, ?_⟩) ?_ ?_
        rotate_left
        · intro w'
          go_simp
          with_reducible rfl
        rotate_left
        · simp only [Act.put, List.setIfInBounds_toArray, List.set_cons_zero, List.set_cons_succ, i64_w, i32_w]
          rfl
        refine pure_ (i := 11) (N := some 57) (v := ?_) (a' := ?_) #[true, true, true, true, true, true, true, true, true, true, false, true, false, false, false, false, false, false, false, false, false, false, false, false, false, false, false, false, false, false] rfl rfl (by kernel_rfl) (fun _ _ _ h => h) (Or.inl ⟨by rfl, ?_⟩) ?_ ?_
        rotate_left
        · intro w'
          go_simp
          with_reducible rfl
        rotate_left
        · simp only [Act.put, List.setIfInBounds_toArray, List.set_cons_zero, List.set_cons_succ, i64_w, i32_w]
          rfl
        refine take_ (i := 10) (N := some 56) (v := ?_) (a' := ?_) #[true, true, true, true, true, true, true, true, true, true, true, true, false, false, false, false, false, false, false, false, false, false, false, false, false, false, false, false, false, false] rfl rfl (by kernel_rfl) (fun _ _ _ h => h) (Or.inl ⟨by rfl, ?_⟩) hHeld ?_ ?_
        rotate_left
        · rintro w' ⟨s0, s1, s2, s3, s4, s5, s6, s7⟩
          go_simp
          with_reducible rfl
        rotate_left
        · simp only [Act.put, List.setIfInBounds_toArray, List.set_cons_zero, List.set_cons_succ, i64_w, i32_w]
          rfl
        refine pure_ (i := 12) (N := some 58) (v := ?_) (a' := ?_) #[true, true, true, true, true, true, true, true, true, true, true, true, true, false, false, false, false, false, false, false, false, false, false, false, false, false, false, false, false, false] rfl rfl (by kernel_rfl) (fun _ _ _ h => h) (Or.inl ⟨by rfl, ?_⟩) ?_ ?_
        rotate_left
        · intro w'
          go_simp
          with_reducible rfl
        rotate_left
        · simp only [Act.put, List.setIfInBounds_toArray, List.set_cons_zero, List.set_cons_succ, i64_w, i32_w]
          rfl
        refine pure_ (i := 13) (N := some 59) (v := ?_) (a' := ?_) #[true, true, true, true, true, true, true, true, true, true, true, true, true, true, false, false, false, false, false, false, false, false, false, false, false, false, false, false, false, false] rfl rfl (by kernel_rfl) (fun _ _ _ h => h) (Or.inl ⟨by rfl, ?_⟩) ?_ ?_
        rotate_left
        · intro w'
          go_simp
          with_reducible rfl
        rotate_left
        · simp only [Act.put, List.setIfInBounds_toArray, List.set_cons_zero, List.set_cons_succ, i64_w, i32_w]
          rfl
        refine pure_ (i := 14) (N := some 60) (v := ?_) (a' := ?_) #[true, true, true, true, true, true, true, true, true, true, true, true, true, true, true, false, false, false, false, false, false, false, false, false, false, false, false, false, false, false] rfl rfl (by kernel_rfl) (fun _ _ _ h => h) (Or.inl ⟨by rfl, ?_⟩) ?_ ?_
        rotate_left
        · intro w'
          go_simp
          with_reducible rfl
        rotate_left
        · simp only [Act.put, List.setIfInBounds_toArray, List.set_cons_zero, List.set_cons_succ, i64_w, i32_w]
          rfl
        refine pure_ (i := 15) (N := some 61) (v := ?_) (a' := ?_) #[true, true, true, true, true, true, true, true, true, true, true, true, true, true, true, true, false, false, false, false, false, false, false, false, false, false, false, false, false, false] rfl rfl (by kernel_rfl) (fun _ _ _ h => h) (Or.inl ⟨by rfl, ?_⟩) ?_ ?_
        rotate_left
        · intro w'
          go_simp
          with_reducible rfl
        rotate_left
        · simp only [Act.put, List.setIfInBounds_toArray, List.set_cons_zero, List.set_cons_succ, i64_w, i32_w]
          rfl
        refine pure_ (i := 16) (N := some 62) (v := ?_) (a' := ?_) #[true, true, true, true, true, true, true, true, true, true, true, true, true, true, true, true, true, false, false, false, false, false, false, false, false, false, false, false, false, false] rfl rfl (by kernel_rfl) (fun _ _ _ h => h) (Or.inl ⟨by rfl, ?_⟩) ?_ ?_
        rotate_left
        · intro w'
          go_simp
          with_reducible rfl
        rotate_left
        · simp only [Act.put, List.setIfInBounds_toArray, List.set_cons_zero, List.set_cons_succ, i64_w, i32_w]
          rfl
        refine pure_ (i := 17) (N := some 63) (v := ?_) (a' := ?_) #[true, true, true, true, true, true, true, true, true, true, true, true, true, true, true, true, true, true, false, false, false, false, false, false, false, false, false, false, false, false] rfl rfl (by kernel_rfl) (fun _ _ _ h => h) (Or.inl ⟨by rfl, ?_⟩) ?_ ?_
        rotate_left
        · intro w'
          go_simp
          with_reducible rfl
        rotate_left
        · simp only [Act.put, List.setIfInBounds_toArray, List.set_cons_zero, List.set_cons_succ, i64_w, i32_w]
          rfl
        refine pure_ (i := 18) (N := some 64) (v := ?_) (a' := ?_) #[true, true, true, true, true, true, true, true, true, true, true, true, true, true, true, true, true, true, true, false, false, false, false, false, false, false, false, false, false, false] rfl rfl (by kernel_rfl) (fun _ _ _ h => h) (Or.inl ⟨by rfl, ?_⟩) ?_ ?_
        rotate_left
        · intro w'
          go_simp
          with_reducible rfl
        rotate_left
        · simp only [Act.put, List.setIfInBounds_toArray, List.set_cons_zero, List.set_cons_succ, i64_w, i32_w]
          rfl
        refine pure_ (i := 19) (N := some 65) (v := ?_) (a' := ?_) #[true, true, true, true, true, true, true, true, true, true, true, true, true, true, true, true, true, true, true, true, false, false, false, false, false, false, false, false, false, false] rfl rfl (by kernel_rfl) (fun _ _ _ h => h) (Or.inl ⟨by rfl, ?_⟩) ?_ ?_
        rotate_left
        · intro w'
          go_simp
          with_reducible rfl
        rotate_left
        · simp only [Act.put, List.setIfInBounds_toArray, List.set_cons_zero, List.set_cons_succ, i64_w, i32_w]
          rfl
        refine pure_ (i := 20) (N := some 66) (v := ?_) (a' := ?_) #[true, true, true, true, true, true, true, true, true, true, true, true, true, true, true, true, true, true, true, true, true, false, false, false, false, false, false, false, false, false] rfl rfl (by kernel_rfl) (fun _ _ _ h => h) (Or.inl ⟨by rfl, ?_⟩) ?_ ?_
        rotate_left
        · intro w'
          go_simp
          with_reducible rfl
        rotate_left
        · simp only [Act.put, List.setIfInBounds_toArray, List.set_cons_zero, List.set_cons_succ, i64_w, i32_w]
          rfl
        refine pure_ (i := 22) (N := some 68) (v := ?_) (a' := ?_) #[true, true, true, true, true, true, true, true, true, true, true, true, true, true, true, true, true, true, true, true, true, false, true, false, false, false, false, false, false, false] rfl rfl (by kernel_rfl) (fun _ _ _ h => h) (Or.inl ⟨by rfl, ?_⟩) ?_ ?_
        rotate_left
        · intro w'
          go_simp
          with_reducible rfl
        rotate_left
        · simp only [Act.put, List.setIfInBounds_toArray, List.set_cons_zero, List.set_cons_succ, i64_w, i32_w]
          rfl
        refine pure_ (i := 23) (N := some 69) (v := ?_) (a' := ?_) #[true, true, true, true, true, true, true, true, true, true, true, true, true, true, true, true, true, true, true, true, true, false, true, true, false, false, false, false, false, false] rfl rfl (by kernel_rfl) (fun _ _ _ h => h) (Or.inl ⟨by rfl, ?_⟩) ?_ ?_
        rotate_left
        · intro w'
          go_simp
          with_reducible rfl
        rotate_left
        · simp only [Act.put, List.setIfInBounds_toArray, List.set_cons_zero, List.set_cons_succ, i64_w, i32_w]
          rfl
        refine pure_ (i := 24) (N := some 70) (v := ?_) (a' := ?_) #[true, true, true, true, true, true, true, true, true, true, true, true, true, true, true, true, true, true, true, true, true, false, true, true, true, false, false, false, false, false] rfl rfl (by kernel_rfl) (fun _ _ _ h => h) (Or.inl ⟨by rfl, ?_⟩) ?_ ?_
        rotate_left
        · intro w'
          go_simp
          with_reducible rfl
        rotate_left
        · simp only [Act.put, List.setIfInBounds_toArray, List.set_cons_zero, List.set_cons_succ, i64_w, i32_w]
          rfl
        refine pure_ (i := 25) (N := some 71) (v := ?_) (a' := ?_) #[true, true, true, true, true, true, true, true, true, true, true, true, true, true, true, true, true, true, true, true, true, false, true, true, true, true, false, false, false, false] rfl rfl (by kernel_rfl) (fun _ _ _ h => h) (Or.inl ⟨by rfl, ?_⟩) ?_ ?_
        rotate_left
        · intro w'
          go_simp
          with_reducible rfl
        rotate_left
        · simp only [Act.put, List.setIfInBounds_toArray, List.set_cons_zero, List.set_cons_succ, i64_w, i32_w]
          rfl
        refine take_ (i := 21) (N := some 67) (v := ?_) (a' := ?_) #[true, true, true, true, true, true, true, true, true, true, true, true, true, true, true, true, true, true, true, true, true, true, true, true, true, true, false, false, false, false] rfl rfl (by kernel_rfl) (fun _ _ _ h => h) (Or.inl ⟨by rfl, ?_⟩) hHeld ?_ ?_
        rotate_left
        · rintro w' ⟨s0, s1, s2, s3, s4, s5, s6, s7⟩
          go_simp
          with_reducible rfl
        rotate_left
        · simp only [Act.put, List.setIfInBounds_toArray, List.set_cons_zero, List.set_cons_succ, i64_w, i32_w]
          rfl
        refine take_ (i := 26) (N := some 72) (v := ?_) (a' := ?_) #[true, true, true, true, true, true, true, true, true, true, true, true, true, true, true, true, true, true, true, true, true, true, true, true, true, true, true, false, false, false] rfl rfl (by kernel_rfl) (fun _ _ _ h => h) (Or.inl ⟨by rfl, ?_⟩) hHeld ?_ ?_
        rotate_left
        · rintro w' ⟨s0, s1, s2, s3, s4, s5, s6, s7⟩
          go_simp
          with_reducible rfl
        rotate_left
        · simp only [Act.put, List.setIfInBounds_toArray, List.set_cons_zero, List.set_cons_succ, i64_w, i32_w]
          rfl
        refine pure_ (i := 27) (N := some 73) (v := ?_) (a' := ?_) #[true, true, true, true, true, true, true, true, true, true, true, true, true, true, true, true, true, true, true, true, true, true, true, true, true, true, true, true, false, false] rfl rfl (by kernel_rfl) (fun _ _ _ h => h) (Or.inl ⟨by rfl, ?_⟩) ?_ ?_
        rotate_left
        · intro w'
          go_simp
          with_reducible rfl
        rotate_left
        · simp only [Act.put, List.setIfInBounds_toArray, List.set_cons_zero, List.set_cons_succ, i64_w, i32_w]
          rfl
        refine pure_ (i := 28) (N := some 74) (v := ?_) (a' := ?_) #[true, true, true, true, true, true, true, true, true, true, true, true, true, true, true, true, true, true, true, true, true, true, true, true, true, true, true, true, true, false] rfl rfl (by kernel_rfl) (fun _ _ _ h => h) (Or.inl ⟨by rfl, ?_⟩) ?_ ?_
        rotate_left
        · intro w'
          go_simp
          with_reducible rfl
        rotate_left
        · simp only [Act.put, List.setIfInBounds_toArray, List.set_cons_zero, List.set_cons_succ, i64_w, i32_w]
          rfl
        refine pure_ (i := 29) (N := some 75) (v := ?_) (a' := ?_) #[true, true, true, true, true, true, true, true, true, true, true, true, true, true, true, true, true, true, true, true, true, true, true, true, true, true, true, true, true, true] rfl rfl (by kernel_rfl) (fun _ _ _ h => h) (Or.inl ⟨by rfl, ?_⟩) ?_ ?_
        rotate_left
        · intro w'
          go_simp
          with_reducible rfl
        rotate_left
        · simp only [Act.put, List.setIfInBounds_toArray, List.set_cons_zero, List.set_cons_succ, i64_w, i32_w]
          rfl
        refine done_ (by kernel_rfl) ?_
        go_wp2_with fail
        exact ⟨⟨j + 1, by omega, by go_num, HSET.out, HEX2.out⟩, by simp [intOf]; omega⟩
      · have d4 : decide (0 < j) = false := decide_eq_false hj0
        have HSET := Lib.hid hset; have HEX2 := Lib.hid hex2
        clear hset hRB hUw hx hex2
        go_wp2_with fail
        refine start_ (n := 30) (S := fun w' => w'.cell? ⟨ug, j, none⟩ = some (.int .i64 ((q : Int) + 1)) ∧ (0 : Int) ≤ (j : Int) ∧ (j : Int) < (ul : Int)) (ds := []) #[false, false, false, false, false, false, false, false, false, false, false, false, false, false, false, false, false, false, false, false, false, false, false, false, false, false, false, false, false, false] (by kernel_rfl) rfl rfl ⟨hx0, b1, b2⟩ (fun hHeld => ?_)
        refine pure_ (i := 0) (N := some 46) (v := ?_) (a' := ?_) #[true, false, false, false, false, false, false, false, false, false, false, false, false, false, false, false, false, false, false, false, false, false, false, false, false, false, false, false, false, false] rfl rfl (by kernel_rfl) (fun _ _ _ h => h) (Or.inl ⟨by rfl, ?_⟩) ?_ ?_
        rotate_left
        · intro w'
          go_simp
          with_reducible rfl
        rotate_left
        · simp only [Act.put, List.setIfInBounds_toArray, List.set_cons_zero, List.set_cons_succ, i64_w, i32_w]
          rfl
        refine pure_ (i := 1) (N := some 47) (v := ?_) (a' := ?_) #[true, true, false, false, false, false, false, false, false, false, false, false, false, false, false, false, false, false, false, false, false, false, false, false, false, false, false, false, false, false] rfl rfl (by kernel_rfl) (fun _ _ _ h => h) (Or.inl ⟨by rfl, ?_⟩) ?_ ?_
        rotate_left
        · intro w'
          go_simp
          with_reducible rfl
        rotate_left
        · simp only [Act.put, List.setIfInBounds_toArray, List.set_cons_zero, List.set_cons_succ, i64_w, i32_w]
          rfl
        refine pure_ (i := 2) (N := some 48) (v := ?_) (a' := ?_) #[true, true, true, false, false, false, false, false, false, false, false, false, false, false, false, false, false, false, false, false, false, false, false, false, false, false, false, false, false, false] rfl rfl (by kernel_rfl) (fun _ _ _ h => h) (Or.inl ⟨by rfl, ?_⟩) ?_ ?_
        rotate_left
        · intro w'
          go_simp
          with_reducible rfl
        rotate_left
        · simp only [Act.put, List.setIfInBounds_toArray, List.set_cons_zero, List.set_cons_succ, i64_w, i32_w]
          rfl
        refine pure_ (i := 4) (N := some 50) (v := ?_) (a' := ?_) #[true, true, true, false, true, false, false, false, false, false, false, false, false, false, false, false, false, false, false, false, false, false, false, false, false, false, false, false, false, false] rfl rfl (by kernel_rfl) (fun _ _ _ h => h) (Or.inl ⟨by rfl, ?_⟩) ?_ ?_
        rotate_left
        · intro w'
          go_simp
          with_reducible rfl
        rotate_left
        · simp only [Act.put, List.setIfInBounds_toArray, List.set_cons_zero, List.set_cons_succ, i64_w, i32_w]
          rfl
        refine take_ (i := 3) (N := some 49) (v := ?_) (a' := ?_) #[true, true, true, true, true, false, false, false, false, false, false, false, false, false, false, false, false, false, false, false, false, false, false, false, false, false, false, false, false, false] rfl rfl (by kernel_rfl) (fun _ _ _ h => h) (Or.inl ⟨by rfl, ?_⟩) hHeld ?_ ?_
        rotate_left
        · rintro w' ⟨s0, s1, s2⟩
          go_simp
          with_reducible rfl
        rotate_left
        · simp only [Act.put, List.setIfInBounds_toArray, List.set_cons_zero, List.set_cons_succ, i64_w, i32_w]
          rfl
        refine pure_ (i := 5) (N := some 51) (v := ?_) (a' := ?_) #[true, true, true, true, true, true, false, false, false, false, false, false, false, false, false, false, false, false, false, false, false, false, false, false, false, false, false, false, false, false] rfl rfl (by kernel_rfl) (fun _ _ _ h => h) (Or.inl ⟨by rfl, ?_⟩) ?_ ?_
        rotate_left
        · intro w'
          go_simp
          with_reducible rfl
        rotate_left
        · simp only [Act.put, List.setIfInBounds_toArray, List.set_cons_zero, List.set_cons_succ, i64_w, i32_w]
          rfl
        refine pure_ (i := 6) (N := some 52) (v := ?_) (a' := ?_) #[true, true, true, true, true, true, true, false, false, false, false, false, false, false, false, false, false, false, false, false, false, false, false, false, false, false, false, false, false, false] rfl rfl (by kernel_rfl) (fun _ _ _ h => h) (Or.inl ⟨by rfl, ?_⟩) ?_ ?_
        rotate_left
        · intro w'
          go_simp
          with_reducible rfl
        rotate_left
        · simp only [Act.put, List.setIfInBounds_toArray, List.set_cons_zero, List.set_cons_succ, i64_w, i32_w]
          rfl
        refine pure_ (i := 7) (N := some 53) (v := ?_) (a' := ?_) #[true, true, true, true, true, true, true, true, false, false, false, false, false, false, false, false, false, false, false, false, false, false, false, false, false, false, false, false, false, false] rfl rfl (by kernel_rfl) (fun _ _ _ h => h) (Or.inl ⟨by rfl, ?_⟩) ?_ ?_
        rotate_left
        · intro w'
          go_simp
          with_reducible rfl
        rotate_left
        · simp only [Act.put, List.setIfInBounds_toArray, List.set_cons_zero, List.set_cons_succ, i64_w, i32_w]
          rfl
        refine pure_ (i := 8) (N := some 54) (v := ?_) (a' := ?_) #[true, true, true, true, true, true, true, true, true, false, false, false, false, false, false, false, false, false, false, false, false, false, false, false, false, false, false, false, false, false] rfl rfl (by kernel_rfl) (fun _ _ _ h => h) (Or.inl ⟨by rfl, ?_⟩) ?_ ?_
        rotate_left
        · intro w'
          go_simp
          with_reducible rfl
        rotate_left
        · simp only [Act.put, List.setIfInBounds_toArray, List.set_cons_zero, List.set_cons_succ, i64_w, i32_w]
          rfl
        refine pure_ (i := 9) (N := some 55) (v := ?_) (a' := ?_) #[true, true, true, true, true, true, true, true, true, true, false, false, false, false, false, false, false, false, false, false, false, false, false, false, false, false, false, false, false, false] rfl rfl (by kernel_rfl) (fun _ _ _ h => h) (Or.inl ⟨by rfl, ?_⟩) ?_ ?_
        rotate_left
        · intro w'
          go_simp
          with_reducible rfl
        rotate_left
        · simp only [Act.put, List.setIfInBounds_toArray, List.set_cons_zero, List.set_cons_succ, i64_w, i32_w]
          rfl
        refine pure_ (i := 11) (N := some 57) (v := ?_) (a' := ?_) #[true, true, true, true, true, true, true, true, true, true, false, true, false, false, false, false, false, false, false, false, false, false, false, false, false, false, false, false, false, false] rfl rfl (by kernel_rfl) (fun _ _ _ h => h) (Or.inl ⟨by rfl, ?_⟩) ?_ ?_
        rotate_left
        · intro w'
          go_simp
          with_reducible rfl
        rotate_left
        · simp only [Act.put, List.setIfInBounds_toArray, List.set_cons_zero, List.set_cons_succ, i64_w, i32_w]
          rfl
        refine take_ (i := 10) (N := some 56) (v := ?_) (a' := ?_) #[true, true, true, true, true, true, true, true, true, true, true, true, false, false, false, false, false, false, false, false, false, false, false, false, false, false, false, false, false, false] rfl rfl (by kernel_rfl) (fun _ _ _ h => h) (Or.inl ⟨by rfl, ?_⟩) hHeld ?_ ?_
        rotate_left
        · rintro w' ⟨s0, s1, s2⟩
          go_simp
          with_reducible rfl
        rotate_left
        · simp only [Act.put, List.setIfInBounds_toArray, List.set_cons_zero, List.set_cons_succ, i64_w, i32_w]
          rfl
        refine pure_ (i := 12) (N := some 58) (v := ?_) (a' := ?_) #[true, true, true, true, true, true, true, true, true, true, true, true, true, false, false, false, false, false, false, false, false, false, false, false, false, false, false, false, false, false] rfl rfl (by kernel_rfl) (fun _ _ _ h => h) (Or.inl ⟨by rfl, ?_⟩) ?_ ?_
        rotate_left
        · intro w'
          go_simp
          with_reducible rfl
        rotate_left
        · simp only [Act.put, List.setIfInBounds_toArray, List.set_cons_zero, List.set_cons_succ, i64_w, i32_w]
          rfl
        refine pure_ (i := 13) (N := some 59) (v := ?_) (a' := ?_) #[true, true, true, true, true, true, true, true, true, true, true, true, true, true, false, false, false, false, false, false, false, false, false, false, false, false, false, false, false, false] rfl rfl (by kernel_rfl) (fun _ _ _ h => h) (Or.inl ⟨by rfl, ?_⟩) ?_ ?_
        rotate_left
        · intro w'
          go_simp
          with_reducible rfl
        rotate_left
        · simp only [Act.put, List.setIfInBounds_toArray, List.set_cons_zero, List.set_cons_succ, i64_w, i32_w]
          rfl
        refine pure_ (i := 14) (N := some 60) (v := ?_) (a' := ?_) #[true, true, true, true, true, true, true, true, true, true, true, true, true, true, true, false, false, false, false, false, false, false, false, false, false, false, false, false, false, false] rfl rfl (by kernel_rfl) (fun _ _ _ h => h) (Or.inl ⟨by rfl, ?_⟩) ?_ ?_
        rotate_left
        · intro w'
          go_simp
          with_reducible rfl
        rotate_left
        · simp only [Act.put, List.setIfInBounds_toArray, List.set_cons_zero, List.set_cons_succ, i64_w, i32_w]
          rfl
        refine pure_ (i := 15) (N := some 61) (v := ?_) (a' := ?_) #[true, true, true, true, true, true, true, true, true, true, true, true, true, true, true, true, false, false, false, false, false, false, false, false, false, false, false, false, false, false] rfl rfl (by kernel_rfl) (fun _ _ _ h => h) (Or.inl ⟨by rfl, ?_⟩) ?_ ?_
        rotate_left
        · intro w'
          go_simp
          with_reducible rfl
        rotate_left
        · simp only [Act.put, List.setIfInBounds_toArray, List.set_cons_zero, List.set_cons_succ, i64_w, i32_w]
          rfl
        refine pure_ (i := 16) (N := some 62) (v := ?_) (a' := ?_) #[true, true, true, true, true, true, true, true, true, true, true, true, true, true, true, true, true, false, false, false, false, false, false, false, false, false, false, false, false, false] rfl rfl (by kernel_rfl) (fun _ _ _ h => h) (Or.inl ⟨by rfl, ?_⟩) ?_ ?_
        rotate_left
        · intro w'
          go_simp
          with_reducible rfl
        rotate_left
        · simp only [Act.put, List.setIfInBounds_toArray, List.set_cons_zero, List.set_cons_succ, i64_w, i32_w]
          rfl
        refine pure_ (i := 17) (N := some 63) (v := ?_) (a' := ?_) #[true, true, true, true, true, true, true, true, true, true, true, true, true, true, true, true, true, true, false, false, false, false, false, false, false, false, false, false, false, false] rfl rfl (by kernel_rfl) (fun _ _ _ h => h) (Or.inl ⟨by rfl, ?_⟩) ?_ ?_
        rotate_left
        · intro w'
          go_simp
          with_reducible rfl
        rotate_left
        · simp only [Act.put, List.setIfInBounds_toArray, List.set_cons_zero, List.set_cons_succ, i64_w, i32_w]
          rfl
        refine pure_ (i := 18) (N := some 64) (v := undef) (a' := ?_) #[true, true, true, true, true, true, true, true, true, true, true, true, true, true, true, true, true, true, true, false, false, false, false, false, false, false, false, false, false, false] rfl rfl (by kernel_rfl) (fun _ _ _ h => h) (Or.inr ⟨by rfl, rfl⟩) ?_ ?_
        rotate_left
        · simp only [Act.put, List.setIfInBounds_toArray, List.set_cons_zero, List.set_cons_succ, i64_w, i32_w]
          rfl
        refine pure_ (i := 19) (N := some 65) (v := undef) (a' := ?_) #[true, true, true, true, true, true, true, true, true, true, true, true, true, true, true, true, true, true, true, true, false, false, false, false, false, false, false, false, false, false] rfl rfl (by kernel_rfl) (fun _ _ _ h => h) (Or.inr ⟨by rfl, rfl⟩) ?_ ?_
        rotate_left
        · simp only [Act.put, List.setIfInBounds_toArray, List.set_cons_zero, List.set_cons_succ, i64_w, i32_w]
          rfl
        refine pure_ (i := 20) (N := some 66) (v := undef) (a' := ?_) #[true, true, true, true, true, true, true, true, true, true, true, true, true, true, true, true, true, true, true, true, true, false, false, false, false, false, false, false, false, false] rfl rfl (by kernel_rfl) (fun _ _ _ h => h) (Or.inr ⟨by rfl, rfl⟩) ?_ ?_
        rotate_left
        · simp only [Act.put, List.setIfInBounds_toArray, List.set_cons_zero, List.set_cons_succ, i64_w, i32_w]
          rfl
        refine pure_ (i := 21) (N := some 67) (v := undef) (a' := ?_) #[true, true, true, true, true, true, true, true, true, true, true, true, true, true, true, true, true, true, true, true, true, true, false, false, false, false, false, false, false, false] rfl rfl (by kernel_rfl) (fun _ _ _ h => h) (Or.inr ⟨by rfl, rfl⟩) ?_ ?_
        rotate_left
        · simp only [Act.put, List.setIfInBounds_toArray, List.set_cons_zero, List.set_cons_succ, i64_w, i32_w]
          rfl
        refine pure_ (i := 22) (N := some 68) (v := undef) (a' := ?_) #[true, true, true, true, true, true, true, true, true, true, true, true, true, true, true, true, true, true, true, true, true, true, true, false, false, false, false, false, false, false] rfl rfl (by kernel_rfl) (fun _ _ _ h => h) (Or.inr ⟨by rfl, rfl⟩) ?_ ?_
        rotate_left
        · simp only [Act.put, List.setIfInBounds_toArray, List.set_cons_zero, List.set_cons_succ, i64_w, i32_w]
          rfl
        refine pure_ (i := 23) (N := some 69) (v := undef) (a' := ?_) #[true, true, true, true, true, true, true, true, true, true, true, true, true, true, true, true, true, true, true, true, true, true, true, true, false, false, false, false, false, false] rfl rfl (by kernel_rfl) (fun _ _ _ h => h) (Or.inr ⟨by rfl, rfl⟩) ?_ ?_
        rotate_left
        · simp only [Act.put, List.setIfInBounds_toArray, List.set_cons_zero, List.set_cons_succ, i64_w, i32_w]
          rfl
        refine pure_ (i := 24) (N := some 70) (v := undef) (a' := ?_) #[true, true, true, true, true, true, true, true, true, true, true, true, true, true, true, true, true, true, true, true, true, true, true, true, true, false, false, false, false, false] rfl rfl (by kernel_rfl) (fun _ _ _ h => h) (Or.inr ⟨by rfl, rfl⟩) ?_ ?_
        rotate_left
        · simp only [Act.put, List.setIfInBounds_toArray, List.set_cons_zero, List.set_cons_succ, i64_w, i32_w]
          rfl
        refine pure_ (i := 25) (N := some 71) (v := undef) (a' := ?_) #[true, true, true, true, true, true, true, true, true, true, true, true, true, true, true, true, true, true, true, true, true, true, true, true, true, true, false, false, false, false] rfl rfl (by kernel_rfl) (fun _ _ _ h => h) (Or.inr ⟨by rfl, rfl⟩) ?_ ?_
        rotate_left
        · simp only [Act.put, List.setIfInBounds_toArray, List.set_cons_zero, List.set_cons_succ, i64_w, i32_w]
          rfl
        refine pure_ (i := 26) (N := some 72) (v := undef) (a' := ?_) #[true, true, true, true, true, true, true, true, true, true, true, true, true, true, true, true, true, true, true, true, true, true, true, true, true, true, true, false, false, false] rfl rfl (by kernel_rfl) (fun _ _ _ h => h) (Or.inr ⟨by rfl, rfl⟩) ?_ ?_
        rotate_left
        · simp only [Act.put, List.setIfInBounds_toArray, List.set_cons_zero, List.set_cons_succ, i64_w, i32_w]
          rfl
        refine pure_ (i := 27) (N := some 73) (v := undef) (a' := ?_) #[true, true, true, true, true, true, true, true, true, true, true, true, true, true, true, true, true, true, true, true, true, true, true, true, true, true, true, true, false, false] rfl rfl (by kernel_rfl) (fun _ _ _ h => h) (Or.inr ⟨by rfl, rfl⟩) ?_ ?_
        rotate_left
        · simp only [Act.put, List.setIfInBounds_toArray, List.set_cons_zero, List.set_cons_succ, i64_w, i32_w]
          rfl
        refine pure_ (i := 28) (N := some 74) (v := ?_) (a' := ?_) #[true, true, true, true, true, true, true, true, true, true, true, true, true, true, true, true, true, true, true, true, true, true, true, true, true, true, true, true, true, false] rfl rfl (by kernel_rfl) (fun _ _ _ h => h) (Or.inl ⟨by rfl, ?_⟩) ?_ ?_
        rotate_left
        · intro w'
          go_simp
          with_reducible rfl
        rotate_left
        · simp only [Act.put, List.setIfInBounds_toArray, List.set_cons_zero, List.set_cons_succ, i64_w, i32_w]
          rfl
        refine pure_ (i := 29) (N := some 75) (v := ?_) (a' := ?_) #[true, true, true, true, true, true, true, true, true, true, true, true, true, true, true, true, true, true, true, true, true, true, true, true, true, true, true, true, true, true] rfl rfl (by kernel_rfl) (fun _ _ _ h => h) (Or.inl ⟨by rfl, ?_⟩) ?_ ?_
        rotate_left
        · intro w'
          go_simp
          with_reducible rfl
        rotate_left
        · simp only [Act.put, List.setIfInBounds_toArray, List.set_cons_zero, List.set_cons_succ, i64_w, i32_w]
          rfl
        refine done_ (by kernel_rfl) ?_
        go_wp2_with fail
        exact ⟨⟨j + 1, by omega, by go_num, HSET.out, HEX2.out⟩, by simp [intOf]; omega⟩
    · have d1 : decide (j < ul) = false := decide_eq_false hj
      have hRB := by
        have := hRB
        rw [List.take_of_length_le (by rw [← HULL.out]; omega)] at this
        exact this
      have hw4 := HW3.out.keep hex (fun x hx hm => by have h8 := HSB.out x hx; simp at hm; omega)
      have ho4 : Own w wr S := ⟨HO3.out.ext.fresh hex (by simp; exact hwB), HO3.out.ge⟩
      have HW := Lib.hid hw4; have HOW := Lib.hid ho4; have HUW := Lib.hid hUw
      have HRBX := Lib.hid hRB
      clear hw4 ho4 hUw HW3 HO3 HU3 hex HSB hRB
      generalize hwo : wr = wb at *
      clear hwo
      go_wp2_with fail
      go_loopw [11] (fun iv wr => ∃ (j : Nat), j ≤ ul ∧ iv = .int .i64 j ∧ Ext [] wb wr) (fun iv _ => ul - (intOf iv).toNat)
      case atStart => exact ⟨0, Nat.zero_le _, rfl, Ext.refl _ _⟩
      case round =>
        obtain ⟨j, hju, rfl, hex⟩ := hrel
        by_cases hj : j < ul
        · have d1 : decide (j < ul) = true := decide_eq_true hj
          have hUw := HUW.out.keep hex (by simp)
          obtain ⟨x, hx⟩ : ∃ x, U[j]? = some x := ⟨_, List.getElem?_eq_getElem (by rw [← HULL.out]; exact hj)⟩
          have hxU := List.mem_of_getElem? hx
          obtain ⟨q, rfl, hiq, hqm⟩ := HUR.out x hxU
          have hx0 := hUw.cell encI_ok.len hx 0 (by omega)
          simp only [encI, Nat.add_zero, Nat.mul_one, List.getElem?_cons_zero] at hx0
          have b1 : (0 : Int) ≤ (j : Int) := by omega
          have b2 : (j : Int) < (ul : Int) := by omega
          have hV := HUND.out wr ((q : Int) + 1) (HW.out.keep0 hex)
          have hVl := HLN.out ((q : Int) + 1)
          have hVm := HUT.out q hxU
          generalize undS M ((q : Int) + 1) = V at hV hVl hVm
          obtain ⟨vl, hvl⟩ : ∃ vl, vl = V.length := ⟨_, rfl⟩
          have HV := Lib.hid hV; have HVM := Lib.hid hVm; have HVL := Lib.hid hvl
          rw [← hvl] at hVl
          clear hV hVm hvl hx hxU hUw
          go_wp2_with fail
          refine HV.out.mono ?_
          rintro e w5 ⟨va, vc, rfl, hvr, e5, hvf⟩
          rw [← HVL.out] at hvr ⊢
          have hrb := (HRBX.out.keep hex (by simp)).keep e5 (by simp)
          have HEX := Lib.hid (hex.trans e5 (by simp)); have HVR := Lib.hid hvr; have HRB := Lib.hid hrb
          clear hvr hvf hrb hex HV hx0
          go_wp2_with fail
          go_loop [13] (fun kv => ∃ (k : Nat), k ≤ vl ∧ kv = .int .i64 k) (fun kv => vl - (intOf kv).toNat)
          case atStart => exact ⟨0, Nat.zero_le _, rfl⟩
          case round =>
            obtain ⟨k, hkv, rfl⟩ := hrel
            by_cases hk : k < vl
            · have d3 : decide (k < vl) = true := decide_eq_true hk
              obtain ⟨z, hz⟩ : ∃ z, V[k]? = some z := ⟨_, List.getElem?_eq_getElem (by rw [← HVL.out]; exact hk)⟩
              have hzU := HVM.out z (List.mem_of_getElem? hz)
              obtain ⟨p, rfl, hip, hpm⟩ := HUR.out z hzU
              have hvr := HVR.out
              obtain ⟨vg, rfl, hvg⟩ := hvr.addr (by omega)
              have hz0 := hvr.cell encI_ok.len hz 0 (by omega)
              simp only [encI, Nat.add_zero, Nat.mul_one, List.getElem?_cons_zero] at hz0
              have hm0 := HRB.out.cell encB_ok.len (i := p + 1) (mkB_at (by omega)) 0 (by omega)
              rw [Nat.mul_one, Nat.add_zero] at hm0
              have hmt : hasI U (((p + 1 : Nat) : Int)) = true := hasI_mem.2 (by push_cast; exact hzU)
              rw [hmt] at hm0
              simp only [encB, List.getElem?_cons_zero] at hm0
              have c1 : (0 : Int) ≤ (k : Int) := by omega
              have c2 : (k : Int) < (vl : Int) := by omega
              have c3 : (0 : Int) ≤ (p : Int) + 1 := by omega
              have c4 : (p : Int) + 1 < (m : Int) + 1 := by omega
              have d4 : decide ((p : Int) + 1 < 1) = false := decide_eq_false (by omega)
              have d4' : decide ((p : Int) < 0) = false := decide_eq_false (by omega)
              have d5 : decide ((m : Int) < (p : Int) + 1) = false := decide_eq_false (by omega)
              have d5' : decide (m ≤ p) = false := decide_eq_false (by omega)
              clear hz hzU hvr hmt
              go_wp2_with fail
              exact ⟨⟨k + 1, by omega, by go_num⟩, by simp [intOf]; omega⟩
            · have d3 : decide (k < vl) = false := decide_eq_false hk
              go_wp2_with fail
              exact ⟨⟨j + 1, by omega, by go_num, HEX.out⟩, by simp [intOf]; omega⟩
        · have d1 : decide (j < ul) = false := decide_eq_false hj
          have hUw := HUW.out.keep hex (by simp)
          have hx0 := hUw.cell encI_ok.len (i := 0) (x := (i : Int) + 1) (by rw [HUC.out]; rfl) 0 (by omega)
          simp only [encI, Nat.add_zero, Nat.mul_one, List.getElem?_cons_zero] at hx0
          have d3 : decide (0 < ul) = true := decide_eq_true (by omega)
          have b3 : (0 : Int) < (ul : Int) := by omega
          have hV := HU2.out wr (HW.out.keep0 hex)
          have HV := Lib.hid hV
          clear hUw hV
          go_wp2_with fail
          refine HV.out.mono ?_
          rintro e w5 ⟨va, vc, rfl, hvr, e5, hvf⟩
          clear hvr hvf hx0
          go_wp2_with fail
          refine (awakeS_any _).mono ?_
          rintro e w6 ⟨rfl, e6⟩
          go_wp2_with fail
          go_ret
          exact ⟨rfl, ((HOW.out.ext.trans hex (by simp)).trans e5 (by simp)).trans e6 (by simp)⟩
end Go.Proofs.Ytmmhpjodnceipaa
