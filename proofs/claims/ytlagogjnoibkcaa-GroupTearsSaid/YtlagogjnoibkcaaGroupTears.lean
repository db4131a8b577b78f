/- GroupTears: the plain law and its walk. -/
import Derived.Test.YtlagogjnoibkcaaGrAwake
namespace Go.Proofs.Ytlagogjnoibkcaa
open Go.RowKit Go.Proofs.YtlagogjnoibkcaaW.PrintLast
set_option linter.unusedVariables false
set_option linter.unusedSimpArgs false

/-- The numbers 3 (i + 1), .., 3 k. -/
def idsB (i k : Nat) : List Int := (List.range' (i + 1) (k - i)).map fun (j : Nat) => 3 * (j : Int)
theorem idsB_len (i k : Nat) : (idsB i k).length = k - i := by simp [idsB]
theorem idsB_mem {i k : Nat} {x : Int} (h : x ∈ idsB i k) : ∃ j : Nat, i < j ∧ j ≤ k ∧ x = 3 * (j : Int) := by
  unfold idsB at h
  obtain ⟨j, hj, rfl⟩ := List.mem_map.1 h
  rw [List.mem_range'_1] at hj
  exact ⟨j, by omega, by omega, rfl⟩
theorem idsB_sort (i k : Nat) : (idsB i k).Pairwise (· < ·) := by
  unfold idsB
  rw [List.pairwise_map]
  exact (List.pairwise_lt_range' (s := i + 1) (n := k - i)).imp (fun h => by omega)
theorem idsB_self (k : Nat) : idsB k k = [] := by simp [idsB]
theorem idsB_cons {i k : Nat} (h : i < k) : idsB i k = 3 * ((i : Int) + 1) :: idsB (i + 1) k := by
  unfold idsB
  obtain ⟨m, hm⟩ : ∃ m, k - i = m + 1 := ⟨k - i - 1, by omega⟩
  rw [hm, show k - (i + 1) = m by omega, List.range'_succ, List.map_cons]
  rfl
theorem idsB_snoc (j : Nat) : idsB 0 (j + 1) = idsB 0 j ++ [3 * ((j : Int) + 1)] := by
  unfold idsB
  simp only [Nat.sub_zero, Nat.zero_add]
  rw [List.range'_1_concat, List.map_append]
  simp
  omega
theorem idsB_at {j k : Nat} (h : j < k) : (idsB 0 k)[j]? = some (3 * ((j : Int) + 1)) := by
  unfold idsB
  rw [List.getElem?_map, List.getElem?_range' (by omega)]
  simp
  omega

theorem ok2 {a c : List Int} {t u : Bool} (h : a.length < 100000) (h' : c.length < 100000) : OkG [⟨a, t⟩, ⟨c, u⟩] := fun s hs => by
  simp at hs
  rcases hs with rfl | rfl
  · exact h
  · exact h'
theorem so2 {a c : List Int} {t u : Bool} (h : a.Pairwise (· < ·)) (h' : c.Pairwise (· < ·)) : SortG [⟨a, t⟩, ⟨c, u⟩] := fun s hs => by
  simp at hs
  rcases hs with rfl | rfl
  · exact h
  · exact h'
theorem of_none2 {a c : List Int} {t u : Bool} {z : Int} (h : z ∉ a) (h' : z ∉ c) : ofG [⟨a, t⟩, ⟨c, u⟩] z = 0 := by
  unfold ofG
  have h1 : inA z ⟨a, t⟩ = false := by unfold inA hasI; rw [List.any_eq_false]; intro y hy; simp; exact fun e => h (e ▸ hy)
  have h2 : inA z ⟨c, u⟩ = false := by unfold inA hasI; rw [List.any_eq_false]; intro y hy; simp; exact fun e => h' (e ▸ hy)
  rw [idxI_none (p := inA z) (xs := [⟨a, t⟩, ⟨c, u⟩]) (fun j x hx => by
    match j, hx with
    | 0, hx => simp at hx; subst hx; exact h1
    | 1, hx => simp at hx; subst hx; exact h2)]
  rfl
theorem join_lo {i k : Nat} (h : i < k) : joinG [⟨idsB (i + 1) k, false⟩, ⟨[], false⟩] 1 (3 * ((i : Int) + 1)) = (0, [⟨idsB i k, false⟩, ⟨[], false⟩]) := by
  have hni : (3 * ((i : Int) + 1)) ∉ idsB (i + 1) k := fun hm => by
    obtain ⟨j, h1, h2, h3⟩ := idsB_mem hm
    omega
  have hc : (idsB (i + 1) k).countP (fun x => decide (x < 3 * ((i : Int) + 1))) = 0 := by
    rw [List.countP_eq_zero]
    intro x hx
    obtain ⟨j, h1, h2, h3⟩ := idsB_mem hx
    simp; omega
  have hins : insG (3 * ((i : Int) + 1)) (idsB (i + 1) k) = idsB i k := by
    unfold insG
    rw [hc, idsB_cons h]; rfl
  unfold joinG
  rw [if_neg (by simp [hasM])]
  show (if false = true then _ else _) = _
  rw [if_neg (by decide), if_neg (by omega), if_neg (by rw [of_none2 hni (by simp)]; decide)]
  show (0, [(⟨insG (3 * ((i : Int) + 1)) (idsB (i + 1) k), false⟩ : Gk), ⟨[], false⟩]) = _
  rw [hins]
theorem join_hi (j : Nat) : joinG [⟨[], true⟩, ⟨idsB 0 j, false⟩] 2 (3 * ((j : Int) + 1)) = (0, [⟨[], true⟩, ⟨idsB 0 (j + 1), false⟩]) := by
  have hni : (3 * ((j : Int) + 1)) ∉ idsB 0 j := fun hm => by
    obtain ⟨q, h1, h2, h3⟩ := idsB_mem hm
    omega
  have hc : (idsB 0 j).countP (fun x => decide (x < 3 * ((j : Int) + 1))) = (idsB 0 j).length := by
    rw [List.countP_eq_length]
    intro x hx
    obtain ⟨q, h1, h2, h3⟩ := idsB_mem hx
    simp; omega
  have hins : insG (3 * ((j : Int) + 1)) (idsB 0 j) = idsB 0 (j + 1) := by
    unfold insG
    rw [hc, List.take_length, List.drop_length, idsB_snoc]
  unfold joinG
  rw [if_neg (by simp [hasM])]
  show (if false = true then _ else _) = _
  rw [if_neg (by decide), if_neg (by omega), if_neg (by rw [of_none2 (by simp) hni]; decide)]
  show (0, [(⟨[], true⟩ : Gk), ⟨insG (3 * ((j : Int) + 1)) (idsB 0 j), false⟩]) = _
  rw [hins]
theorem w3i {i : Nat} (h : i < 1000000) : wrap64 (3 * ((i : Int) + 1)) = 3 * ((i : Int) + 1) := by unfold wrap64; omega

set_option maxHeartbeats 16000000 in
set_option maxRecDepth 100000 in
theorem groupTears_walk (w : World) (nn : Int) (_hn : (Lit.int .i64 nn).wf = true) :
    Calls Try.prog 6 #[.int .i64 nn] w fun e w' => e = .returned (.bool true) ∧ Ext [] w w' := by
  clear _hn
  have hLow := low_any nn 60 (by omega) (by omega)
  have hb := lowI_bd nn 60 (by omega)
  obtain ⟨k, hk⟩ : ∃ k : Nat, lowI nn 60 = (k : Int) := ⟨(lowI nn 60).toNat, by omega⟩
  rw [hk] at hLow hb
  have hk60 : k < 60 := by omega
  have HLOW := Lib.hid hLow
  have m0 : makeM [] = ((1, 0), [⟨[], false⟩]) := by kernel_rfl
  have m1 : makeM [⟨[], false⟩] = ((2, 0), [⟨[], false⟩, ⟨[], false⟩]) := by kernel_rfl
  have c0 := fun b S w h => gs_make_at m0 (b := b) (S := S) w h
  have c1 := fun b S w h => gs_make_at m1 (b := b) (S := S) w h
  have C0 := Lib.hid c0; have C1 := Lib.hid c1
  clear hLow hb hk c0 c1 m0 m1
  go_enter Try.func6, Try.ntmps6
  go_wp2_with fail
  refine (HLOW.out _).mono ?_
  rintro e w1 ⟨rfl, rfl⟩
  go_wp2_with fail
  refine (gs_new w).mono ?_
  rintro e w1 ⟨rfl, h1, e1⟩
  have o1 := Own.start e1 (S := [w.heap.size]) (by simp)
  obtain ⟨b, hb⟩ : ∃ b, w.heap.size = b := ⟨_, rfl⟩
  rw [hb] at h1 o1
  clear e1
  go_wp2_with fail
  clear hb
  refine (C0.out b _ _ h1).mono ?_
  rintro e w2 ⟨rfl, S2, h2, e2, g2⟩
  have o2 := o1.step e2 g2
  clear o1 h1 e2 g2
  go_wp2_with fail
  refine (C1.out b _ _ h2).mono ?_
  rintro e w3 ⟨rfl, S3, h3, e3, g3⟩
  have o3 := o2.step e3 g3
  clear o2 h2 e3 g3 C0 C1 HLOW
  rw [show ([] : List Int) = idsB k k from (idsB_self k).symm] at h3
  have h3 : GS w3 b S3 [⟨idsB k k, false⟩, ⟨[], false⟩] := by
    have := h3
    rw [idsB_self] at this ⊢
    exact this
  go_wp2_with fail
  go_loopw [5] (fun iv wr => ∃ (i : Nat) (S : List Nat), i ≤ k ∧ iv = .int .i64 i ∧ GS wr b S [⟨idsB i k, false⟩, ⟨[], false⟩] ∧ Own w wr S) (fun iv _ => (intOf iv).toNat)
  case atStart => exact ⟨k, S3, Nat.le_refl _, rfl, h3, o3⟩
  case round =>
    obtain ⟨i, S, hik, rfl, hw, ow⟩ := hrel
    clear h3 o3
    by_cases hi : 1 ≤ i
    · obtain ⟨j, hj⟩ : ∃ j, i = j + 1 := ⟨i - 1, by omega⟩
      have d1 : decide (1 ≤ (i : Int)) = true := decide_eq_true (by omega)
      have d1' : decide (1 ≤ i) = true := decide_eq_true hi
      have hjk : j < k := by omega
      have hij : (i : Int) = (j : Int) + 1 := by omega
      rw [hj] at hw
      have hc := gs_join_at (join_lo hjk) (by simp) (ok2 (by rw [idsB_len]; omega) (by simp)) (so2 (idsB_sort _ _) (by simp)) wr hw
      rw [← hij] at hc
      have f1 : wrap64 (3 * (i : Int)) = 3 * (i : Int) := by unfold wrap64; omega
      have HC := Lib.hid hc; have HOW := Lib.hid ow; have HJ := Lib.hid hj; have HIJ := Lib.hid hij
      clear hc hw ow hj hij
      go_wp2_with fail
      refine HC.out.mono ?_
      rintro e w4 ⟨rfl, S4, h4, e4, g4⟩
      have H4 := Lib.hid h4; have O4 := Lib.hid (HOW.out.step e4 g4)
      have f2 : wrap64 ((i : Int) - 1) = (i : Int) - 1 := by unfold wrap64; omega
      clear h4 e4 g4 f1
      go_wp2_with fail
      have := HJ.out
      exact ⟨⟨j, S4, by omega, by rw [show ((i : Int) - 1) = (j : Int) by omega], H4.out, O4.out⟩, by simp [intOf]; omega⟩
    · have d1 : decide (1 ≤ (i : Int)) = false := decide_eq_false (by omega)
      have d1' : decide (1 ≤ i) = false := decide_eq_false hi
      have hi0 : i = 0 := by omega
      rw [hi0] at hw
      have t1 : tearG [⟨idsB 0 k, false⟩, ⟨[], false⟩] 1 = ((idsB 0 k, 0), [⟨[], true⟩, ⟨[], false⟩]) := rfl
      have hc := gs_tear_at t1 (n := k) (by rw [idsB_len]; omega) (by simp) wr hw
      have l1 : liveG [⟨[], true⟩, ⟨[], false⟩] 1 = false := by kernel_rfl
      have l2 : liveG [⟨[], true⟩, ⟨[], false⟩] 2 = true := by kernel_rfl
      have l3 : memG [⟨[], true⟩, ⟨[], false⟩] 1 = [] := by kernel_rfl
      have l4 : joinG [⟨[], true⟩, ⟨[], false⟩] 1 1 = (13, [⟨[], true⟩, ⟨[], false⟩]) := by kernel_rfl
      have c1 := fun S w h => gs_live b S [⟨[], true⟩, ⟨[], false⟩] 1 (by simp) w h
      have c2 := fun S w h => gs_live b S [⟨[], true⟩, ⟨[], false⟩] 2 (by simp) w h
      have c3 := fun S w h => gs_members b S [⟨[], true⟩, ⟨[], false⟩] 1 (by simp) (ok2 (by simp) (by simp)) w h
      have c4 := fun S w h => gs_join_at l4 (by simp) (ok2 (by simp) (by simp)) (so2 (by simp) (by simp)) (b := b) (S := S) w h
      rw [l1] at c1; rw [l2] at c2; rw [l3] at c3
      unfold MemP at c3
      have HC := Lib.hid hc; have HOW := Lib.hid ow; have C1 := Lib.hid c1; have C2 := Lib.hid c2; have C3 := Lib.hid c3; have C4 := Lib.hid c4
      clear hc hw ow c1 c2 c3 c4 t1 l1 l2 l3 l4 hi0
      go_wp2_with fail
      refine HC.out.mono ?_
      rintro e w4 ⟨la, lc, rfl, hr4, S4, ⟨h4, n4⟩, e4, g4⟩
      have o4 := HOW.out.step e4 g4
      have HR4 := Lib.hid hr4
      clear e4 g4 HOW HC hr4
      go_wp2_with fail
      refine (C1.out _ _ h4).mono ?_
      rintro e w5 ⟨rfl, rfl⟩
      go_wp2_with fail
      refine (C2.out _ _ h4).mono ?_
      rintro e w5 ⟨rfl, rfl⟩
      go_wp2_with fail
      refine (C3.out _ _ h4).mono ?_
      rintro e w5 ⟨ma, mc, rfl, hr5, e5, f5⟩
      have h5 := h4.keep0 e5
      have o5 := o4.quiet e5
      have HR5 := Lib.hid (HR4.out.keep e5 (by simp))
      clear h4 o4 hr5 f5 e5 HR4
      go_wp2_with fail
      refine (C4.out _ _ h5).mono ?_
      rintro e w6 ⟨rfl, S6, h6, e6, g6⟩
      have o6 := o5.step e6 g6
      have hlt5 := HR5.out.lt
      have hr6 := HR5.out.keep e6 (fun y hy hm => n4.out y hy hm)
      have n6 : Hid (∀ y, (Value.slice la k lc).ownBlock = some y → y ∉ S6) := fun y hy hm => by
        rcases g6 y hm with h8 | h8
        · exact n4.out y hy h8
        · have := hlt5 y hy; omega
      clear h5 o5 e6 g6 hlt5 n4 HR5 C1 C2 C3 C4
      go_wp2_with fail
      go_loopw [8] (fun jv wr => ∃ (j : Nat) (S : List Nat), j ≤ k ∧ jv = .int .i64 j ∧ GS wr b S [⟨[], true⟩, ⟨idsB 0 j, false⟩] ∧ Own w wr S ∧ RI wr (.slice la k lc) (idsB 0 k) ∧ Hid (∀ y, (Value.slice la k lc).ownBlock = some y → y ∉ S)) (fun jv _ => k - (intOf jv).toNat)
      case atStart => exact ⟨0, S6, Nat.zero_le _, rfl, by rw [idsB_self]; exact h6, o6, hr6, n6⟩
      case round =>
        obtain ⟨j, S, hjk, rfl, hw, ow, hr, hn⟩ := hrel
        clear h6 o6 hr6 n6
        by_cases hj : j < k
        · have d2 : decide (j < k) = true := decide_eq_true hj
          obtain ⟨lg, hla, hlg⟩ := hr.addr (by omega)
          have hc := gs_join_at (join_hi j) (by simp) (ok2 (by simp) (by rw [idsB_len]; omega)) (so2 (by simp) (idsB_sort _ _)) wr hw
          have hr2 := hr
          rw [hla] at hr2 ⊢
          have x0 := hr2.cell encI_ok.len (idsB_at hj) 0 (by omega)
          simp only [encI, Nat.add_zero, Nat.mul_one, List.getElem?_cons_zero] at x0
          have b3 : (0 : Int) ≤ (j : Int) := by omega
          have b4 : (j : Int) < (k : Int) := by omega
          have hj6 : j < 1000000 := by omega
          have HC := Lib.hid hc; have HOW := Lib.hid ow; have HR := Lib.hid hr; have HLA := Lib.hid hla
          clear hc hw ow hr hr2 hla
          have f1 := ws2 hj6
          have f2 := w3i hj6
          go_wp2_with fail
          refine HC.out.mono ?_
          rintro e w4 ⟨rfl, S4, h4, e4, g4⟩
          have hlt := HR.out.lt
          have n4 : Hid (∀ y, (Value.slice la k lc).ownBlock = some y → y ∉ S4) := fun y hy hm => by
            rcases g4 y hm with h8 | h8
            · exact hn.out y hy h8
            · have := hlt y hy; omega
          have H4 := Lib.hid h4; have O4 := Lib.hid (HOW.out.step e4 g4); have HR4 := Lib.hid (HR.out.keep e4 (fun y hy hm => hn.out y hy hm))
          clear h4 e4 g4 hlt f1 f2
          have f1 := ws2 hj6
          go_wp2_with fail
          clear f1
          rw [← HLA.out]
          exact ⟨⟨j + 1, S4, by omega, by go_num, H4.out, O4.out, HR4.out, n4⟩, by simp [intOf]; omega⟩
        · have d2 : decide (j < k) = false := decide_eq_false hj
          have hjk2 : j = k := by omega
          rw [hjk2] at hw
          have t1 : tearG [⟨[], true⟩, ⟨idsB 0 k, false⟩] 1 = (([], 13), [⟨[], true⟩, ⟨idsB 0 k, false⟩]) := rfl
          have t3 : tearG [⟨[], true⟩, ⟨idsB 0 k, false⟩] 3 = (([], 11), [⟨[], true⟩, ⟨idsB 0 k, false⟩]) := rfl
          have t2 : memG [⟨[], true⟩, ⟨idsB 0 k, false⟩] 2 = idsB 0 k := rfl
          have c1 := fun S w h => gs_tear_at t1 (n := 0) rfl (by simp) (b := b) (S := S) w h
          have c3 := fun S w h => gs_tear_at t3 (n := 0) rfl (by simp) (b := b) (S := S) w h
          have c2 := fun S w h => gs_members b S [⟨[], true⟩, ⟨idsB 0 k, false⟩] 2 (by simp) (ok2 (by simp) (by rw [idsB_len]; omega)) w h
          rw [t2] at c2
          unfold MemP at c2
          rw [idsB_len, Nat.sub_zero] at c2
          have C1 := Lib.hid c1; have C2 := Lib.hid c2; have C3 := Lib.hid c3
          clear c1 c2 c3 t1 t2 t3 hjk2 hr hn
          go_wp2_with fail
          refine (C1.out _ _ hw).mono ?_
          rintro e w4 ⟨_, _, rfl, _, S4, ⟨h4, _⟩, e4, g4⟩
          have o4 := ow.step e4 g4
          clear hw ow e4 g4
          go_wp2_with fail
          refine (C3.out _ _ h4).mono ?_
          rintro e w5 ⟨_, _, rfl, _, S5, ⟨h5, _⟩, e5, g5⟩
          have o5 := o4.step e5 g5
          clear h4 o4 e5 g5
          go_wp2_with fail
          refine (C2.out _ _ h5).mono ?_
          rintro e w6 ⟨ma, mc, rfl, _, e6, _⟩
          have o6 := o5.quiet e6
          clear h5 o5 e6
          go_wp2_with fail
          refine (awakeG_any _).mono ?_
          rintro e w7 ⟨rfl, e7⟩
          go_wp2_with fail
          go_ret
          exact ⟨rfl, (o6.quiet e7).ext⟩
end Go.Proofs.Ytlagogjnoibkcaa
