/- TimerStages: its walk. -/
import Derived.Test.YtlnablnnnnkeaaaInts
namespace Go.Proofs.Ytlnablnnnnkeaaa
open Go.RowKit Go.Proofs.YtlnablnnnnkeaaaW.PrintLast
set_option linter.unusedVariables false
set_option linter.unusedSimpArgs false

/-- What the first i calls of Arm arm, the last one first; the tags begin with c. -/
def arms (zs : List Int) (c : Int) : Nat → List One
  | 0 => []
  | i + 1 => match zs[i]? with
    | some z => ⟨z, i + 1, c + i⟩ :: arms zs c i
    | none => arms zs c i
theorem arms_succ {zs : List Int} {c : Int} {i : Nat} {z : Int} (h : zs[i]? = some z) : arms zs c (i + 1) = ⟨z, (i : Int) + 1, c + i⟩ :: arms zs c i := by rw [arms, h]
theorem arms_len (zs : List Int) (c : Int) : ∀ i, i ≤ zs.length → (arms zs c i).length = i
  | 0, _ => rfl
  | i + 1, h => by
    rw [arms_succ (List.getElem?_eq_getElem (show i < zs.length by omega)), List.length_cons, arms_len zs c i (by omega)]
theorem arms_mem (zs : List Int) (c : Int) : ∀ i t, t ∈ arms zs c i → ∃ j : Nat, j < i ∧ zs[j]? = some t.at_ ∧ t.id = (j : Int) + 1 ∧ t.tag = c + j
  | 0, t, h => by simp [arms] at h
  | i + 1, t, h => by
    rw [arms] at h
    split at h
    · rename_i z hz
      rcases List.mem_cons.1 h with rfl | h
      · exact ⟨i, by omega, hz, rfl, rfl⟩
      · obtain ⟨j, h1, h2⟩ := arms_mem zs c i t h
        exact ⟨j, by omega, h2⟩
    · obtain ⟨j, h1, h2⟩ := arms_mem zs c i t h
      exact ⟨j, by omega, h2⟩
/-- The number tells the timer. -/
def Uniq (L : List One) : Prop := ∀ a ∈ L, ∀ b ∈ L, a.id = b.id → a = b
theorem arms_uniq (zs : List Int) (c : Int) (i : Nat) : Uniq (arms zs c i) := by
  intro a ha b hb hab
  obtain ⟨j, _, h1, h2, h3⟩ := arms_mem zs c i a ha
  obtain ⟨k, _, k1, k2, k3⟩ := arms_mem zs c i b hb
  have : j = k := by omega
  subst this
  rw [h1] at k1
  injection k1 with k1
  cases a; cases b
  simp at *
  exact ⟨k1, hab, by omega⟩

theorem dues_eq {L D D' : List One} (hu : Uniq L) (h1 : D.Pairwise leO) (h2 : D'.Pairwise leO) (hs : ∀ t ∈ D, t ∈ L) (hp : D.Perm D') : D = D' := by
  refine List.Perm.eq_of_pairwise ?_ h1 h2 hp
  intro a b ha hb hab hba
  rw [leO_iff] at hab hba
  exact hu a (hs a ha) b (hs b (hp.mem_iff.2 hb)) (by omega)

theorem filt {mx : Int} {L D R : List One} (hp : (D ++ R).Perm L) (h1 : ∀ t ∈ D, t.at_ ≤ mx) (h2 : ∀ t ∈ R, mx < t.at_) : D.Perm (L.filter (fun t => decide (t.at_ ≤ mx))) := by
  have := hp.filter (fun t => decide (t.at_ ≤ mx))
  rw [List.filter_append, List.filter_eq_self.2 (fun t ht => decide_eq_true (h1 t ht)), List.filter_eq_nil_iff.2 (fun t ht => by have := h2 t ht; simp; omega), List.append_nil] at this
  exact this

theorem two_dues {mn mx : Int} {L D1 R1 D2 R2 D3 R3 : List One} (hm : mn ≤ mx) (hu : Uniq L) (h1 : Dues mn L D1 R1) (h2 : Dues mx R1 D2 R2) (k2 : ∀ t ∈ R2, mx < t.at_) (h3 : Dues mx L D3 R3) (k3 : ∀ t ∈ R3, mx < t.at_) : D1 ++ D2 = D3 := by
  have hp : ((D1 ++ D2) ++ R2).Perm L := by
    rw [List.append_assoc]
    exact (List.Perm.append_left D1 h2.perm).trans h1.perm
  have hle : ∀ t ∈ D1 ++ D2, t.at_ ≤ mx := by
    intro t ht
    rcases List.mem_append.1 ht with ht | ht
    · have := h1.due t ht; omega
    · exact h2.due t ht
  refine dues_eq hu ?_ h3.sort (fun t ht => hp.mem_iff.1 (List.mem_append_left _ ht)) ((filt hp hle k2).trans (filt h3.perm h3.due k3).symm)
  rw [List.pairwise_append]
  exact ⟨h1.sort, h2.sort, fun a ha b hb => h1.rest a ha b (h2.perm.mem_iff.1 (List.mem_append_left _ hb))⟩

theorem own_apart {S S' T : List Nat} {N : Nat} (h : ∀ x ∈ S, x ∉ T) (k : ∀ x ∈ S', x ∈ S ∨ N ≤ x) (ht : ∀ x ∈ T, x < N) : ∀ x ∈ S', x ∉ T := by
  intro x hx hxt
  rcases k x hx with h1 | h1
  · exact h x h1 hxt
  · have := ht x hxt; omega
theorem apart_symm {S T : List Nat} (h : ∀ x ∈ S, x ∉ T) : ∀ x ∈ T, x ∉ S := fun x hx hs => h x hs hx

set_option maxHeartbeats 6400000 in
theorem timerStages_walk (w : World) (al : Option Addr) (nl cl : Nat) (zs : List Int) (hz : Slc (encI .u64) 1 w al nl zs) (gz : ∀ z ∈ zs, (Lit.int .u64 z).wf = true) (a : Int) (ha : (Lit.int .u64 a).wf = true) (b : Int) (hb : (Lit.int .u64 b).wf = true) :
    Calls Try.prog 3 #[.slice al nl cl, .int .u64 a, .int .u64 b] w fun e w' => e = .returned (.bool true) ∧ Ext [] w w' := by
  have hlen := hz.1
  by_cases hbig : 100 < nl
  · have d1 : decide (100 < nl) = true := decide_eq_true hbig
    go_enter Try.func3, Try.ntmps3
    go_wp2_with fail
    refine (awake_any w).mono ?_
    rintro e w1 ⟨rfl, h1⟩
    go_wp2_with fail
    go_ret
    exact ⟨rfl, h1⟩
  · have d1 : decide (100 < nl) = false := decide_eq_false hbig
    have hm : clampM 100 = 100 := by decide
    obtain ⟨mn, mx, hmm, hc⟩ : ∃ mn mx : Int, mn ≤ mx ∧ ((a < b ∧ a = mn ∧ b = mx) ∨ (a = mn ∧ b = mn ∧ mx = mn) ∨ (b < a ∧ b = mn ∧ a = mx)) := by
      rcases Int.lt_trichotomy a b with h | h | h
      · exact ⟨a, b, by omega, .inl ⟨h, rfl, rfl⟩⟩
      · exact ⟨a, a, by omega, .inr (.inl ⟨rfl, h.symm, rfl⟩)⟩
      · exact ⟨b, a, by omega, .inr (.inr ⟨h, rfl, rfl⟩)⟩
    go_enter Try.func3, Try.ntmps3
    go_wp2_with fail
    refine (wo_new 100 w).mono ?_
    rintro e w1 ⟨rfl, h1, e1⟩
    rw [hm] at h1
    have h1' := h1
    go_wp2_with fail
    refine (wo_new 100 w1).mono ?_
    rintro e w2 ⟨rfl, h2, e2⟩
    rw [hm] at h2
    have h1 := h1.keep e2 (by simp)
    have e02 := e1.trans e2 (by simp)
    have hltA := h1'.lt
    have hlt := h1.lt
    have hlt1 : w.heap.size < w1.heap.size := hltA _ (by simp)
    have LT := Lib.hid hlt1
    clear hlt hltA hlt1 e1 e2
    have HC := Lib.hid hc
    clear hc
    go_wp2_with fail
    go_loopw [9] (fun iv wr => ∃ (i : Nat) (S1 S2 : List Nat), i ≤ nl ∧ iv = .int .i64 i ∧ WO wr w.heap.size S1 (arms zs 0 i) 100 i ∧ WO wr w1.heap.size S2 (arms zs 0 i) 100 i ∧ Ext [] w wr ∧ (∀ x ∈ S1, w.heap.size ≤ x) ∧ (∀ x ∈ S2, w.heap.size ≤ x) ∧ (∀ x ∈ S1, x ∉ S2)) (fun iv _ => nl - (intOf iv).toNat)
    case atStart => exact ⟨0, _, _, Nat.zero_le _, rfl, h1, h2, e02, by simp, by have := LT.out; simp; omega, by have := LT.out; simp; omega⟩
    case round =>
      obtain ⟨i, S1, S2, hin, rfl, hA, hB, her, kA, kB, kd⟩ := hrel
      have KA := Lib.hid kA
      have KB := Lib.hid kB
      have KD := Lib.hid kd
      clear kA kB kd
      by_cases hk : i < nl
      · have d2 : decide (i < nl) = true := decide_eq_true hk
        obtain ⟨z, hzi⟩ : ∃ z, zs[i]? = some z := ⟨_, List.getElem?_eq_getElem (by omega)⟩
        obtain ⟨lb, lo, hcell⟩ := hz.int_at
        obtain ⟨hal, hlb, hcz⟩ := hcell i z hzi
        subst hal
        clear hcell
        have hci := (her.cell (p := ⟨lb, lo + i, none⟩) hlb (by simp)).trans hcz
        have b1 : (0 : Int) ≤ (i : Int) := by omega
        have b2 : (i : Int) < (nl : Int) := by omega
        have hll := arms_len zs 0 i (by omega)
        go_wp2_with fail
        refine (wo_arm _ _ _ _ _ z i (by omega) wr hA (by omega) (by omega)).mono ?_
        rintro e w3 (⟨h, _⟩ | ⟨-, rfl, S1', h3, e3, k3⟩)
        · omega
        have hB3 := hB.keep e3 (apart_symm KD.out)
        have her3 := her.fresh e3 KA.out
        have hci3 := (her3.cell (p := ⟨lb, lo + i, none⟩) hlb (by simp)).trans hcz
        have KA3 := Lib.hid (own_ge KA.out k3 her.size)
        have KD3 := Lib.hid (own_apart KD.out k3 hB.lt)
        clear k3 hci
        go_wp2_with fail
        refine (wo_arm _ _ _ _ _ z i (by omega) w3 hB3 (by omega) (by omega)).mono ?_
        rintro e w4 (⟨h, _⟩ | ⟨-, rfl, S2', h4, e4, k4⟩)
        · omega
        have h34 := h3.keep e4 KD3.out
        have her4 := her3.fresh e4 KB.out
        have KB4 := Lib.hid (own_ge KB.out k4 her3.size)
        have KD4 := Lib.hid (apart_symm (own_apart (apart_symm KD3.out) k4 h3.lt))
        have ht : (⟨z, (i : Int) + 1, (i : Int)⟩ : One) :: arms zs 0 i = arms zs 0 (i + 1) := by rw [arms_succ hzi, Int.zero_add]
        have HT := Lib.hid ht
        clear k4 hci3 ht
        go_wp2_with fail
        exact ⟨⟨i + 1, S1', S2', by omega, rfl, by rw [← HT.out]; exact h34, by rw [← HT.out]; exact h4, her4, KA3.out, KB4.out, KD4.out⟩, by simp [intOf]; omega⟩
      · have d2 : decide (i < nl) = false := decide_eq_false hk
        have hll := arms_len zs 0 i (by omega)
        have hin' : i = nl := by omega
        subst hin'
        generalize hL : arms zs 0 i = L at *
        have hu : Uniq L := by rw [← hL]; exact arms_uniq _ _ _
        clear hL
        have HMM := Lib.hid hmm
        clear hmm
        rcases HC.out with ⟨hab, rfl, rfl⟩ | ⟨rfl, rfl, rfl⟩ | ⟨hab, rfl, rfl⟩
        all_goals
          clear HC
          go_wp2_with fail
        all_goals
          have O1 : ∀ g, (Value.slice none 0 0).ownBlock = some g → g ∉ S1 := by intro g hg; cases hg
          refine (due_all _ S1 L 100 _ _ (.slice none 0 0) [] (by omega) (by simp) wr hA (Rw.nil _) O1).mono ?_
          rintro e w5 ⟨v1, D1, R1, rfl, u1, -, hA5, r1, e5, o1⟩
          clear O1
          have l1 := u1.perm.length_eq
          simp only [List.length_append] at l1
          have E5 : Ext [] w w5 := her.fresh e5 (by intro x hx; simp [Value.ownBlock] at hx; exact KA.out x hx)
          have hB5 := hB.keep e5 (by intro x hx hx2; simp [Value.ownBlock] at hx2; exact KD.out x hx2 hx)
          have G1 : ∀ g, v1.ownBlock = some g → wr.heap.size ≤ g := by
            intro g hg
            rcases o1 g hg with h | h
            · cases h
            · exact h
          have GS1 := hA.lt
          have GS2 := hB.lt
          have N1 : ∀ g, v1.ownBlock = some g → g ∉ S1 := by intro g hg h; have := G1 g hg; have := GS1 g h; omega
          have N1 := Lib.hid N1; have G1 := Lib.hid G1; have GS1 := Lib.hid GS1; have GS2 := Lib.hid GS2
          have her0 := her.size
          clear o1
          go_wp2_with fail
        all_goals
          refine (due_all _ S1 R1 100 _ _ v1 _ (by omega) (by simp; omega) w5 hA5 r1 N1.out).mono ?_
          rintro e w6 ⟨v2, D2, R2, rfl, u2, k2, hA6, r2, e6, o2⟩
          have l2 := u2.perm.length_eq
          simp only [List.length_append] at l2
          have s5 := e5.size
          have G2 : ∀ g, v2.ownBlock = some g → wr.heap.size ≤ g := by
            intro g hg
            rcases o2 g hg with h | h
            · exact G1.out g h
            · omega
          have SX : ∀ x ∈ S1 ++ v1.ownBlock.toList, w.heap.size ≤ x ∧ x ∉ S2 := by
            intro x hx
            rcases List.mem_append.1 hx with h | h
            · exact ⟨KA.out x h, KD.out x h⟩
            · have h3 := G1.out x (by simpa using h)
              refine ⟨by omega, fun h4 => ?_⟩
              have := GS2.out x h4
              omega
          have E6 : Ext [] w w6 := E5.fresh e6 (fun x hx => (SX x hx).1)
          have hB6 := hB5.keep e6 (fun x hx hx2 => (SX x hx2).2 hx)
          have N2 : ∀ g, v2.ownBlock = some g → g ∉ S2 := by intro g hg h; have := G2 g hg; have := GS2.out g h; omega
          have N2 := Lib.hid N2; have G2 := Lib.hid G2; have K2 := Lib.hid k2; have R2' := Lib.hid r2
          have s6 := e6.size
          have HU1 := Lib.hid u1; have HU2 := Lib.hid u2; have HL1 := Lib.hid l1; have HL2 := Lib.hid l2; have HHER := Lib.hid her0; have HS := Lib.hid (And.intro s5 s6); have HLL := Lib.hid hll
          clear o2 SX k2 r2 e5 e6 u1 u2 r1 l1 l2 s5 s6 her0
          go_wp2_with fail
        all_goals
          have O3 : ∀ g, (Value.slice none 0 0).ownBlock = some g → g ∉ S2 := by intro g hg; cases hg
          refine (due_all _ S2 L 100 _ _ (.slice none 0 0) [] (by have := HLL.out; omega) (by simp) w6 hB6 (Rw.nil _) O3).mono ?_
          rintro e w7 ⟨v3, D3, R3, rfl, u3, k3, hB7, r3, e7, o3⟩
          clear O3
          have E7 : Ext [] w w7 := E6.fresh e7 (by intro x hx; simp [Value.ownBlock] at hx; exact KB.out x hx)
          have hA7 := hA6.keep e7 (by intro x hx hx2; simp [Value.ownBlock] at hx2; exact KD.out x hx hx2)
          have r2 := R2'.out.keep e7 (by intro g hg hx2; simp [Value.ownBlock] at hx2; exact N2.out g hg hx2)
          have hDD := two_dues HMM.out hu HU1.out HU2.out K2.out u3 k3
          have hxs : [] ++ List.map (fun x => x.id) D1 ++ List.map (fun x => x.id) D2 = List.map (fun x : One => x.id) D3 := by rw [List.nil_append, ← List.map_append, hDD]
          rw [hxs] at r2
          rw [List.nil_append] at r3
          obtain ⟨a2, c2, rfl⟩ := r2.val
          have l3 := u3.perm.length_eq
          simp only [List.length_append] at l3
          have ll : D1.length + D2.length = D3.length := by rw [← hDD, List.length_append]
          have q1 := HL1.out; have q2 := HL2.out; have q3 := HLL.out
          have hdl : (List.map (fun x : One => x.id) D3).length = D3.length := by simp
          rw [hdl] at r2
          have hRR : R2.length = R3.length := by omega
          obtain ⟨nn, hnn⟩ : ∃ nn, nn = D3.length := ⟨_, rfl⟩
          rw [← hnn] at r2 hdl
          rw [hdl]
          have hsub : (R3.length : Int) = (i : Int) - (nn : Int) := by omega
          have c1 : ((R3.length : Int) == (i : Int) - (nn : Int)) = true := by rw [← hsub]; simp
          have hnl : nn ≤ i := by omega
          have hIn := ints_same _ _ _ (by simp; omega) w7 r2 r3
          have HRR := Lib.hid hRR
          have HIN := Lib.hid hIn
          clear u3 k3 r3 o3 e7 hDD hxs l3 ll q1 q2 q3 hdl hRR hnn hsub hIn r2
          go_wp2_with fail
        all_goals
          refine HIN.out.mono ?_
          rintro e w8 ⟨rfl, e8⟩
          have hA8 := hA7.keep e8 (by simp)
          have hB8 := hB7.keep e8 (by simp)
          have hLA := wo_len _ S1 R2 _ _ _ hA8
          rw [HRR.out] at hLA
          have hLB := wo_len _ S2 R3 _ _ _ hB8
          have E8 := E7.trans e8 (by simp)
          have HLA := Lib.hid hLA; have HLB := Lib.hid hLB
          clear hLA hLB HIN
          go_wp2_with fail
        all_goals
          refine HLA.out.mono ?_
          rintro e w9 ⟨rfl, rfl⟩
          go_wp2_with fail
        all_goals
          refine HLB.out.mono ?_
          rintro e w9 ⟨rfl, rfl⟩
          go_wp2_with fail
        all_goals
          refine HLA.out.mono ?_
          rintro e w9 ⟨rfl, rfl⟩
          go_wp2_with fail
        all_goals
          refine (awake_any _).mono ?_
          rintro e w9 ⟨rfl, e9⟩
          go_wp2_with fail
        all_goals
          go_ret
          exact ⟨rfl, E8.trans e9 (by simp)⟩
end Go.Proofs.Ytlnablnnnnkeaaa
