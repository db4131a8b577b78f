/- The signals' tree: Make, by contract. -/
import Derived.Test.YtmmhpjodnceipaaSgUnder
import Derived.Test.YtmmhpjodnceipaaWLast
namespace Go.Proofs.Ytmmhpjodnceipaa
open Go.RowKit Go.Proofs.YtmmhpjodnceipaaW.PrintLast
set_option linter.unusedVariables false
set_option linter.unusedSimpArgs false

/-- A slice of numbers that is read: told by ps. -/
def SrcI (w : World) (sv : Value) (ps : List Int) : Prop :=
  (∃ a c, sv = .slice a 0 c ∧ (a = none → c = 0) ∧ ps = []) ∨ ∃ b off c, sv = .slice (some ⟨b, off, none⟩) ps.length c ∧ b < w.heap.size ∧ ∀ (i : Nat) z, ps[i]? = some z → w.cell? ⟨b, off + i, none⟩ = some (.int .i64 z)

theorem encI_flat (ps : List Int) : ps.flatMap (encI .i64) = ps.map (Value.int .i64) := by
  induction ps with
  | nil => rfl
  | cons x xs ih => rw [List.flatMap_cons, ih]; rfl

theorem SrcI.sl {w : World} {sv : Value} {ps : List Int} (h : SrcI w sv ps) : Sl (encI .i64) w sv ps := by
  rcases h with ⟨a, c, rfl, hc, rfl⟩ | ⟨b, off, c, rfl, hb, hc⟩
  · cases a with
    | none => exact ⟨none, c, rfl, .inl ⟨rfl, rfl, hc rfl⟩⟩
    | some ad => exact ⟨_, c, rfl, .inr ⟨ad, rfl, fun h => absurd rfl h, fun j u hu => by simp at hu⟩⟩
  · refine ⟨_, c, rfl, .inr ⟨_, rfl, fun _ => hb, fun j u hu => ?_⟩⟩
    rw [encI_flat, List.getElem?_map] at hu
    obtain ⟨z, hz, rfl⟩ := Option.map_eq_some_iff.1 hu
    rw [Addr.add_mk]
    exact hc j z hz
theorem SrcI.keep {R : List Nat} {w w' : World} {sv : Value} {ps : List Int} (h : SrcI w sv ps) (he : Ext R w w') (hR : ∀ g, sv.ownBlock = some g → g ∉ R) : SrcI w' sv ps := by
  rcases h with h | ⟨b, off, c, rfl, hb, hc⟩
  · exact .inl h
  · exact .inr ⟨b, off, c, rfl, Nat.lt_of_lt_of_le hb he.size, fun i z hz => (he.cell (p := ⟨b, off + i, none⟩) hb (hR b rfl)).trans (hc i z hz)⟩
theorem Rw.srcI {w : World} {v : Value} {ps : List Int} (h : RI w v ps) : SrcI w v ps := by
  rcases h.2 with ⟨rfl, h0⟩ | ⟨g, cap, cur, rfl, _⟩
  · exact .inl ⟨none, 0, rfl, fun _ => rfl, List.length_eq_zero_iff.1 h0⟩
  · refine .inr ⟨g, 0, cap, rfl, h.lt g rfl, fun i z hz => ?_⟩
    have := h.cell encI_ok.len hz 0 (by omega)
    rw [Nat.mul_one, Nat.add_zero] at this
    rw [Nat.zero_add, this]; rfl

/-- What stands against a new signal under these. -/
def mkE (L : List Sg) : List Int → Int
  | [] => 0
  | p :: r => if isS L.length p = false then 11 else if offM L p then 13 else mkE L r
def mkC (L : List Sg) (ps : List Int) : Int := if 64 ≤ L.length then 10 else mkE L ps

theorem mkE_drop (L : List Sg) (ps : List Int) (k : Nat) (z : Int) (hz : ps[k]? = some z) : mkE L (ps.drop k) = if isS L.length z = false then 11 else if offM L z then 13 else mkE L (ps.drop (k + 1)) := by
  have hk := (List.getElem?_eq_some_iff.1 hz).1
  have hv := (List.getElem?_eq_some_iff.1 hz).2
  rw [List.drop_eq_getElem_cons hk, hv]; rfl

def MakeP (b : Nat) (v : Value) (L : List Sg) (ps : List Int) (w : World) (e : Ending) (w' : World) : Prop :=
  (mkC L ps ≠ 0 ∧ e = .returned (.tuple #[.int .i64 0, .int .i64 (mkC L ps)]) ∧ w = w') ∨
  (mkC L ps = 0 ∧ e = .returned (.tuple #[.int .i64 ((L.length : Int) + 1), .int .i64 0]) ∧ ∃ (v' : Value) (pa : Option Addr) (pc : Nat), Tr w' b v' (L ++ [⟨pa, pc, ps, false⟩]) ∧ Ext (b :: v.ownBlock.toList) w w' ∧
    (∀ x ∈ (b :: v'.ownBlock.toList) ++ upOwn (L ++ [⟨pa, pc, ps, false⟩]), x ∈ (b :: v.ownBlock.toList) ++ upOwn L ∨ w.heap.size ≤ x))

set_option maxHeartbeats 6400000 in
set_option maxRecDepth 100000 in
theorem sgMake_any (b : Nat) (v : Value) (L : List Sg) (sv : Value) (ps : List Int) (hx : L.length < 100000) (hp : ps.length < 100000) (w : World) (h : Tr w b v L) (hs : SrcI w sv ps) :
    Calls Try.prog 23 #[.pointer (some ⟨b, 0, none⟩), sv] w (MakeP b v L ps w) := by
  have hhas := fun id => sgHas_any b v L id (by omega) w h
  have HHAS := Lib.hid hhas
  have HSRC := Lib.hid hs
  obtain ⟨a, c, rfl⟩ : ∃ a c, sv = .slice a ps.length c := by
    rcases hs with ⟨a, c, rfl, _, rfl⟩ | ⟨q, off, c, rfl, _⟩
    · exact ⟨a, c, rfl⟩
    · exact ⟨_, c, rfl⟩
  obtain ⟨va, vc, rfl⟩ := h.ob.row.val
  obtain ⟨n, hn⟩ : ∃ n, n = L.length := ⟨_, rfl⟩
  obtain ⟨m, hm⟩ : ∃ n, n = ps.length := ⟨_, rfl⟩
  have hcv : w.cell? ⟨b, 0, none⟩ = some (.slice va L.length vc) := h.ob.blk.cell 0
  rw [← hn] at hcv ⊢; rw [← hm] at HSRC ⊢
  have HN := Lib.hid hn; have HM := Lib.hid hm; have HH := Lib.hid h
  have hn1 : n < 100000 := by omega
  have hm1 : m < 100000 := by omega
  clear hhas hs h hn hm hx hp
  by_cases h64 : 64 ≤ n
  · have hC : mkC L ps = 10 := by unfold mkC; rw [if_pos (by rw [← HN.out]; exact h64)]
    have HC := Lib.hid hC
    clear hC
    go_enter Try.func23, Try.ntmps23
    go_wp2_with fail
    refine bodyPost_ret (v := .tuple #[.int .i64 0, .int .i64 10]) (by simp [results, Try.results23, go_sem]) rfl ?_
    exact .inl ⟨by rw [HC.out]; decide, by rw [HC.out], rfl⟩
  have hC : mkC L ps = mkE L ps := by unfold mkC; rw [if_neg (by rw [← HN.out]; exact h64)]
  have HC := Lib.hid hC
  have h64' : n < 64 := by omega
  clear hC h64
  go_enter Try.func23, Try.ntmps23
  go_wp2_with fail
  go_loop [7, 18] (fun _ iv => ∃ (k : Nat), k ≤ m ∧ iv = .int .i64 k ∧ Hid (mkE L ps = mkE L (ps.drop k))) (fun _ iv => m - (intOf iv).toNat)
  case atStart => exact ⟨0, Nat.zero_le _, rfl, rfl⟩
  case round =>
    obtain ⟨k, hkm, rfl, hE⟩ := hrel
    by_cases hk : k < m
    · obtain ⟨z, hz⟩ : ∃ z, ps[k]? = some z := ⟨_, List.getElem?_eq_getElem (by rw [← HM.out]; exact hk)⟩
      have d1 : decide (k < m) = true := decide_eq_true hk
      have hst := mkE_drop L ps k z hz
      have hsrc : ∃ q off, a = some ⟨q, off, none⟩ ∧ w.cell? ⟨q, off + k, none⟩ = some (.int .i64 z) := by
        rcases HSRC.out with ⟨_, _, _, _, h0⟩ | ⟨q, off, c', hq, _, hcc⟩
        · rw [h0] at hz; simp at hz
        · injection hq with hq _ _
          exact ⟨q, off, hq, hcc k z hz⟩
      obtain ⟨q, off, rfl, hcz⟩ := hsrc
      have b1 : (0 : Int) ≤ (k : Int) := by omega
      have b2 : (k : Int) < (m : Int) := by omega
      have hcall := HHAS.out z
      cases hi : isS L.length z with
      | false =>
        rw [if_pos hi] at hst
        rw [hi] at hcall
        have hC2 : mkC L ps = 11 := by rw [HC.out, hE.out, hst]
        have HC2 := Lib.hid hC2
        clear hst hi hE hC2 HC hz
        go_wp2_with fail
        refine hcall.mono ?_
        rintro e w1 ⟨rfl, rfl⟩
        go_wp2_with fail
        refine bodyPost_ret (v := .tuple #[.int .i64 0, .int .i64 11]) (by simp [results, Try.results23, go_sem]) rfl ?_
        exact .inl ⟨by rw [HC2.out]; decide, by rw [HC2.out], rfl⟩
      | true =>
        rw [if_neg (by rw [hi]; decide)] at hst
        rw [hi] at hcall
        obtain ⟨i, rfl, hil⟩ := isS_true hi
        obtain ⟨s, hs⟩ : ∃ s, L[i]? = some s := ⟨_, List.getElem?_eq_getElem hil⟩
        rw [offM_at hs] at hst
        rw [← HN.out] at hil
        have hob := HH.out.ob
        rw [← HN.out] at hob
        obtain ⟨g, rfl, hgl⟩ := hob.row.addr (by omega)
        have hc1 := hob.row.cell encG_ok.len hs 1 (by omega)
        simp only [encG, Nat.add_zero, List.getElem?_cons_zero, List.getElem?_cons_succ] at hc1
        have b3 : (0 : Int) ≤ (i : Int) := by omega
        have b4 : (i : Int) < (n : Int) := by omega
        have hii : (i : Int) + 1 - 1 = i := by omega
        clear hob hi hz hs
        cases ho : s.off with
        | true =>
          rw [ho] at hst hc1
          have hC2 : mkC L ps = 13 := by rw [HC.out, hE.out, hst]; rfl
          have HC2 := Lib.hid hC2
          clear hst hE hC2 HC ho
          go_wp2_with fail
          refine hcall.mono ?_
          rintro e w1 ⟨rfl, rfl⟩
          go_wp2_with fail
          refine bodyPost_ret (v := .tuple #[.int .i64 0, .int .i64 13]) (by simp [results, Try.results23, go_sem]) rfl ?_
          exact .inl ⟨by rw [HC2.out]; decide, by rw [HC2.out], rfl⟩
        | false =>
          rw [ho] at hst hc1
          have hE2 : mkE L ps = mkE L (ps.drop (k + 1)) := by rw [hE.out, hst]; rfl
          have HE2 := Lib.hid hE2
          clear hst hE hE2 ho
          go_wp2_with fail
          refine hcall.mono ?_
          rintro e w1 ⟨rfl, rfl⟩
          go_wp2_with fail
          exact ⟨⟨k + 1, by omega, rfl, HE2.out⟩, by simp [intOf]; omega⟩
    · have d1 : decide (k < m) = false := decide_eq_false hk
      have hC2 : mkC L ps = 0 := by rw [HC.out, hE.out, List.drop_eq_nil_of_le (by have := HM.out; omega)]; rfl
      have HC2 := Lib.hid hC2
      clear hE hC2 HC hk hkm
      go_wp2_with fail
      have hob := HH.out.ob
      rw [← HN.out] at hob
      have hlb := hob.blk.lt
      have hm63 : ps.length ≤ 1000000 := by rw [← HM.out]; omega
      have hl1 : LenIs ([] : List Int) ps ps.length := by unfold LenIs; simp
      have hn63 : n + 1 ≤ 1000000 := by omega
      have hl2 : ∀ s : Sg, LenIs L [s] (n + 1) := fun s => by unfold LenIs; rw [← HN.out]; rfl
      have hsl : Sl (encI .i64) w.drew (.slice a m c) ps := HSRC.out.sl.keep (Ext.refl [] w).drew (by simp)
      have HL1 := Lib.hid hl1; have HL2 := Lib.hid hl2; have HSL := Lib.hid hsl; have HOB := Lib.hid hob; have HCV := Lib.hid hcv; have HM63 := Lib.hid hm63; have HN63 := Lib.hid hn63; have HLB := Lib.hid hlb
      clear hl1 hl2 hsl hob hm63 hn63
      refine start_ (n := 13) (S := fun w' => w'.cell? ⟨b, 0, none⟩ = some (.slice va n vc)) (ds := [12]) #[false, false, false, false, false, false, false, false, false, false, false, false, false] (by kernel_rfl) rfl rfl (hcv) (fun hHeld => ?_)
      refine pure_ (i := 0) (N := some 36) (v := ?_) (a' := ?_) #[true, false, false, false, false, false, false, false, false, false, false, false, false] rfl rfl (by kernel_rfl) (fun _ _ _ h => h) (Or.inl ⟨by rfl, ?_⟩) ?_ ?_
      rotate_left
      · intro w'
        go_simp
        with_reducible rfl
      rotate_left
      · simp only [Act.put, List.setIfInBounds_toArray, List.set_cons_zero, List.set_cons_succ, i64_w, i32_w]
        rfl
      refine pure_ (i := 1) (N := some 37) (v := ?_) (a' := ?_) #[true, true, false, false, false, false, false, false, false, false, false, false, false] rfl rfl (by kernel_rfl) (fun _ _ _ h => h) (Or.inl ⟨by rfl, ?_⟩) ?_ ?_
      rotate_left
      · intro w'
        go_simp
        with_reducible rfl
      rotate_left
      · simp only [Act.put, List.setIfInBounds_toArray, List.set_cons_zero, List.set_cons_succ, i64_w, i32_w]
        rfl
      refine pure_ (i := 2) (N := some 38) (v := ?_) (a' := ?_) #[true, true, true, false, false, false, false, false, false, false, false, false, false] rfl rfl (by kernel_rfl) (fun _ _ _ h => h) (Or.inl ⟨by rfl, ?_⟩) ?_ ?_
      rotate_left
      · intro w'
        go_simp
        with_reducible rfl
      rotate_left
      · simp only [Act.put, List.setIfInBounds_toArray, List.set_cons_zero, List.set_cons_succ, i64_w, i32_w]
        rfl
      refine pure_ (i := 3) (N := some 39) (v := ?_) (a' := ?_) #[true, true, true, true, false, false, false, false, false, false, false, false, false] rfl rfl (by kernel_rfl) (fun _ _ _ h => h) (Or.inl ⟨by rfl, ?_⟩) ?_ ?_
      rotate_left
      · intro w'
        go_simp
        with_reducible rfl
      rotate_left
      · simp only [Act.put, List.setIfInBounds_toArray, List.set_cons_zero, List.set_cons_succ, i64_w, i32_w]
        rfl
      refine pure_ (i := 5) (N := some 41) (v := ?_) (a' := ?_) #[true, true, true, true, false, true, false, false, false, false, false, false, false] rfl rfl (by kernel_rfl) (fun _ _ _ h => h) (Or.inl ⟨by rfl, ?_⟩) ?_ ?_
      rotate_left
      · intro w'
        go_simp
        with_reducible rfl
      rotate_left
      · simp only [Act.put, List.setIfInBounds_toArray, List.set_cons_zero, List.set_cons_succ, i64_w, i32_w]
        rfl
      refine take_ (i := 4) (N := some 40) (v := ?_) (a' := ?_) #[true, true, true, true, true, true, false, false, false, false, false, false, false] rfl rfl (by kernel_rfl) (fun _ _ _ h => h) (Or.inl ⟨by rfl, ?_⟩) hHeld ?_ ?_
      rotate_left
      · intro w' s0
        go_simp
        with_reducible rfl
      rotate_left
      · simp only [Act.put, List.setIfInBounds_toArray, List.set_cons_zero, List.set_cons_succ, i64_w, i32_w]
        rfl
      refine one_ (i := 6) (N := some 42) #[true, true, true, true, true, true, true, false, false, false, false, false, false] rfl rfl (by kernel_rfl) (by decide) (fun K hK => ?_)
      refine step_appN tyI encI_ok (by rfl) _ _ (by rfl) (Rw.nil w.drew) (by rfl) HSL.out (by rfl) HL1.out HM63.out ?_
      intro a1 c1 w1 hr1 hS1 hg1
      have he1 : Ext [] w w1 := Ext.of_drew (hS1 [] (by simp [Value.ownBlock]))
      have hg1' : ∀ g, (Value.slice a1 ps.length c1).ownBlock = some g → w.heap.size ≤ g := fun g hg => (hg1 g hg).elim (fun h => by simp [Value.ownBlock] at h) (fun h => h)
      rw [List.nil_append] at hr1
      have HOB1 := Lib.hid (HOB.out.keep he1 (by simp))
      clear hS1 hg1
      refine hK.out _ _ (((he1.cell (p := ⟨b, 0, none⟩) HLB.out (by simp)).trans HCV.out)) (fun hHeld => ?_)
      clear hK K
      refine norm_ (a' := ?_) ?_ ?_
      rotate_left
      · show Act.put _ (some 42) _ = _
        simp only [Act.put, List.setIfInBounds_toArray, List.set_cons_zero, List.set_cons_succ, i64_w, i32_w]
        rfl
      refine pure_ (i := 7) (N := some 43) (v := ?_) (a' := ?_) #[true, true, true, true, true, true, true, true, false, false, false, false, false] rfl rfl (by kernel_rfl) (fun _ _ _ h => h) (Or.inl ⟨by rfl, ?_⟩) ?_ ?_
      rotate_left
      · intro w'
        go_simp
        with_reducible rfl
      rotate_left
      · simp only [Act.put, List.setIfInBounds_toArray, List.set_cons_zero, List.set_cons_succ, i64_w, i32_w]
        rfl
      refine one_ (i := 8) (N := some 44) #[true, true, true, true, true, true, true, true, true, false, false, false, false] rfl rfl (by kernel_rfl) (by decide) (fun K hK => ?_)
      refine value_ (w1 := ?_) (v := ?_) (by rfl) rfl ?_ ?_
      rotate_left 2
      · go_simp
        constructor
        · rfl
        · rfl
      refine hK.out _ _ (((HOB1.out.blk.alloc _).cell 0)) (fun hHeld => ?_)
      clear hK K
      refine norm_ (a' := ?_) ?_ ?_
      rotate_left
      · show Act.put _ (some 44) _ = _
        simp only [Act.put, List.setIfInBounds_toArray, List.set_cons_zero, List.set_cons_succ, i64_w, i32_w]
        rfl
      refine one_ (i := 9) (N := some 45) #[true, true, true, true, true, true, true, true, true, true, false, false, false] rfl rfl (by kernel_rfl) (by decide) (fun K hK => ?_)
      refine step_appN tySg encG_ok (by rfl) _ _ (by rfl) (HOB1.out.row.alloc _) (by rfl) (Sl.new (enc := encG) w1 ⟨a1, c1, ps, false⟩ 88) (by rfl) (HL2.out _) HN63.out ?_
      intro a2 c2 w2 hr2 hS2 hg2
      have hb2 := HOB1.out.blk_of ((Ext.refl [] _).alloc _) hS2
      have hfz : w2.frozen? ⟨b, 0, none⟩ = false := hb2.free 0
      refine hK.out _ _ ((hb2.cell 0)) (fun hHeld => ?_)
      clear hK K
      refine norm_ (a' := ?_) ?_ ?_
      rotate_left
      · show Act.put _ (some 45) _ = _
        simp only [Act.put, List.setIfInBounds_toArray, List.set_cons_zero, List.set_cons_succ, i64_w, i32_w]
        rfl
      refine pure_ (i := 10) (N := some 46) (v := ?_) (a' := ?_) #[true, true, true, true, true, true, true, true, true, true, true, false, false] rfl rfl (by kernel_rfl) (fun _ _ _ h => h) (Or.inl ⟨by rfl, ?_⟩) ?_ ?_
      rotate_left
      · intro w'
        go_simp
        with_reducible rfl
      rotate_left
      · simp only [Act.put, List.setIfInBounds_toArray, List.set_cons_zero, List.set_cons_succ, i64_w, i32_w]
        rfl
      refine pure_ (i := 11) (N := some 47) (v := ?_) (a' := ?_) #[true, true, true, true, true, true, true, true, true, true, true, true, false] rfl rfl (by kernel_rfl) (fun _ _ _ h => h) (Or.inl ⟨by rfl, ?_⟩) ?_ ?_
      rotate_left
      · intro w'
        go_simp
        with_reducible rfl
      rotate_left
      · simp only [Act.put, List.setIfInBounds_toArray, List.set_cons_zero, List.set_cons_succ, i64_w, i32_w]
        rfl
      refine last_ (i := 12) (N := none) #[true, true, true, true, true, true, true, true, true, true, true, true, true] rfl rfl (by kernel_rfl) (by decide) (fun K hK => ?_)
      refine skip_ (w1 := ?_) (by rfl) rfl ?_ ?_
      rotate_left
      · go_simp
        rfl
      refine hK.out _ _ ?_
      clear hK K
      refine done_ (by kernel_rfl) ?_
      have hfin := HOB1.out.appended ((Ext.refl [] _).alloc _) hr2 hS2 (fun g hg => (hg2 g hg).imp_right (fun h => by rw [World.size_alloc] at h; omega)) 0 (by simp)
      have hs1 := he1.size
      have hnv : ∀ g, (Value.slice a1 ps.length c1).ownBlock = some g → g ∉ b :: (Value.slice va n vc).ownBlock.toList := fun g hg hm => by
        have := HOB.out.lt g hm; have := hg1' g hg; omega
      have hrow1 : RI (w2.setCell ⟨b, 0, none⟩ (.slice a2 (n + 1) c2)) (.slice a1 ps.length c1) ps := by
        refine ((hr1.alloc _).keep (hS2 (Value.slice va n vc).ownBlock.toList (by simp +contextual)) (fun g hg hq => hnv g hg (List.mem_cons_of_mem _ hq))).keep (Ext.setCell (S := [b]) (Ext.refl _ _) (Or.inl (by simp)) _) (fun g hg hq => hnv g hg (by simp at hq; simp [hq]))
      have hTr : Tr (w2.setCell ⟨b, 0, none⟩ (.slice a2 (n + 1) c2)) b (.slice a2 (n + 1) c2) (L ++ [⟨a1, c1, ps, false⟩]) := by
        refine ⟨hfin.1, fun s hs => ?_⟩
        rcases List.mem_append.1 hs with hs | hs
        · have hap := HH.out.apart
          rw [← HN.out] at hap
          refine ((HH.out.inn s hs).keep he1 (by simp)).keep hfin.2.1 (fun g hg => hap g (mem_upOwn hs hg))
        · simp at hs; subst hs; exact hrow1
      have hown : ∀ x ∈ (b :: (Value.slice a2 (n + 1) c2).ownBlock.toList) ++ upOwn (L ++ [⟨a1, c1, ps, false⟩]), x ∈ (b :: (Value.slice va n vc).ownBlock.toList) ++ upOwn L ∨ w.heap.size ≤ x := by
        intro x hx
        rcases List.mem_append.1 hx with hx | hx
        · rcases hfin.2.2 x hx with h1 | h1
          · exact .inl (List.mem_append_left _ h1)
          · exact .inr (by omega)
        · unfold upOwn at hx
          rw [List.flatMap_append] at hx
          rcases List.mem_append.1 hx with hx | hx
          · exact .inl (List.mem_append_right _ hx)
          · simp only [List.flatMap_cons, List.flatMap_nil, List.append_nil, Sg.row] at hx
            exact .inr (hg1' x (by simpa using hx))
      have hExt := (he1.mono (T := b :: (Value.slice va n vc).ownBlock.toList) (by simp)).trans hfin.2.1 (fun x hx => .inl hx)
      have hcf := hfin.1.blk.cell 0
      have HT := Lib.hid hTr; have HOWN := Lib.hid hown; have HEXT := Lib.hid hExt
      have hcv9 : (w2.setCell ⟨b, 0, none⟩ (.slice a2 (n + 1) c2)).cell? ⟨b, 0, none⟩ = some (.slice a2 (n + 1) c2) := hcf
      clear hfin hTr hown hExt hcf hrow1 hnv hr1 hr2 hS2 hg2 hg1' hb2 hfz hcv
      generalize w2.setCell ⟨b, 0, none⟩ (.slice a2 (n + 1) c2) = w3 at HT HOWN HEXT hcv9 ⊢
      go_wp2_with fail
      refine bodyPost_ret (v := .tuple #[.int .i64 ((n : Int) + 1), .int .i64 0]) (by simp [results, Try.results23, go_sem]) rfl ?_
      exact .inr ⟨HC2.out, by rw [← HN.out], _, a1, c1, HT.out, HEXT.out, HOWN.out⟩
end Go.Proofs.Ytmmhpjodnceipaa
