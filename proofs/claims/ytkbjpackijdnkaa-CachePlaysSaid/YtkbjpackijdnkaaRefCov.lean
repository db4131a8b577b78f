/- The document's cache: Covers, by contract. -/
import Derived.Test.YtkbjpackijdnkaaRefMeth
import Derived.Test.YtkbjpackijdnkaaCacheCov
namespace Go.Proofs.Ytkbjpackijdnkaa
open Go.RowKit Go.Proofs.YtkbjpackijdnkaaW.PrintLast
set_option linter.unusedVariables false
set_option linter.unusedSimpArgs false

theorem safe_eq (s : ByteArray) : rsafeS s = safeS s := by
  unfold rsafeS safeS rnormS knownS
  cases hf : names.find? fun m => foldB s m with
  | some m => rfl
  | none =>
    have h : ∀ m, m ∈ names → s ≠ m := fun m hm he => by
      have := List.find?_eq_none.1 hf m hm
      rw [he] at this
      exact this (by unfold foldB; simp)
    have e : (Option.none.getD (⟨#[]⟩ : ByteArray)).toList = [] := by show (⟨#[]⟩ : ByteArray).toList = []; rw [ByteArray.toList_eq]
    have k : (Option.none.getD s) = s := rfl
    rw [e, k, bytes_beq, bytes_beq, bytes_beq, decide_eq_false (h m1 (by simp [names])), decide_eq_false (h m2 (by simp [names])), decide_eq_false (h m4 (by simp [names])), m1_list, m2_list, m4_list]
    rfl

set_option maxHeartbeats 6400000 in
set_option maxRecDepth 100000 in
theorem cr_covers (most : Int) (b : Nat) (S : List Nat) (xs : List Ent) (c : Cel) (m : ByteArray) (hm : m.size ≤ 140737488351232) (na : Option Addr) (nn nc : Nat) (ns : List ByteArray) (hns : ∀ s ∈ ns, s.size ≤ 140737488351232) (hnn : nn < 1000000) (now : Int) (hx : xs.length < 10000) (hk : KindOk xs) (w : World) (h : CR most w b S xs) (hs : Slc encS 1 w na nn ns) :
    Calls Try.prog 40 #[.pointer (some ⟨b, 0, none⟩), .agg (encC c).toArray, .string m, .slice na nn nc, .int .u64 now] w fun e w' => e = .returned (.bool (covM xs c m ns now)) ∧ Ext [] w w' := by
  have hsf := fun W => rsafe_any m hm W
  have hme := fun W (hW : Ext [] w W) => cr_method most b S xs c m now hx hk W (h.keep0 hW)
  have hhe := fun nm (hnm : nm.size ≤ 140737488351232) W (hW : Ext [] w W) => cr_header most b S xs c nm hnm now hx hk W (h.keep0 hW)
  have hcv : covM xs c m ns now = ((safeS m || methM xs c m now) && ns.all fun nm => headM xs c nm now) := rfl
  rw [safe_eq] at hsf
  generalize safeS m = p1 at hsf hcv
  generalize methM xs c m now = p2 at hme hcv
  generalize hp : (fun nm => headM xs c nm now) = p at hcv
  have hhe : ∀ nm, nm.size ≤ 140737488351232 → ∀ W, Ext [] w W → Calls Try.prog 41 #[.pointer (some ⟨b, 0, none⟩), .agg (encC c).toArray, .string nm, .int .u64 now] W fun e w' => e = .returned (.bool (p nm)) ∧ Ext [] W w' := by
    intro nm hnm W hW
    rw [← hp]; exact hhe nm hnm W hW
  obtain ⟨co, cu, cr⟩ := c
  have hat : ∀ (i : Nat) z, ns[i]? = some z → ∃ B o, na = some ⟨B, o, none⟩ ∧ B < w.heap.size ∧ w.cell? ⟨B, o + i, none⟩ = some (.string z) := by
    obtain ⟨B, o, hh⟩ := hs.str_at
    exact fun i z hz => ⟨B, o, hh i z hz⟩
  have hnl := hs.1
  have hX : Blk (w.alloc (.cells #[.string co, .string cu, .bool cr] 33 (0, 0))) w.heap.size #[.string co, .string cu, .bool cr] 33 := Blk.new _ _ _
  have e0 : Ext [] w (w.alloc (.cells #[.string co, .string cu, .bool cr] 33 (0, 0))) := (Ext.refl _ _).alloc _
  have HSF := Lib.hid hsf; have HME := Lib.hid hme; have HHE := Lib.hid hhe; have HCV := Lib.hid hcv; have HAT := Lib.hid hat; have HNL := Lib.hid hnl; have HX := Lib.hid hX; have HE0 := Lib.hid e0; have HNS := Lib.hid hns
  clear hsf hme hhe hcv hp hat hnl hX e0 hns hs h hx hm hk
  unfold encC at HME HHE ⊢
  have loopOK : p1 = true ∨ p2 = true → Hid (covM xs ⟨co, cu, cr⟩ m ns now = ns.all p) := fun h => by
    show _ = _
    rw [HCV.out]; rcases h with h | h <;> simp [h]
  have HLO := Lib.hid loopOK
  clear loopOK
  go_enter Try.func40, Try.ntmps40
  go_wp2_with fail
  refine (HSF.out _).mono ?_
  rintro e w1 ⟨rfl, x1⟩
  have x2 := HE0.out.trans x1 (by simp)
  have hX1 := HX.out.keep x1 (by simp)
  have hXl := HX.out.lt
  have q0 := hX1.cell 0; have q1 := hX1.cell 1; have q2 := hX1.cell 2
  simp only [List.getElem?_toArray, List.getElem?_cons_zero, List.getElem?_cons_succ] at q0 q1 q2
  have HX1 := Lib.hid hX1
  clear hX1 x1
  generalize w.heap.size = X at HX HX1 q0 q1 q2 hXl ⊢
  cases p1 with
  | true =>
    have HLOO := HLO.out (.inl rfl)
    go_wp2_with fail
    clear q0 q1 q2
    go_loopw [11] (fun iv wx => ∃ (i : Nat), i ≤ nn ∧ iv = .int .i64 i ∧ Ext [] w1 wx ∧ Hid (ns.all p = (ns.drop i).all p)) (fun iv _ => nn - (intOf iv).toNat)
    case atStart => exact ⟨0, Nat.zero_le _, rfl, Ext.refl _ _, by simp [Hid]⟩
    case round =>
      obtain ⟨i, hin, rfl, her, hal⟩ := hrel
      have hX9 := HX1.out.keep her (by simp)
      by_cases hi : i < nn
      · have d1 : decide (i < nn) = true := decide_eq_true hi
        obtain ⟨z, hz⟩ : ∃ z, ns[i]? = some z := ⟨_, List.getElem?_eq_getElem (by rw [HNL.out]; exact hi)⟩
        obtain ⟨NB, no, rfl, hNB, hzc⟩ := HAT.out i z hz
        have xw := x2.trans her (by simp)
        have hz1 := (xw.cell (p := ⟨NB, no + i, none⟩) hNB (by simp)).trans hzc
        have hcall := HHE.out z (HNS.out z (List.mem_of_getElem? hz)) wr.drew xw.drew
        have hdr : ns.drop i = z :: ns.drop (i + 1) := by
          have hjl := (List.getElem?_eq_some_iff.1 hz).1
          have hjv := (List.getElem?_eq_some_iff.1 hz).2
          rw [List.drop_eq_getElem_cons hjl, hjv]
        have hst : ns.all p = (p z && (ns.drop (i + 1)).all p) := by rw [hal.out, hdr, List.all_cons]
        generalize p z = pz at hcall hst
        have b1 : (0 : Int) ≤ (i : Int) := by omega
        have b2 : (i : Int) < (nn : Int) := by omega
        have hkf : ∀ W, Ext [] wr.drew W → W.cell? ⟨X, 0, none⟩ = some (.string co) ∧ W.cell? ⟨X, 1, none⟩ = some (.string cu) ∧ W.cell? ⟨X, 2, none⟩ = some (.bool cr) ∧ W.cell? ⟨NB, no + i, none⟩ = some (.string z) := fun W hW => by
          have h9 := hX9.drew.keep hW (by simp)
          exact ⟨h9.cell 0, h9.cell 1, h9.cell 2, ((xw.drew.trans hW (by simp)).cell (p := ⟨NB, no + i, none⟩) hNB (by simp)).trans hzc⟩
        have q0 := (hkf _ (Ext.refl _ _)).1; have q1 := (hkf _ (Ext.refl _ _)).2.1; have q2 := (hkf _ (Ext.refl _ _)).2.2.1; have q3 := (hkf _ (Ext.refl _ _)).2.2.2
        have HCALL := Lib.hid hcall; have HST := Lib.hid hst; have XW := Lib.hid xw; have HER := Lib.hid her; have KF := Lib.hid hkf
        clear hz hzc hdr hal hcall hst xw her hX9 hkf hz1
        cases pz with
        | false =>
          go_wp2_with fail
          refine start_ (n := 9) (S := fun w' => w'.cell? ⟨X, 0, none⟩ = some (.string co) ∧ w'.cell? ⟨X, 1, none⟩ = some (.string cu) ∧ w'.cell? ⟨X, 2, none⟩ = some (.bool cr) ∧ w'.cell? ⟨NB, no + i, none⟩ = some (.string z) ∧ (0 : Int) ≤ (i : Int) ∧ (i : Int) < (nn : Int)) (ds := []) #[false, false, false, false, false, false, false, false, false] (by kernel_rfl) rfl rfl ⟨q0, q1, q2, q3, b1, b2⟩ (fun hHeld => ?_)
          refine pure_ (i := 0) (N := some 29) (v := ?_) (a' := ?_) #[true, false, false, false, false, false, false, false, false] rfl rfl (by kernel_rfl) (fun _ _ _ h => h) (Or.inl ⟨by rfl, ?_⟩) ?_ ?_
          rotate_left
          · intro w'
            go_simp
            with_reducible rfl
          rotate_left
          · simp only [Act.put, List.setIfInBounds_toArray, List.set_cons_zero, List.set_cons_succ, i64_w, i32_w]
            rfl
          refine pure_ (i := 2) (N := some 31) (v := ?_) (a' := ?_) #[true, false, true, false, false, false, false, false, false] rfl rfl (by kernel_rfl) (fun _ _ _ h => h) (Or.inl ⟨by rfl, ?_⟩) ?_ ?_
          rotate_left
          · intro w'
            go_simp
            with_reducible rfl
          rotate_left
          · simp only [Act.put, List.setIfInBounds_toArray, List.set_cons_zero, List.set_cons_succ, i64_w, i32_w]
            rfl
          refine pure_ (i := 3) (N := some 32) (v := ?_) (a' := ?_) #[true, false, true, true, false, false, false, false, false] rfl rfl (by kernel_rfl) (fun _ _ _ h => h) (Or.inl ⟨by rfl, ?_⟩) ?_ ?_
          rotate_left
          · intro w'
            go_simp
            with_reducible rfl
          rotate_left
          · simp only [Act.put, List.setIfInBounds_toArray, List.set_cons_zero, List.set_cons_succ, i64_w, i32_w]
            rfl
          refine pure_ (i := 4) (N := some 33) (v := ?_) (a' := ?_) #[true, false, true, true, true, false, false, false, false] rfl rfl (by kernel_rfl) (fun _ _ _ h => h) (Or.inl ⟨by rfl, ?_⟩) ?_ ?_
          rotate_left
          · intro w'
            go_simp
            with_reducible rfl
          rotate_left
          · simp only [Act.put, List.setIfInBounds_toArray, List.set_cons_zero, List.set_cons_succ, i64_w, i32_w]
            rfl
          refine pure_ (i := 6) (N := some 35) (v := ?_) (a' := ?_) #[true, false, true, true, true, false, true, false, false] rfl rfl (by kernel_rfl) (fun _ _ _ h => h) (Or.inl ⟨by rfl, ?_⟩) ?_ ?_
          rotate_left
          · intro w'
            go_simp
            with_reducible rfl
          rotate_left
          · simp only [Act.put, List.setIfInBounds_toArray, List.set_cons_zero, List.set_cons_succ, i64_w, i32_w]
            rfl
          refine take_ (i := 1) (N := some 30) (v := ?_) (a' := ?_) #[true, true, true, true, true, false, true, false, false] rfl rfl (by kernel_rfl) (fun _ _ _ h => h) (Or.inl ⟨by rfl, ?_⟩) hHeld ?_ ?_
          rotate_left
          · rintro w' ⟨s0, s1, s2, s3, s4, s5⟩
            go_simp
            with_reducible rfl
          rotate_left
          · simp only [Act.put, List.setIfInBounds_toArray, List.set_cons_zero, List.set_cons_succ, i64_w, i32_w]
            rfl
          refine take_ (i := 5) (N := some 34) (v := ?_) (a' := ?_) #[true, true, true, true, true, true, true, false, false] rfl rfl (by kernel_rfl) (fun _ _ _ h => h) (Or.inl ⟨by rfl, ?_⟩) hHeld ?_ ?_
          rotate_left
          · rintro w' ⟨s0, s1, s2, s3, s4, s5⟩
            go_simp
            with_reducible rfl
          rotate_left
          · simp only [Act.put, List.setIfInBounds_toArray, List.set_cons_zero, List.set_cons_succ, i64_w, i32_w]
            rfl
          refine one_ (i := 7) (N := some 36) #[true, true, true, true, true, true, true, true, false] rfl rfl (by kernel_rfl) (by decide) (fun K hK => ?_)
          refine goes_ Try.func41 (by kernel_rfl) rfl #[.pointer (some ⟨b, 0, none⟩), .agg #[.string co, .string cu, .bool cr], .string z, .int .u64 now] (by rfl) rfl rfl (by simp only [List.map_toArray, List.map_cons, List.map_nil]; rfl) ?_
          with_reducible refine (HCALL.out).mono ?_
          rintro e w9 ⟨rfl, x9⟩
          refine ⟨_, rfl, ?_⟩
          refine hK.out _ _ ⟨(KF.out _ x9).1, (KF.out _ x9).2.1, (KF.out _ x9).2.2.1, (KF.out _ x9).2.2.2, b1, b2⟩ (fun hHeld => ?_)
          clear hK K
          refine norm_ (a' := ?_) ?_ ?_
          rotate_left
          · show Act.put _ (some 36) _ = _
            simp only [Act.put, List.setIfInBounds_toArray, List.set_cons_zero, List.set_cons_succ, i64_w, i32_w]
            rfl
          refine pure_ (i := 8) (N := some 37) (v := ?_) (a' := ?_) #[true, true, true, true, true, true, true, true, true] rfl rfl (by kernel_rfl) (fun _ _ _ h => h) (Or.inl ⟨by rfl, ?_⟩) ?_ ?_
          rotate_left
          · intro w'
            go_simp
            with_reducible rfl
          rotate_left
          · simp only [Act.put, List.setIfInBounds_toArray, List.set_cons_zero, List.set_cons_succ, i64_w, i32_w]
            rfl
          refine done_ (by kernel_rfl) ?_
          go_wp2_with fail
          go_ret
          exact ⟨ret_bool (by rw [HLOO.out, HST.out]; rfl), (XW.out.drew).trans x9 (by simp)⟩
        | true =>
          go_wp2_with fail
          refine start_ (n := 9) (S := fun w' => w'.cell? ⟨X, 0, none⟩ = some (.string co) ∧ w'.cell? ⟨X, 1, none⟩ = some (.string cu) ∧ w'.cell? ⟨X, 2, none⟩ = some (.bool cr) ∧ w'.cell? ⟨NB, no + i, none⟩ = some (.string z) ∧ (0 : Int) ≤ (i : Int) ∧ (i : Int) < (nn : Int)) (ds := []) #[false, false, false, false, false, false, false, false, false] (by kernel_rfl) rfl rfl ⟨q0, q1, q2, q3, b1, b2⟩ (fun hHeld => ?_)
          refine pure_ (i := 0) (N := some 29) (v := ?_) (a' := ?_) #[true, false, false, false, false, false, false, false, false] rfl rfl (by kernel_rfl) (fun _ _ _ h => h) (Or.inl ⟨by rfl, ?_⟩) ?_ ?_
          rotate_left
          · intro w'
            go_simp
            with_reducible rfl
          rotate_left
          · simp only [Act.put, List.setIfInBounds_toArray, List.set_cons_zero, List.set_cons_succ, i64_w, i32_w]
            rfl
          refine pure_ (i := 2) (N := some 31) (v := ?_) (a' := ?_) #[true, false, true, false, false, false, false, false, false] rfl rfl (by kernel_rfl) (fun _ _ _ h => h) (Or.inl ⟨by rfl, ?_⟩) ?_ ?_
          rotate_left
          · intro w'
            go_simp
            with_reducible rfl
          rotate_left
          · simp only [Act.put, List.setIfInBounds_toArray, List.set_cons_zero, List.set_cons_succ, i64_w, i32_w]
            rfl
          refine pure_ (i := 3) (N := some 32) (v := ?_) (a' := ?_) #[true, false, true, true, false, false, false, false, false] rfl rfl (by kernel_rfl) (fun _ _ _ h => h) (Or.inl ⟨by rfl, ?_⟩) ?_ ?_
          rotate_left
          · intro w'
            go_simp
            with_reducible rfl
          rotate_left
          · simp only [Act.put, List.setIfInBounds_toArray, List.set_cons_zero, List.set_cons_succ, i64_w, i32_w]
            rfl
          refine pure_ (i := 4) (N := some 33) (v := ?_) (a' := ?_) #[true, false, true, true, true, false, false, false, false] rfl rfl (by kernel_rfl) (fun _ _ _ h => h) (Or.inl ⟨by rfl, ?_⟩) ?_ ?_
          rotate_left
          · intro w'
            go_simp
            with_reducible rfl
          rotate_left
          · simp only [Act.put, List.setIfInBounds_toArray, List.set_cons_zero, List.set_cons_succ, i64_w, i32_w]
            rfl
          refine pure_ (i := 6) (N := some 35) (v := ?_) (a' := ?_) #[true, false, true, true, true, false, true, false, false] rfl rfl (by kernel_rfl) (fun _ _ _ h => h) (Or.inl ⟨by rfl, ?_⟩) ?_ ?_
          rotate_left
          · intro w'
            go_simp
            with_reducible rfl
          rotate_left
          · simp only [Act.put, List.setIfInBounds_toArray, List.set_cons_zero, List.set_cons_succ, i64_w, i32_w]
            rfl
          refine take_ (i := 1) (N := some 30) (v := ?_) (a' := ?_) #[true, true, true, true, true, false, true, false, false] rfl rfl (by kernel_rfl) (fun _ _ _ h => h) (Or.inl ⟨by rfl, ?_⟩) hHeld ?_ ?_
          rotate_left
          · rintro w' ⟨s0, s1, s2, s3, s4, s5⟩
            go_simp
            with_reducible rfl
          rotate_left
          · simp only [Act.put, List.setIfInBounds_toArray, List.set_cons_zero, List.set_cons_succ, i64_w, i32_w]
            rfl
          refine take_ (i := 5) (N := some 34) (v := ?_) (a' := ?_) #[true, true, true, true, true, true, true, false, false] rfl rfl (by kernel_rfl) (fun _ _ _ h => h) (Or.inl ⟨by rfl, ?_⟩) hHeld ?_ ?_
          rotate_left
          · rintro w' ⟨s0, s1, s2, s3, s4, s5⟩
            go_simp
            with_reducible rfl
          rotate_left
          · simp only [Act.put, List.setIfInBounds_toArray, List.set_cons_zero, List.set_cons_succ, i64_w, i32_w]
            rfl
          refine one_ (i := 7) (N := some 36) #[true, true, true, true, true, true, true, true, false] rfl rfl (by kernel_rfl) (by decide) (fun K hK => ?_)
          refine goes_ Try.func41 (by kernel_rfl) rfl #[.pointer (some ⟨b, 0, none⟩), .agg #[.string co, .string cu, .bool cr], .string z, .int .u64 now] (by rfl) rfl rfl (by simp only [List.map_toArray, List.map_cons, List.map_nil]; rfl) ?_
          with_reducible refine (HCALL.out).mono ?_
          rintro e w9 ⟨rfl, x9⟩
          refine ⟨_, rfl, ?_⟩
          refine hK.out _ _ ⟨(KF.out _ x9).1, (KF.out _ x9).2.1, (KF.out _ x9).2.2.1, (KF.out _ x9).2.2.2, b1, b2⟩ (fun hHeld => ?_)
          clear hK K
          refine norm_ (a' := ?_) ?_ ?_
          rotate_left
          · show Act.put _ (some 36) _ = _
            simp only [Act.put, List.setIfInBounds_toArray, List.set_cons_zero, List.set_cons_succ, i64_w, i32_w]
            rfl
          refine pure_ (i := 8) (N := some 37) (v := ?_) (a' := ?_) #[true, true, true, true, true, true, true, true, true] rfl rfl (by kernel_rfl) (fun _ _ _ h => h) (Or.inl ⟨by rfl, ?_⟩) ?_ ?_
          rotate_left
          · intro w'
            go_simp
            with_reducible rfl
          rotate_left
          · simp only [Act.put, List.setIfInBounds_toArray, List.set_cons_zero, List.set_cons_succ, i64_w, i32_w]
            rfl
          refine done_ (by kernel_rfl) ?_
          go_wp2_with fail
          exact ⟨⟨i + 1, by omega, by go_num, (HER.out.drew).trans x9 (by simp), by show _ = _; rw [HST.out]; rfl⟩, by simp [intOf]; omega⟩
      · have d1 : decide (i < nn) = false := decide_eq_false hi
        have hfin : ns.all p = true := by rw [hal.out, List.drop_eq_nil_of_le (by rw [HNL.out]; omega)]; rfl
        have HFIN := Lib.hid hfin
        clear hal hfin hX9
        go_wp2_with fail
        go_ret
        exact ⟨ret_bool (by rw [HLOO.out, HFIN.out]), x2.trans her (by simp)⟩

  | false =>
    cases p2 with
    | false =>
      go_wp2_with fail
      refine (HME.out _ x2).mono ?_
      rintro e w2 ⟨rfl, x3⟩
      go_wp2_with fail
      go_ret
      exact ⟨ret_bool (by rw [HCV.out]; rfl), x2.trans x3 (by simp)⟩
    | true =>
      have HLOO := HLO.out (.inr rfl)
      go_wp2_with fail
      refine (HME.out _ x2).mono ?_
      rintro e w2 ⟨rfl, x3⟩
      have x4 := x2.trans x3 (by simp)
      have hX2 := HX1.out.keep x3 (by simp)
      clear HX1 x2 x3
      have HX1 := Lib.hid hX2
      clear hX2
      go_wp2_with fail
      clear q0 q1 q2
      go_loopw [11] (fun iv wx => ∃ (i : Nat), i ≤ nn ∧ iv = .int .i64 i ∧ Ext [] w2 wx ∧ Hid (ns.all p = (ns.drop i).all p)) (fun iv _ => nn - (intOf iv).toNat)
      case atStart => exact ⟨0, Nat.zero_le _, rfl, Ext.refl _ _, by simp [Hid]⟩
      case round =>
        obtain ⟨i, hin, rfl, her, hal⟩ := hrel
        have hX9 := HX1.out.keep her (by simp)
        by_cases hi : i < nn
        · have d1 : decide (i < nn) = true := decide_eq_true hi
          obtain ⟨z, hz⟩ : ∃ z, ns[i]? = some z := ⟨_, List.getElem?_eq_getElem (by rw [HNL.out]; exact hi)⟩
          obtain ⟨NB, no, rfl, hNB, hzc⟩ := HAT.out i z hz
          have xw := x4.trans her (by simp)
          have hz1 := (xw.cell (p := ⟨NB, no + i, none⟩) hNB (by simp)).trans hzc
          have hcall := HHE.out z (HNS.out z (List.mem_of_getElem? hz)) wr.drew xw.drew
          have hdr : ns.drop i = z :: ns.drop (i + 1) := by
            have hjl := (List.getElem?_eq_some_iff.1 hz).1
            have hjv := (List.getElem?_eq_some_iff.1 hz).2
            rw [List.drop_eq_getElem_cons hjl, hjv]
          have hst : ns.all p = (p z && (ns.drop (i + 1)).all p) := by rw [hal.out, hdr, List.all_cons]
          generalize p z = pz at hcall hst
          have b1 : (0 : Int) ≤ (i : Int) := by omega
          have b2 : (i : Int) < (nn : Int) := by omega
          have hkf : ∀ W, Ext [] wr.drew W → W.cell? ⟨X, 0, none⟩ = some (.string co) ∧ W.cell? ⟨X, 1, none⟩ = some (.string cu) ∧ W.cell? ⟨X, 2, none⟩ = some (.bool cr) ∧ W.cell? ⟨NB, no + i, none⟩ = some (.string z) := fun W hW => by
            have h9 := hX9.drew.keep hW (by simp)
            exact ⟨h9.cell 0, h9.cell 1, h9.cell 2, ((xw.drew.trans hW (by simp)).cell (p := ⟨NB, no + i, none⟩) hNB (by simp)).trans hzc⟩
          have q0 := (hkf _ (Ext.refl _ _)).1; have q1 := (hkf _ (Ext.refl _ _)).2.1; have q2 := (hkf _ (Ext.refl _ _)).2.2.1; have q3 := (hkf _ (Ext.refl _ _)).2.2.2
          have HCALL := Lib.hid hcall; have HST := Lib.hid hst; have XW := Lib.hid xw; have HER := Lib.hid her; have KF := Lib.hid hkf
          clear hz hzc hdr hal hcall hst xw her hX9 hkf hz1
          cases pz with
          | false =>
            go_wp2_with fail
            refine start_ (n := 9) (S := fun w' => w'.cell? ⟨X, 0, none⟩ = some (.string co) ∧ w'.cell? ⟨X, 1, none⟩ = some (.string cu) ∧ w'.cell? ⟨X, 2, none⟩ = some (.bool cr) ∧ w'.cell? ⟨NB, no + i, none⟩ = some (.string z) ∧ (0 : Int) ≤ (i : Int) ∧ (i : Int) < (nn : Int)) (ds := []) #[false, false, false, false, false, false, false, false, false] (by kernel_rfl) rfl rfl ⟨q0, q1, q2, q3, b1, b2⟩ (fun hHeld => ?_)
            refine pure_ (i := 0) (N := some 29) (v := ?_) (a' := ?_) #[true, false, false, false, false, false, false, false, false] rfl rfl (by kernel_rfl) (fun _ _ _ h => h) (Or.inl ⟨by rfl, ?_⟩) ?_ ?_
            rotate_left
            · intro w'
              go_simp
              with_reducible rfl
            rotate_left
            · simp only [Act.put, List.setIfInBounds_toArray, List.set_cons_zero, List.set_cons_succ, i64_w, i32_w]
              rfl
            refine pure_ (i := 2) (N := some 31) (v := ?_) (a' := ?_) #[true, false, true, false, false, false, false, false, false] rfl rfl (by kernel_rfl) (fun _ _ _ h => h) (Or.inl ⟨by rfl, ?_⟩) ?_ ?_
            rotate_left
            · intro w'
              go_simp
              with_reducible rfl
            rotate_left
            · simp only [Act.put, List.setIfInBounds_toArray, List.set_cons_zero, List.set_cons_succ, i64_w, i32_w]
              rfl
            refine pure_ (i := 3) (N := some 32) (v := ?_) (a' := ?_) #[true, false, true, true, false, false, false, false, false] rfl rfl (by kernel_rfl) (fun _ _ _ h => h) (Or.inl ⟨by rfl, ?_⟩) ?_ ?_
            rotate_left
            · intro w'
              go_simp
              with_reducible rfl
            rotate_left
            · simp only [Act.put, List.setIfInBounds_toArray, List.set_cons_zero, List.set_cons_succ, i64_w, i32_w]
              rfl
            refine pure_ (i := 4) (N := some 33) (v := ?_) (a' := ?_) #[true, false, true, true, true, false, false, false, false] rfl rfl (by kernel_rfl) (fun _ _ _ h => h) (Or.inl ⟨by rfl, ?_⟩) ?_ ?_
            rotate_left
            · intro w'
              go_simp
              with_reducible rfl
            rotate_left
            · simp only [Act.put, List.setIfInBounds_toArray, List.set_cons_zero, List.set_cons_succ, i64_w, i32_w]
              rfl
            refine pure_ (i := 6) (N := some 35) (v := ?_) (a' := ?_) #[true, false, true, true, true, false, true, false, false] rfl rfl (by kernel_rfl) (fun _ _ _ h => h) (Or.inl ⟨by rfl, ?_⟩) ?_ ?_
            rotate_left
            · intro w'
              go_simp
              with_reducible rfl
            rotate_left
            · simp only [Act.put, List.setIfInBounds_toArray, List.set_cons_zero, List.set_cons_succ, i64_w, i32_w]
              rfl
            refine take_ (i := 1) (N := some 30) (v := ?_) (a' := ?_) #[true, true, true, true, true, false, true, false, false] rfl rfl (by kernel_rfl) (fun _ _ _ h => h) (Or.inl ⟨by rfl, ?_⟩) hHeld ?_ ?_
            rotate_left
            · rintro w' ⟨s0, s1, s2, s3, s4, s5⟩
              go_simp
              with_reducible rfl
            rotate_left
            · simp only [Act.put, List.setIfInBounds_toArray, List.set_cons_zero, List.set_cons_succ, i64_w, i32_w]
              rfl
            refine take_ (i := 5) (N := some 34) (v := ?_) (a' := ?_) #[true, true, true, true, true, true, true, false, false] rfl rfl (by kernel_rfl) (fun _ _ _ h => h) (Or.inl ⟨by rfl, ?_⟩) hHeld ?_ ?_
            rotate_left
            · rintro w' ⟨s0, s1, s2, s3, s4, s5⟩
              go_simp
              with_reducible rfl
            rotate_left
            · simp only [Act.put, List.setIfInBounds_toArray, List.set_cons_zero, List.set_cons_succ, i64_w, i32_w]
              rfl
            refine one_ (i := 7) (N := some 36) #[true, true, true, true, true, true, true, true, false] rfl rfl (by kernel_rfl) (by decide) (fun K hK => ?_)
            refine goes_ Try.func41 (by kernel_rfl) rfl #[.pointer (some ⟨b, 0, none⟩), .agg #[.string co, .string cu, .bool cr], .string z, .int .u64 now] (by rfl) rfl rfl (by simp only [List.map_toArray, List.map_cons, List.map_nil]; rfl) ?_
            with_reducible refine (HCALL.out).mono ?_
            rintro e w9 ⟨rfl, x9⟩
            refine ⟨_, rfl, ?_⟩
            refine hK.out _ _ ⟨(KF.out _ x9).1, (KF.out _ x9).2.1, (KF.out _ x9).2.2.1, (KF.out _ x9).2.2.2, b1, b2⟩ (fun hHeld => ?_)
            clear hK K
            refine norm_ (a' := ?_) ?_ ?_
            rotate_left
            · show Act.put _ (some 36) _ = _
              simp only [Act.put, List.setIfInBounds_toArray, List.set_cons_zero, List.set_cons_succ, i64_w, i32_w]
              rfl
            refine pure_ (i := 8) (N := some 37) (v := ?_) (a' := ?_) #[true, true, true, true, true, true, true, true, true] rfl rfl (by kernel_rfl) (fun _ _ _ h => h) (Or.inl ⟨by rfl, ?_⟩) ?_ ?_
            rotate_left
            · intro w'
              go_simp
              with_reducible rfl
            rotate_left
            · simp only [Act.put, List.setIfInBounds_toArray, List.set_cons_zero, List.set_cons_succ, i64_w, i32_w]
              rfl
            refine done_ (by kernel_rfl) ?_
            go_wp2_with fail
            go_ret
            exact ⟨ret_bool (by rw [HLOO.out, HST.out]; rfl), (XW.out.drew).trans x9 (by simp)⟩
          | true =>
            go_wp2_with fail
            refine start_ (n := 9) (S := fun w' => w'.cell? ⟨X, 0, none⟩ = some (.string co) ∧ w'.cell? ⟨X, 1, none⟩ = some (.string cu) ∧ w'.cell? ⟨X, 2, none⟩ = some (.bool cr) ∧ w'.cell? ⟨NB, no + i, none⟩ = some (.string z) ∧ (0 : Int) ≤ (i : Int) ∧ (i : Int) < (nn : Int)) (ds := []) #[false, false, false, false, false, false, false, false, false] (by kernel_rfl) rfl rfl ⟨q0, q1, q2, q3, b1, b2⟩ (fun hHeld => ?_)
            refine pure_ (i := 0) (N := some 29) (v := ?_) (a' := ?_) #[true, false, false, false, false, false, false, false, false] rfl rfl (by kernel_rfl) (fun _ _ _ h => h) (Or.inl ⟨by rfl, ?_⟩) ?_ ?_
            rotate_left
            · intro w'
              go_simp
              with_reducible rfl
            rotate_left
            · simp only [Act.put, List.setIfInBounds_toArray, List.set_cons_zero, List.set_cons_succ, i64_w, i32_w]
              rfl
            refine pure_ (i := 2) (N := some 31) (v := ?_) (a' := ?_) #[true, false, true, false, false, false, false, false, false] rfl rfl (by kernel_rfl) (fun _ _ _ h => h) (Or.inl ⟨by rfl, ?_⟩) ?_ ?_
            rotate_left
            · intro w'
              go_simp
              with_reducible rfl
            rotate_left
            · simp only [Act.put, List.setIfInBounds_toArray, List.set_cons_zero, List.set_cons_succ, i64_w, i32_w]
              rfl
            refine pure_ (i := 3) (N := some 32) (v := ?_) (a' := ?_) #[true, false, true, true, false, false, false, false, false] rfl rfl (by kernel_rfl) (fun _ _ _ h => h) (Or.inl ⟨by rfl, ?_⟩) ?_ ?_
            rotate_left
            · intro w'
              go_simp
              with_reducible rfl
            rotate_left
            · simp only [Act.put, List.setIfInBounds_toArray, List.set_cons_zero, List.set_cons_succ, i64_w, i32_w]
              rfl
            refine pure_ (i := 4) (N := some 33) (v := ?_) (a' := ?_) #[true, false, true, true, true, false, false, false, false] rfl rfl (by kernel_rfl) (fun _ _ _ h => h) (Or.inl ⟨by rfl, ?_⟩) ?_ ?_
            rotate_left
            · intro w'
              go_simp
              with_reducible rfl
            rotate_left
            · simp only [Act.put, List.setIfInBounds_toArray, List.set_cons_zero, List.set_cons_succ, i64_w, i32_w]
              rfl
            refine pure_ (i := 6) (N := some 35) (v := ?_) (a' := ?_) #[true, false, true, true, true, false, true, false, false] rfl rfl (by kernel_rfl) (fun _ _ _ h => h) (Or.inl ⟨by rfl, ?_⟩) ?_ ?_
            rotate_left
            · intro w'
              go_simp
              with_reducible rfl
            rotate_left
            · simp only [Act.put, List.setIfInBounds_toArray, List.set_cons_zero, List.set_cons_succ, i64_w, i32_w]
              rfl
            refine take_ (i := 1) (N := some 30) (v := ?_) (a' := ?_) #[true, true, true, true, true, false, true, false, false] rfl rfl (by kernel_rfl) (fun _ _ _ h => h) (Or.inl ⟨by rfl, ?_⟩) hHeld ?_ ?_
            rotate_left
            · rintro w' ⟨s0, s1, s2, s3, s4, s5⟩
              go_simp
              with_reducible rfl
            rotate_left
            · simp only [Act.put, List.setIfInBounds_toArray, List.set_cons_zero, List.set_cons_succ, i64_w, i32_w]
              rfl
            refine take_ (i := 5) (N := some 34) (v := ?_) (a' := ?_) #[true, true, true, true, true, true, true, false, false] rfl rfl (by kernel_rfl) (fun _ _ _ h => h) (Or.inl ⟨by rfl, ?_⟩) hHeld ?_ ?_
            rotate_left
            · rintro w' ⟨s0, s1, s2, s3, s4, s5⟩
              go_simp
              with_reducible rfl
            rotate_left
            · simp only [Act.put, List.setIfInBounds_toArray, List.set_cons_zero, List.set_cons_succ, i64_w, i32_w]
              rfl
            refine one_ (i := 7) (N := some 36) #[true, true, true, true, true, true, true, true, false] rfl rfl (by kernel_rfl) (by decide) (fun K hK => ?_)
            refine goes_ Try.func41 (by kernel_rfl) rfl #[.pointer (some ⟨b, 0, none⟩), .agg #[.string co, .string cu, .bool cr], .string z, .int .u64 now] (by rfl) rfl rfl (by simp only [List.map_toArray, List.map_cons, List.map_nil]; rfl) ?_
            with_reducible refine (HCALL.out).mono ?_
            rintro e w9 ⟨rfl, x9⟩
            refine ⟨_, rfl, ?_⟩
            refine hK.out _ _ ⟨(KF.out _ x9).1, (KF.out _ x9).2.1, (KF.out _ x9).2.2.1, (KF.out _ x9).2.2.2, b1, b2⟩ (fun hHeld => ?_)
            clear hK K
            refine norm_ (a' := ?_) ?_ ?_
            rotate_left
            · show Act.put _ (some 36) _ = _
              simp only [Act.put, List.setIfInBounds_toArray, List.set_cons_zero, List.set_cons_succ, i64_w, i32_w]
              rfl
            refine pure_ (i := 8) (N := some 37) (v := ?_) (a' := ?_) #[true, true, true, true, true, true, true, true, true] rfl rfl (by kernel_rfl) (fun _ _ _ h => h) (Or.inl ⟨by rfl, ?_⟩) ?_ ?_
            rotate_left
            · intro w'
              go_simp
              with_reducible rfl
            rotate_left
            · simp only [Act.put, List.setIfInBounds_toArray, List.set_cons_zero, List.set_cons_succ, i64_w, i32_w]
              rfl
            refine done_ (by kernel_rfl) ?_
            go_wp2_with fail
            exact ⟨⟨i + 1, by omega, by go_num, (HER.out.drew).trans x9 (by simp), by show _ = _; rw [HST.out]; rfl⟩, by simp [intOf]; omega⟩
        · have d1 : decide (i < nn) = false := decide_eq_false hi
          have hfin : ns.all p = true := by rw [hal.out, List.drop_eq_nil_of_le (by rw [HNL.out]; omega)]; rfl
          have HFIN := Lib.hid hfin
          clear hal hfin hX9
          go_wp2_with fail
          go_ret
          exact ⟨ret_bool (by rw [HLOO.out, HFIN.out]), x4.trans her (by simp)⟩

end Go.Proofs.Ytkbjpackijdnkaa
