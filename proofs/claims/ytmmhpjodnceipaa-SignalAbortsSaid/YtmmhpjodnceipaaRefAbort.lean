/- The document's signals: Abort, by contract. Began as SgAbort's text, turned. -/
import Derived.Test.YtmmhpjodnceipaaRefUnder
namespace Go.Proofs.Ytmmhpjodnceipaa
open Go.RowKit Go.Proofs.YtmmhpjodnceipaaW.PrintLast
set_option linter.unusedVariables false
set_option linter.unusedSimpArgs false

def RAbortP (b : Nat) (v : Value) (L : List Sg) (id : Int) (w : World) (e : Ending) (w' : World) : Prop :=
  ∃ (a : Option Addr) (c : Nat), e = .returned (.tuple #[.slice a (abM L id).2.1.length c, .int .i64 (abM L id).1]) ∧ RI w' (.slice a (abM L id).2.1.length c) (abM L id).2.1 ∧ (∀ g, (Value.slice a (abM L id).2.1.length c).ownBlock = some g → w.heap.size ≤ g) ∧
    TrR w' b v (abM L id).2.2 ∧ upOwn (abM L id).2.2 = upOwn L ∧ Ext (b :: v.ownBlock.toList) w w'

theorem TrR.off {w : World} {b g n cap i : Nat} {L : List Sg} {s : Sg} (h : TrR w b (.slice (some ⟨g, 0, none⟩) n cap) L) (hs : L[i]? = some s) :
    TrR (w.setCell ⟨g, i * 2 + 1, none⟩ (.bool true)) b (.slice (some ⟨g, 0, none⟩) n cap) (L.set i { s with off := true }) := by
  have he : Ext [g] w (w.setCell ⟨g, i * 2 + 1, none⟩ (.bool true)) := Ext.setCell (Ext.refl _ _) (Or.inl (by simp)) _
  refine ⟨⟨h.ob.blk_at rfl he, ?_, h.ob.ne⟩, fun t ht => ?_⟩
  · exact h.ob.row.put1 encG_ok.len (by omega) hs _ { s with off := true } rfl
  · have hk : ∀ u ∈ L, RI (w.setCell ⟨g, i * 2 + 1, none⟩ (.bool true)) u.row u.up := fun u hu => (h.inn u hu).keep he (fun q hq hm => by
      have := h.apart q (mem_upOwn hu hq)
      simp at hm
      subst hm
      exact this (by simp [Value.ownBlock]))
    rcases List.mem_or_eq_of_mem_set ht with ht | rfl
    · exact hk t ht
    · exact hk s (List.mem_of_getElem? hs)

set_option maxHeartbeats 6400000 in
set_option maxRecDepth 100000 in
theorem rsgAbort_any (b : Nat) (v : Value) (L : List Sg) (id : Int) (hx : L.length < 1000) (hup : ∀ s ∈ L, s.up.length < 100000 ∧ ∀ z ∈ s.up, ∃ q : Nat, z = (q : Int) ∧ q ≤ L.length) (w : World) (h : TrR w b v L) :
    Calls Try.prog 26 #[.pointer (some ⟨b, 0, none⟩), .int .i64 id] w (RAbortP b v L id w) := by
  have hhas := rsgHas_any b v L id (by omega) w h
  have hund := rsgUnder_any b v L id (by omega) hup w h
  have HH := Lib.hid h; have HUND := Lib.hid hund
  cases hq : isS L.length id with
  | false =>
    rw [hq] at hhas
    have hM : abM L id = (11, [], L) := by unfold abM; rw [if_pos hq]
    have HM := Lib.hid hM
    clear h hq hM hund hup
    go_enter Try.func26, Try.ntmps26
    go_wp2_with fail
    refine hhas.mono ?_
    rintro e w1 ⟨rfl, rfl⟩
    go_wp2_with fail
    refine bodyPost_ret (v := .tuple #[.slice none 0 0, .int .i64 11]) (by simp [results, Try.results26, go_sem]) rfl ?_
    unfold RAbortP
    rw [HM.out]
    exact ⟨none, 0, rfl, Rw.nil _, fun g hg => by simp [Value.ownBlock] at hg, HH.out, rfl, Ext.refl _ _⟩
  | true =>
    rw [hq] at hhas
    obtain ⟨i, rfl, hi⟩ := isS_true hq
    obtain ⟨s, hs⟩ : ∃ s, L[i]? = some s := ⟨_, List.getElem?_eq_getElem hi⟩
    have hO := offM_at hs
    obtain ⟨a, cap, rfl⟩ := h.ob.row.val
    obtain ⟨n, hn⟩ : ∃ n, n = L.length := ⟨_, rfl⟩
    have hob := h.ob
    rw [← hn] at hob hi hx HH ⊢
    obtain ⟨g, rfl, hgl⟩ := hob.row.addr (by omega)
    have hcv : w.cell? ⟨b, 0, none⟩ = some (.slice (some ⟨g, 0, none⟩) n cap) := hob.blk.cell 0
    have hc1 := hob.row.cell encG_ok.len hs 1 (by omega)
    simp only [encG, Nat.add_zero, List.getElem?_cons_zero, List.getElem?_cons_succ] at hc1
    have b1 : (0 : Int) ≤ (i : Int) := by omega
    have b2 : (i : Int) < (n : Int) := by omega
    have hii : (i : Int) + 1 - 1 = i := by omega
    have HN := Lib.hid hn
    cases ho : s.off with
    | true =>
      rw [ho] at hO hc1
      have hM : abM L ((i : Int) + 1) = (13, [], L) := by unfold abM; rw [if_neg (by rw [hq]; decide), if_pos hO]
      have HM := Lib.hid hM
      clear h hq hn hs hob hund hup hM hO ho
      go_enter Try.func26, Try.ntmps26
      go_wp2_with fail
      refine hhas.mono ?_
      rintro e w1 ⟨rfl, rfl⟩
      go_wp2_with fail
      refine bodyPost_ret (v := .tuple #[.slice none 0 0, .int .i64 13]) (by simp [results, Try.results26, go_sem]) rfl ?_
      unfold RAbortP
      rw [HM.out]
      exact ⟨none, 0, rfl, Rw.nil _, fun g hg => by simp [Value.ownBlock] at hg, HH.out, rfl, Ext.refl _ _⟩
    | false =>
      rw [ho] at hO hc1
      have hM : abM L ((i : Int) + 1) = (0, (abR L (undL L ((i : Int) + 1))).2, (abR L (undL L ((i : Int) + 1))).1) := by unfold abM; rw [if_neg (by rw [hq]; decide), if_neg (by rw [hO]; decide)]
      have HM := Lib.hid hM
      have hrg : ∀ k ∈ undL L ((i : Int) + 1), ∃ q : Nat, k = (q : Int) + 1 ∧ q < n := fun k hk => by rw [hn]; exact undL_range hk
      have HRG := Lib.hid hrg
      have hlu : (undL L ((i : Int) + 1)).length ≤ n + 1 := by
        unfold undL; rw [if_pos hq]; have := undN_len (ups L) ((i : Int) + 1 - 1).toNat (L.length - ((i : Int) + 1).toNat); omega
      clear h hq hn hs hob hund hup hM hO ho hrg
      generalize undL L ((i : Int) + 1) = us at *
      obtain ⟨ul, hul⟩ : ∃ ul, ul = us.length := ⟨_, rfl⟩
      have HUL := Lib.hid hul
      have hul1 : ul ≤ 1000 := by omega
      clear hul hlu
      go_enter Try.func26, Try.ntmps26
      go_wp2_with fail
      refine hhas.mono ?_
      rintro e w1 ⟨rfl, rfl⟩
      clear hhas
      go_wp2_with fail
      refine HUND.out.mono ?_
      rintro e w1 ⟨la, lc, rfl, hlr, e1, hlf⟩
      rw [← HUL.out] at hlr hlf ⊢
      have HLR := Lib.hid hlr
      have hlr0 := Lib.hid hlf
      have h1 := HH.out.keep0 e1
      have hs1 := e1.size
      clear hcv hc1 hlr hlf HUND
      go_wp2_with fail
      go_loopw [7, 8] (fun ov iv wr => ∃ (j : Nat) (Lj : List Sg) (told : List Int) (a2 : Option Addr) (l2 c2 : Nat), j ≤ ul ∧ l2 ≤ j ∧ iv = .int .i64 j ∧ ov = .slice a2 l2 c2 ∧ TrR wr b (.slice (some ⟨g, 0, none⟩) n cap) Lj ∧ RI wr (.slice a2 l2 c2) told ∧ Ext [b, g] w1 wr ∧ Hid (∀ q, (Value.slice a2 l2 c2).ownBlock = some q → w1.heap.size ≤ q) ∧ Hid (upOwn Lj = upOwn L) ∧ Hid (abR L us = ((abR Lj (us.drop j)).1, told ++ (abR Lj (us.drop j)).2))) (fun _ iv _ => ul - (intOf iv).toNat)
      case atStart => exact ⟨0, L, [], none, 0, 0, Nat.zero_le _, Nat.le_refl _, rfl, rfl, h1, Rw.nil _, Ext.refl _ _, fun q hq => by simp [Value.ownBlock] at hq, rfl, rfl⟩
      case round =>
        obtain ⟨j, Lj, told, a2, l2, c2, hju, hl2, rfl, rfl, hT, hR, her, hfr, hup, hab⟩ := hrel
        clear h1
        have hlb : b < w.heap.size := HH.out.ob.blk.lt
        have hln := hT.ob.row.len
        have hcv : wr.cell? ⟨b, 0, none⟩ = some (.slice (some ⟨g, 0, none⟩) n cap) := hT.ob.blk.cell 0
        by_cases hj : j < ul
        · have d1 : decide (j < ul) = true := decide_eq_true hj
          obtain ⟨k, hk⟩ : ∃ k, us[j]? = some k := ⟨_, List.getElem?_eq_getElem (by rw [← HUL.out]; exact hj)⟩
          obtain ⟨q, rfl, hqn⟩ := HRG.out k (List.mem_of_getElem? hk)
          have hdr : us.drop j = ((q : Int) + 1) :: us.drop (j + 1) := by
            have hjl := (List.getElem?_eq_some_iff.1 hk).1
            have hjv := (List.getElem?_eq_some_iff.1 hk).2
            rw [List.drop_eq_getElem_cons hjl, hjv]
          obtain ⟨s, hs⟩ : ∃ s, Lj[q]? = some s := ⟨_, List.getElem?_eq_getElem (by rw [← hln]; exact hqn)⟩
          have hlk : RI wr (.slice la ul lc) us := HLR.out.keep her (fun x hx hm => by
            have := hlr0.out x hx
            simp at hm; omega)
          obtain ⟨lg, rfl, hlgl⟩ := hlk.addr (by omega)
          have hx0 := hlk.cell encI_ok.len hk 0 (by omega)
          simp only [encI, Nat.add_zero, Nat.mul_one, List.getElem?_cons_zero] at hx0
          have hc1 := hT.ob.row.cell encG_ok.len hs 1 (by omega)
          simp only [encG, Nat.add_zero, List.getElem?_cons_zero, List.getElem?_cons_succ] at hc1
          have hcf := hT.ob.row.free (q * 2 + 1)
          have c1 : (0 : Int) ≤ (j : Int) := by omega
          have c2' : (j : Int) < (ul : Int) := by omega
          have c3 : (0 : Int) ≤ (q : Int) := by omega
          have c4 : (q : Int) < (n : Int) := by omega
          have hqq : (q : Int) + 1 - 1 = q := by omega
          cases ho : s.off with
          | true =>
            rw [ho] at hc1
            have hab2 : abR L us = ((abR Lj (us.drop (j + 1))).1, told ++ (abR Lj (us.drop (j + 1))).2) := by
              have := hab.out
              rw [hdr, abR_off hs ho] at this; exact this
            have HAB2 := Lib.hid hab2; have HT := Lib.hid hT; have HR := Lib.hid hR
            clear hab hab2 hdr hs hk hlk ho hT hR hln
            go_wp2_with fail
            go_quiet (fail)
            go_wp2_with fail
            exact ⟨⟨j + 1, Lj, told, a2, l2, c2, by omega, by omega, by go_num, rfl, HT.out.keep0 ((Ext.refl [] _).drewN _), HR.out.keep ((Ext.refl [] _).drewN _) (by simp), her.drewN _, hfr, hup, HAB2.out⟩, by simp [intOf]; omega⟩
          | false =>
            rw [ho] at hc1
            have hab2 : abR L us = ((abR (Lj.set q { s with off := true }) (us.drop (j + 1))).1, (told ++ [(q : Int) + 1]) ++ (abR (Lj.set q { s with off := true }) (us.drop (j + 1))).2) := by
              have := hab.out
              rw [hdr, abR_on hs ho] at this
              rw [this]; simp
            have hup2 : upOwn (Lj.set q { s with off := true }) = upOwn L := by rw [upOwn_set hs]; exact hup.out
            have hT2 := hT.off hs
            have e2 : Ext [g] wr (wr.setCell ⟨g, q * 2 + 1, none⟩ (.bool true)) := Ext.setCell (Ext.refl _ _) (Or.inl (by simp)) _
            have hgne : ∀ x, (Value.slice a2 l2 c2).ownBlock = some x → x ∉ [b, g] := fun x hx hm => by
              have := hfr.out x hx
              simp at hm; omega
            have hR2 := hR.keep e2 (fun x hx hm => hgne x hx (by simp at hm; simp [hm]))
            have hl63 : l2 + 1 ≤ 1000000 := by omega
            have HLK2 := Lib.hid (hlk.keep e2 (fun x hx hm => by
              have h8 := hlr0.out lg rfl
              have h9 : x = lg := by simpa [Value.ownBlock, eq_comm] using hx
              simp at hm; omega))
            have HKJ := Lib.hid hk
            have hlen : LenIs told [(q : Int) + 1] (l2 + 1) := by unfold LenIs; rw [← hR.len]; rfl
            have HR2 := Lib.hid hR2
            have HAB2 := Lib.hid hab2; have HUP2 := Lib.hid hup2; have HT2 := Lib.hid hT2
            have her2 : Ext [b, g] w1 (wr.setCell ⟨g, q * 2 + 1, none⟩ (.bool true)) := her.trans e2 (by simp)
            have HER2 := Lib.hid her2; have HGNE := Lib.hid hgne
            clear hab hab2 hup hup2 hdr hs hk hlk ho hT hT2 hR hR2 hln e2 her2 hgne
            go_wp2_with fail
            go_quiet (fail)
            go_wp2_with fail
            refine start_ (n := 12) (S := fun w' => w'.cell? ⟨b, 0, none⟩ = some (.slice (some ⟨g, 0, none⟩) n cap) ∧ w'.cell? ⟨lg, j, none⟩ = some (.int .i64 ((q : Int) + 1)) ∧ wrap64 (q : Int) = q ∧ (0 : Int) ≤ (q : Int) ∧ (q : Int) < (n : Int)) (ds := [11]) #[false, false, false, false, false, false, false, false, false, false, false, false] (by kernel_rfl) rfl rfl ⟨hcv, hx0, (by unfold wrap64; omega), c3, c4⟩ (fun hHeld => ?_)
            refine pure_ (i := 0) (N := some 44) (v := ?_) (a' := ?_) #[true, false, false, false, false, false, false, false, false, false, false, false] rfl rfl (by kernel_rfl) (fun _ _ _ h => h) (Or.inl ⟨by rfl, ?_⟩) ?_ ?_
            rotate_left
            · intro w'
              go_simp
              with_reducible rfl
            rotate_left
            · simp only [Act.put, List.setIfInBounds_toArray, List.set_cons_zero, List.set_cons_succ, i64_w, i32_w]
              rfl
            refine pure_ (i := 1) (N := some 45) (v := ?_) (a' := ?_) #[true, true, false, false, false, false, false, false, false, false, false, false] rfl rfl (by kernel_rfl) (fun _ _ _ h => h) (Or.inl ⟨by rfl, ?_⟩) ?_ ?_
            rotate_left
            · intro w'
              go_simp
              with_reducible rfl
            rotate_left
            · simp only [Act.put, List.setIfInBounds_toArray, List.set_cons_zero, List.set_cons_succ, i64_w, i32_w]
              rfl
            refine pure_ (i := 2) (N := some 46) (v := ?_) (a' := ?_) #[true, true, true, false, false, false, false, false, false, false, false, false] rfl rfl (by kernel_rfl) (fun _ _ _ h => h) (Or.inl ⟨by rfl, ?_⟩) ?_ ?_
            rotate_left
            · intro w'
              go_simp
              with_reducible rfl
            rotate_left
            · simp only [Act.put, List.setIfInBounds_toArray, List.set_cons_zero, List.set_cons_succ, i64_w, i32_w]
              rfl
            refine pure_ (i := 4) (N := some 48) (v := ?_) (a' := ?_) #[true, true, true, false, true, false, false, false, false, false, false, false] rfl rfl (by kernel_rfl) (fun _ _ _ h => h) (Or.inl ⟨by rfl, ?_⟩) ?_ ?_
            rotate_left
            · intro w'
              go_simp
              with_reducible rfl
            rotate_left
            · simp only [Act.put, List.setIfInBounds_toArray, List.set_cons_zero, List.set_cons_succ, i64_w, i32_w]
              rfl
            refine pure_ (i := 5) (N := some 49) (v := ?_) (a' := ?_) #[true, true, true, false, true, true, false, false, false, false, false, false] rfl rfl (by kernel_rfl) (fun _ _ _ h => h) (Or.inl ⟨by rfl, ?_⟩) ?_ ?_
            rotate_left
            · intro w'
              go_simp
              with_reducible rfl
            rotate_left
            · simp only [Act.put, List.setIfInBounds_toArray, List.set_cons_zero, List.set_cons_succ, i64_w, i32_w]
              rfl
            refine pure_ (i := 6) (N := some 50) (v := ?_) (a' := ?_) #[true, true, true, false, true, true, true, false, false, false, false, false] rfl rfl (by kernel_rfl) (fun _ _ _ h => h) (Or.inl ⟨by rfl, ?_⟩) ?_ ?_
            rotate_left
            · intro w'
              go_simp
              with_reducible rfl
            rotate_left
            · simp only [Act.put, List.setIfInBounds_toArray, List.set_cons_zero, List.set_cons_succ, i64_w, i32_w]
              rfl
            refine take_ (i := 3) (N := some 47) (v := ?_) (a' := ?_) #[true, true, true, true, true, true, true, false, false, false, false, false] rfl rfl (by kernel_rfl) (fun _ _ _ h => h) (Or.inl ⟨by rfl, ?_⟩) hHeld ?_ ?_
            rotate_left
            · rintro w' ⟨s0, s1, s2, s3, s4⟩
              go_simp
              with_reducible rfl
            rotate_left
            · simp only [Act.put, List.setIfInBounds_toArray, List.set_cons_zero, List.set_cons_succ, i64_w, i32_w]
              rfl
            refine take_ (i := 7) (N := some 51) (v := ?_) (a' := ?_) #[true, true, true, true, true, true, true, true, false, false, false, false] rfl rfl (by kernel_rfl) (fun _ _ _ h => h) (Or.inl ⟨by rfl, ?_⟩) hHeld ?_ ?_
            rotate_left
            · rintro w' ⟨s0, s1, s2, s3, s4⟩
              go_simp
              with_reducible rfl
            rotate_left
            · simp only [Act.put, List.setIfInBounds_toArray, List.set_cons_zero, List.set_cons_succ, i64_w, i32_w]
              rfl
            refine pure_ (i := 8) (N := some 52) (v := ?_) (a' := ?_) #[true, true, true, true, true, true, true, true, true, false, false, false] rfl rfl (by kernel_rfl) (fun _ _ _ h => h) (Or.inl ⟨by rfl, ?_⟩) ?_ ?_
            rotate_left
            · intro w'
              go_simp
              with_reducible rfl
            rotate_left
            · simp only [Act.put, List.setIfInBounds_toArray, List.set_cons_zero, List.set_cons_succ, i64_w, i32_w]
              rfl
            refine pure_ (i := 9) (N := some 53) (v := ?_) (a' := ?_) #[true, true, true, true, true, true, true, true, true, true, false, false] rfl rfl (by kernel_rfl) (fun _ _ _ h => h) (Or.inl ⟨by rfl, ?_⟩) ?_ ?_
            rotate_left
            · intro w'
              go_simp
              with_reducible rfl
            rotate_left
            · simp only [Act.put, List.setIfInBounds_toArray, List.set_cons_zero, List.set_cons_succ, i64_w, i32_w]
              rfl
            refine pure_ (i := 10) (N := some 54) (v := ?_) (a' := ?_) #[true, true, true, true, true, true, true, true, true, true, true, false] rfl rfl (by kernel_rfl) (fun _ _ _ h => h) (Or.inl ⟨by rfl, ?_⟩) ?_ ?_
            rotate_left
            · intro w'
              go_simp
              with_reducible rfl
            rotate_left
            · simp only [Act.put, List.setIfInBounds_toArray, List.set_cons_zero, List.set_cons_succ, i64_w, i32_w]
              rfl
            refine last_ (i := 11) (N := none) #[true, true, true, true, true, true, true, true, true, true, true, true] rfl rfl (by kernel_rfl) (by decide) (fun K hK => ?_)
            refine skip_ (w1 := ?_) (by rfl) rfl ?_ ?_
            rotate_left
            · go_simp
              rfl
            refine hK.out _ _ ?_
            clear hK K
            refine done_ (by kernel_rfl) ?_
            have hcm : (wr.drewN (nq + 1)).setCell ⟨g, q * 2 + 1, none⟩ (.bool true) = (wr.setCell ⟨g, q * 2 + 1, none⟩ (.bool true)).drewN (nq + 1) := by
              unfold World.setCell World.drewN; split <;> rfl
            rw [hcm]
            have kt := HT2.out.keep0 ((Ext.refl [] _).drewN (nq + 1))
            have ke := HER2.out.drewN (nq + 1)
            have kr := HR2.out.keep ((Ext.refl [] _).drewN (nq + 1)) (by simp)
            have kl := HLK2.out.keep ((Ext.refl [] _).drewN (nq + 1)) (by simp)
            clear HT2 HER2 HR2 hcm
            generalize (wr.setCell ⟨g, q * 2 + 1, none⟩ (.bool true)).drewN (nq + 1) = wq at kt ke kr kl ⊢
            have hsl := Sl.new (enc := encI .i64) wq ((q : Int) + 1) 3
            have hrw := kr.alloc (.cells (encI .i64 ((q : Int) + 1)).toArray 3 (0, 0))
            have HT2 := Lib.hid kt; have HER2 := Lib.hid ke
            have hx1 := kl.cell encI_ok.len HKJ.out 0 (by omega)
            simp only [encI, Nat.add_zero, Nat.mul_one, List.getElem?_cons_zero] at hx1
            clear kt ke kr kl hcv hx0 HLK2
            go_wp2_with (at_builtin; refine wpList_appN tyI encI_ok (by rfl) _ _ (by rfl) hrw (by rfl) hsl (by rfl) hlen hl63 ?_)
            intro a5 c5 w5 hr5 hS5 hg5
            have hs3 := HER2.out.size
            have hs4 := her.size
            have hS6 := hS5 (Value.slice a2 l2 c2).ownBlock.toList (by simp +contextual)
            have her5 : Ext [b, g] w1 w5 := (HER2.out.alloc _).trans hS6 (fun x hx => .inr (hfr.out x (by simpa using hx)))
            have hT5 : TrR w5 b (.slice (some ⟨g, 0, none⟩) n cap) (Lj.set q { s with off := true }) := (HT2.out.keep0 ((Ext.refl [] _).alloc _)).keep hS6 (fun x hx hm => by
              have h1 := hfr.out x (by simpa using hm)
              rw [HUP2.out] at hx
              have h2 := HH.out.lt x hx
              omega)
            have hg6 : Hid (∀ x, (Value.slice a5 (l2 + 1) c5).ownBlock = some x → w1.heap.size ≤ x) := fun x hx => (hg5 x hx).elim (hfr.out x) (fun h => by omega)
            have HT5 := Lib.hid hT5; have HR5 := Lib.hid hr5; have HER5 := Lib.hid her5
            clear hS5 hS6 hg5 hT5 hr5 her5 hsl hrw hlen hfr
            go_wp2_with fail
            exact ⟨⟨j + 1, _, told ++ [(q : Int) + 1], a5, l2 + 1, c5, by omega, by omega, by go_num, rfl, HT5.out, HR5.out, HER5.out, hg6, HUP2.out, HAB2.out⟩, by simp [intOf]; omega⟩
        · have d1 : decide (j < ul) = false := decide_eq_false hj
          have hab2 : abR L us = (Lj, told) := by
            have := hab.out
            rw [List.drop_eq_nil_of_le (by have := HUL.out; omega), abR] at this
            rw [this]; simp
          have hlt := hR.len
          have HAB2 := Lib.hid hab2; have HT := Lib.hid hT; have HR := Lib.hid hR; have HLT := Lib.hid hlt
          clear hab hab2 hT hR hln hlt hcv
          go_wp2_with fail
          refine bodyPost_ret (v := .tuple #[.slice a2 l2 c2, .int .i64 0]) (by simp [results, Try.results26, go_sem]) rfl ?_
          have hfin : Ext (b :: (Value.slice (some ⟨g, 0, none⟩) n cap).ownBlock.toList) w wr := (e1.mono (T := [b, g]) (by simp)).trans her (by simp)
          unfold RAbortP
          rw [HM.out, HAB2.out]
          have hl := HLT.out
          subst hl
          exact ⟨a2, c2, rfl, HR.out, fun x hx => Nat.le_trans hs1 (hfr.out x hx), HT.out, hup.out, hfin⟩
end Go.Proofs.Ytmmhpjodnceipaa
