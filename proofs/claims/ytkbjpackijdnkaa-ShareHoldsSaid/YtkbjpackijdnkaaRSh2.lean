/- The document's preflights: Leave, Done, Members, Want, by contract. -/
import Derived.Test.YtkbjpackijdnkaaRSh1
namespace Go.Proofs.Ytkbjpackijdnkaa
open Go.RowKit Go.Proofs.YtkbjpackijdnkaaW.PrintLast
set_option linter.unusedVariables false
set_option linter.unusedSimpArgs false

/-- The document's table as an object. -/
def RH (w : World) (b : Nat) (S : List Nat) (last : Int) (M : List Sk) : Prop := ∃ v L, RhT w b v last L ∧ S = (b :: v.ownBlock.toList) ++ mOwn L ∧ absH L = M
theorem RH.keep {R S : List Nat} {w w' : World} {b : Nat} {last : Int} {M : List Sk} (h : RH w b S last M) (he : Ext R w w') (hR : ∀ x ∈ S, x ∉ R) : RH w' b S last M := by
  obtain ⟨v, L, h, rfl, hm⟩ := h
  exact ⟨v, L, h.keep he hR, rfl, hm⟩
theorem RH.keep0 {S : List Nat} {w w' : World} {b : Nat} {last : Int} {M : List Sk} (h : RH w b S last M) (he : Ext [] w w') : RH w' b S last M := h.keep he (by simp)
theorem RH.lt {S : List Nat} {w : World} {b : Nat} {last : Int} {M : List Sk} (h : RH w b S last M) : ∀ x ∈ S, x < w.heap.size := by
  obtain ⟨v, L, h, rfl, hm⟩ := h
  exact h.lt
theorem RH.row {S : List Nat} {w : World} {b : Nat} {last : Int} {M : List Sk} (h : RH w b S last M) : ∃ a c, w.cell? ⟨b, 1, none⟩ = some (.slice a M.length c) := by
  obtain ⟨v, L, h, rfl, rfl⟩ := h
  obtain ⟨a, cap, rfl⟩ := h.ob.row.val
  rw [absH_len]
  exact ⟨a, cap, h.ob.blk.cell 1⟩
theorem rh_new (w : World) : Calls Try.prog 42 #[] w fun e w' => e = .returned (.pointer (some ⟨w.heap.size, 0, none⟩)) ∧ RH w' w.heap.size [w.heap.size] 0 [] ∧ Ext [] w w' :=
  (rshNew_any w).mono fun _ _ ⟨h1, h2, h3⟩ => ⟨h1, ⟨_, [], h2, rfl, rfl⟩, h3⟩
theorem rshAtE_any (b : Nat) (v : Value) (last : Int) (L : List Sh) (pre : Int) (hx : L.length < 1000000) (w : World) (h : RhT w b v last L) :
    Calls Try.prog 73 #[.pointer (some ⟨b, 0, none⟩), .int .i64 pre] w fun e w' => e = .returned (.int .i64 (idxI (numIs pre) L)) ∧ Ext [] w w' :=
  (rshAt_any b v last L pre hx w h).mono fun _ _ ⟨h1, h2⟩ => ⟨h1, h2 ▸ Ext.refl _ _⟩
theorem rh_of (b : Nat) (S : List Nat) (last : Int) (M : List Sk) (id : Int) (hx : M.length < 1000000) (hu : MemOk M) (w : World) (h : RH w b S last M) :
    Calls Try.prog 48 #[.pointer (some ⟨b, 0, none⟩), .int .i64 id] w fun e w' => e = .returned (.int .i64 (ofA M id)) ∧ w = w' := by
  obtain ⟨v, L, h, rfl, rfl⟩ := h
  rw [absH_len] at hx
  rw [← of_abs]; exact rshOf_any b v last L id hx hu.L w h

set_option maxHeartbeats 1600000 in
set_option maxRecDepth 100000 in
theorem rh_members (b : Nat) (S : List Nat) (last : Int) (M : List Sk) (pre : Int) (hx : M.length < 10000) (hu : MemOk M) (w : World) (h : RH w b S last M) :
    Calls Try.prog 49 #[.pointer (some ⟨b, 0, none⟩), .int .i64 pre] w (MemP (memA M pre) w) := by
  obtain ⟨v, L, h, hS, rfl⟩ := h
  rw [absH_len] at hx
  clear hS
  have hat := rshAtE_any b v last L pre (by omega) w h
  rcases idxI_spec (numIs pre) L with ⟨h1, h2⟩ | ⟨i, s, h1, h2, h3, h4⟩
  · rw [h1] at hat
    have hm : memA (absH L) pre = [] := by
      unfold memA
      rw [List.find?_eq_none.2 (fun x hx => by
        obtain ⟨y, hy, rfl⟩ := List.mem_map.1 hx
        have := h2 y hy
        simp [show numA pre y.abs = false from this])]
      rfl
    have HM := Lib.hid hm; have HAT := Lib.hid hat
    clear h1 h2 hm hat h hx hu
    go_enter Try.func49, Try.ntmps49
    go_wp2_with fail
    refine HAT.out.mono ?_
    rintro e w1 ⟨rfl, e1⟩
    go_wp2_with fail
    refine bodyPost_ret (v := .slice none 0 0) (by simp [results, Try.results49, go_sem]) rfl ?_
    unfold MemP
    rw [HM.out]
    exact ⟨none, 0, rfl, Rw.nil _, e1, fun g hg => by simp [Value.ownBlock] at hg⟩
  · rw [h4] at hat
    have hm : memA (absH L) pre = s.ids := by
      unfold memA
      have : (absH L).find? (numA pre) = some s.abs := by
        have hil := (List.getElem?_eq_some_iff.1 h1).1
        rw [List.find?_eq_some_iff_getElem]
        refine ⟨h2, i, by rw [absH_len]; exact hil, ?_, fun j hji => ?_⟩
        · have := absH_at h1
          rw [List.getElem?_eq_getElem (by rw [absH_len]; exact hil)] at this
          injection this
        · have hjl : j < L.length := by omega
          have := h3 j _ hji (List.getElem?_eq_getElem hjl)
          have e : (absH L)[j]'(by rw [absH_len]; exact hjl) = (L[j]).abs := by unfold absH; rw [List.getElem_map]
          rw [e]
          simp [show numA pre (L[j]).abs = false from this]
      rw [this]; rfl
    obtain ⟨a, cap, rfl⟩ := h.ob.row.val
    obtain ⟨n, hn⟩ : ∃ n, n = L.length := ⟨_, rfl⟩
    have hin : i < n := by rw [hn]; exact (List.getElem?_eq_some_iff.1 h1).1
    rw [← hn] at h hx
    obtain ⟨g, rfl, hgl⟩ := h.ob.row.addr (by omega)
    have hsm := List.mem_of_getElem? h1
    have hids := hu.L s hsm
    obtain ⟨l, hl⟩ : ∃ l, l = s.ids.length := ⟨_, rfl⟩
    have HM := Lib.hid hm; have HAT := Lib.hid hat; have HH := Lib.hid h; have H1 := Lib.hid h1; have HL := Lib.hid hl
    have hl5 : l < 100000 := by omega
    clear h1 h2 h3 h4 hm hat h hn hu hl hids
    go_enter Try.func49, Try.ntmps49
    go_wp2_with fail
    refine HAT.out.mono ?_
    rintro e w1 ⟨rfl, e1⟩
    have h1 := HH.out.keep0 e1
    have hcv : w1.cell? ⟨b, 1, none⟩ = some (.slice (some ⟨g, 0, none⟩) n cap) := h1.ob.blk.cell 1
    have c6 := h1.ob.row.cell encSh_ok.len H1.out 6 (by omega)
    simp only [encSh, Sh.row, List.getElem?_cons_zero, List.getElem?_cons_succ] at c6
    have hri := h1.inn s hsm
    unfold Sh.row at hri
    rw [← HL.out] at c6 hri
    have b1 : (0 : Int) ≤ (i : Int) := by omega
    have b2 : (i : Int) < (n : Int) := by omega
    have hsl := hri.sl
    have hrw : RI w1 (.slice none 0 0) [] := Rw.nil _
    have hlen : LenIs ([] : List Int) s.ids l := by unfold LenIs; rw [HL.out]; simp
    have h63 : l ≤ 1000000 := by omega
    clear h1 hri hsm
    go_wp2_with (at_builtin; refine wpList_appN tyI encI_ok (by rfl) _ _ (by rfl) hrw (by rfl) hsl (by rfl) hlen h63 ?_)
    intro a' c' w5 hr5 hS5 hg5
    have he5 := hS5 [] (by simp [Value.ownBlock])
    have HR5 := Lib.hid hr5; have HE5 := Lib.hid he5; have HG5 := Lib.hid hg5
    clear hr5 hS5 he5 hg5 hsl hrw hlen hcv c6
    go_wp2_with fail
    refine bodyPost_ret (v := .slice a' l c') (by simp [results, Try.results49, go_sem]) rfl ?_
    unfold MemP
    rw [HM.out, ← HL.out]
    exact ⟨a', c', rfl, by simpa using HR5.out, e1.trans HE5.out (by simp), fun g hg => Nat.le_trans e1.size ((HG5.out g hg).elim (fun h => by simp [Value.ownBlock] at h) id)⟩
set_option maxHeartbeats 3200000 in
set_option maxRecDepth 100000 in
theorem rh_want (b : Nat) (S : List Nat) (last : Int) (M : List Sk) (pre : Int) (hx : M.length < 10000) (w : World) (h : RH w b S last M) :
    Calls Try.prog 47 #[.pointer (some ⟨b, 0, none⟩), .int .i64 pre] w fun e w' => e = .returned (.tuple #[.agg (encW (wantA M pre).1).toArray, .bool (wantA M pre).2]) ∧ Ext [] w w' := by
  obtain ⟨v, L, h, hS, rfl⟩ := h
  rw [absH_len] at hx
  clear hS
  have e0 : Ext [] w (w.alloc (.cells #[.string ⟨#[]⟩, .string ⟨#[]⟩, .bool false, .string ⟨#[]⟩, .string ⟨#[]⟩] 44 (0, 0))) := (Ext.refl _ _).alloc _
  have hB : Blk (w.alloc (.cells #[.string ⟨#[]⟩, .string ⟨#[]⟩, .bool false, .string ⟨#[]⟩, .string ⟨#[]⟩] 44 (0, 0))) w.heap.size #[.string ⟨#[]⟩, .string ⟨#[]⟩, .bool false, .string ⟨#[]⟩, .string ⟨#[]⟩] 44 := Blk.new _ _ _
  have hat := rshAtE_any b v last L pre (by omega) _ (h.keep0 e0)
  have HB := Lib.hid hB; have E0 := Lib.hid e0
  rcases idxI_spec (numIs pre) L with ⟨h1, h2⟩ | ⟨i, s, h1, h2, h3, h4⟩
  · rw [h1] at hat
    have hm : wantA (absH L) pre = (noW, false) := by
      unfold wantA
      rw [List.find?_eq_none.2 (fun x hx => by
        obtain ⟨y, hy, rfl⟩ := List.mem_map.1 hx
        have := h2 y hy
        simp [show numA pre y.abs = false from this])]
    have HM := Lib.hid hm; have HAT := Lib.hid hat
    clear h1 h2 hm hat h hx hB e0
    go_enter Try.func47, Try.ntmps47
    go_wp2_with fail
    refine HAT.out.mono ?_
    rintro e w1 ⟨rfl, e1⟩
    have hB1 := HB.out.keep e1 (by simp)
    have ht : w1.there w.heap.size 0 5 := fun j hj => ⟨by rw [Nat.zero_add, hB1.cell j]; match j, hj with | 0, _ => rfl | 1, _ => rfl | 2, _ => rfl | 3, _ => rfl | 4, _ => rfl, hB1.free _⟩
    have hone : (#[Value.string ⟨#[]⟩, .string ⟨#[]⟩, .bool false, .string ⟨#[]⟩, .string ⟨#[]⟩].all (·.oneCell')) = true := by simp [Value.oneCell']
    have hB2 : Blk (w1.setCells w.heap.size 0 [.string ⟨#[]⟩, .string ⟨#[]⟩, .bool false, .string ⟨#[]⟩, .string ⟨#[]⟩]) w.heap.size #[.string ⟨#[]⟩, .string ⟨#[]⟩, .bool false, .string ⟨#[]⟩, .string ⟨#[]⟩] 44 := ((((hB1.set 0 (.string ⟨#[]⟩)).set 1 (.string ⟨#[]⟩)).set 2 (.bool false)).set 3 (.string ⟨#[]⟩)).set 4 (.string ⟨#[]⟩)
    have e4 : Ext [] w (w1.setCells w.heap.size 0 [.string ⟨#[]⟩, .string ⟨#[]⟩, .bool false, .string ⟨#[]⟩, .string ⟨#[]⟩]) := Ext.setCells (Or.inr (Nat.le_refl _)) _ _ _ (E0.out.trans e1 (by simp))
    have HB2 := Lib.hid hB2; have E4 := Lib.hid e4
    have hXl := hB1.lt
    clear hB1 hB2 e4
    go_wp2_with (refine wpList_store_mid ?_ ?_ 44 (.tmp 4) (.tmp 12) ?_ w.heap.size 0 #[.string ⟨#[]⟩, .string ⟨#[]⟩, .bool false, .string ⟨#[]⟩, .string ⟨#[]⟩] ?_ ?_ ht info_wt hone ?_; exact rfl; exact rfl; exact rfl; exact rfl; exact rfl; generalize hW5 : World.setCells w1 w.heap.size 0 _ = w5)
    have hW6 : World.setCells w1 w.heap.size 0 [.string ⟨#[]⟩, .string ⟨#[]⟩, .bool false, .string ⟨#[]⟩, .string ⟨#[]⟩] = w5 := hW5
    rw [hW6] at HB2 E4
    clear hW5 hW6 ht hone
    have k0 := HB2.out.cell 0; have k1 := HB2.out.cell 1; have k2 := HB2.out.cell 2; have k3 := HB2.out.cell 3; have k4 := HB2.out.cell 4
    simp only [List.getElem?_toArray, List.getElem?_cons_zero, List.getElem?_cons_succ] at k0 k1 k2 k3 k4
    go_wp2_with fail
    refine bodyPost_ret (v := .tuple #[.agg #[.string ⟨#[]⟩, .string ⟨#[]⟩, .bool false, .string ⟨#[]⟩, .string ⟨#[]⟩], .bool false]) (by simp [results, Try.results47, go_sem, k0, k1, k2, k3, k4]) rfl ?_
    rw [HM.out]
    exact ⟨rfl, E4.out⟩
  · rw [h4] at hat
    have hm : wantA (absH L) pre = (s.want, true) := by
      unfold wantA
      have : (absH L).find? (numA pre) = some s.abs := by
        have hil := (List.getElem?_eq_some_iff.1 h1).1
        rw [List.find?_eq_some_iff_getElem]
        refine ⟨h2, i, by rw [absH_len]; exact hil, ?_, fun j hji => ?_⟩
        · have := absH_at h1
          rw [List.getElem?_eq_getElem (by rw [absH_len]; exact hil)] at this
          injection this
        · have hjl : j < L.length := by omega
          have := h3 j _ hji (List.getElem?_eq_getElem hjl)
          have e : (absH L)[j]'(by rw [absH_len]; exact hjl) = (L[j]).abs := by unfold absH; rw [List.getElem_map]
          rw [e]
          simp [show numA pre (L[j]).abs = false from this]
      rw [this]; rfl
    obtain ⟨a, cap, rfl⟩ := h.ob.row.val
    obtain ⟨n, hn⟩ : ∃ n, n = L.length := ⟨_, rfl⟩
    have hin : i < n := by rw [hn]; exact (List.getElem?_eq_some_iff.1 h1).1
    rw [← hn] at h hx
    obtain ⟨g, rfl, hgl⟩ := h.ob.row.addr (by omega)
    have HM := Lib.hid hm; have HAT := Lib.hid hat; have HH := Lib.hid h; have H1 := Lib.hid h1
    clear h1 h2 h3 h4 hm hat h hn hB e0
    go_enter Try.func47, Try.ntmps47
    go_wp2_with fail
    refine HAT.out.mono ?_
    rintro e w1 ⟨rfl, e1⟩
    have h1 := HH.out.keep0 (E0.out.trans e1 (by simp))
    have hcv : w1.cell? ⟨b, 1, none⟩ = some (.slice (some ⟨g, 0, none⟩) n cap) := h1.ob.blk.cell 1
    have c1 := h1.ob.row.cell encSh_ok.len H1.out 1 (by omega); have c2 := h1.ob.row.cell encSh_ok.len H1.out 2 (by omega); have c3 := h1.ob.row.cell encSh_ok.len H1.out 3 (by omega); have c4 := h1.ob.row.cell encSh_ok.len H1.out 4 (by omega); have c5 := h1.ob.row.cell encSh_ok.len H1.out 5 (by omega)
    simp only [encSh, List.getElem?_cons_zero, List.getElem?_cons_succ] at c1 c2 c3 c4 c5
    have b1 : (0 : Int) ≤ (i : Int) := by omega
    have b2 : (i : Int) < (n : Int) := by omega
    have hB1 := HB.out.keep e1 (by simp)
    clear h1
    have ht : w1.there w.heap.size 0 5 := fun j hj => ⟨by rw [Nat.zero_add, hB1.cell j]; match j, hj with | 0, _ => rfl | 1, _ => rfl | 2, _ => rfl | 3, _ => rfl | 4, _ => rfl, hB1.free _⟩
    have hone : (#[Value.string s.want.org, .string s.want.url, .bool s.want.creds, .string s.want.meth, .string s.want.names].all (·.oneCell')) = true := by simp [Value.oneCell']
    have hB2 : Blk (w1.setCells w.heap.size 0 [.string s.want.org, .string s.want.url, .bool s.want.creds, .string s.want.meth, .string s.want.names]) w.heap.size #[.string s.want.org, .string s.want.url, .bool s.want.creds, .string s.want.meth, .string s.want.names] 44 := ((((hB1.set 0 (.string s.want.org)).set 1 (.string s.want.url)).set 2 (.bool s.want.creds)).set 3 (.string s.want.meth)).set 4 (.string s.want.names)
    have e4 : Ext [] w (w1.setCells w.heap.size 0 [.string s.want.org, .string s.want.url, .bool s.want.creds, .string s.want.meth, .string s.want.names]) := Ext.setCells (Or.inr (Nat.le_refl _)) _ _ _ (E0.out.trans e1 (by simp))
    have HB2 := Lib.hid hB2; have E4 := Lib.hid e4
    have hXl := hB1.lt
    clear hB1 hB2 e4
    go_wp2_with (refine wpList_store_mid ?_ ?_ 44 (.tmp 4) (.tmp 20) ?_ w.heap.size 0 #[.string s.want.org, .string s.want.url, .bool s.want.creds, .string s.want.meth, .string s.want.names] ?_ ?_ ht info_wt hone ?_; exact rfl; exact rfl; exact rfl; exact rfl; exact rfl; generalize hW5 : World.setCells w1 w.heap.size 0 _ = w5)
    have hW6 : World.setCells w1 w.heap.size 0 [.string s.want.org, .string s.want.url, .bool s.want.creds, .string s.want.meth, .string s.want.names] = w5 := hW5
    rw [hW6] at HB2 E4
    clear hW5 hW6 ht hone
    have k0 := HB2.out.cell 0; have k1 := HB2.out.cell 1; have k2 := HB2.out.cell 2; have k3 := HB2.out.cell 3; have k4 := HB2.out.cell 4
    simp only [List.getElem?_toArray, List.getElem?_cons_zero, List.getElem?_cons_succ] at k0 k1 k2 k3 k4
    go_wp2_with fail
    refine bodyPost_ret (v := .tuple #[.agg #[.string s.want.org, .string s.want.url, .bool s.want.creds, .string s.want.meth, .string s.want.names], .bool true]) (by simp [results, Try.results47, go_sem, k0, k1, k2, k3, k4]) rfl ?_
    rw [HM.out]
    exact ⟨rfl, E4.out⟩


def RDoneP (b : Nat) (S : List Nat) (last : Int) (M : List Sk) (pre : Int) (w : World) (e : Ending) (w' : World) : Prop :=
  ∃ (a : Option Addr) (c : Nat), e = .returned (.slice a (doneA M pre).1.length c) ∧ RI w' (.slice a (doneA M pre).1.length c) (doneA M pre).1 ∧ (∀ g, (Value.slice a (doneA M pre).1.length c).ownBlock = some g → g ∈ S) ∧ Chg (fun w' S' => RH w' b S' last (doneA M pre).2) S w w'

set_option maxHeartbeats 3200000 in
set_option maxRecDepth 100000 in
theorem rh_done (b : Nat) (S : List Nat) (last : Int) (M : List Sk) (pre : Int) (hx : M.length < 10000) (w : World) (h : RH w b S last M) :
    Calls Try.prog 46 #[.pointer (some ⟨b, 0, none⟩), .int .i64 pre] w (RDoneP b S last M pre w) := by
  obtain ⟨v, L, h, hS, rfl⟩ := h
  rw [absH_len] at hx
  unfold RDoneP
  have hat := rshAt_any b v last L pre (by omega) w h
  rcases idxI_spec (numIs pre) L with ⟨h1, h2⟩ | ⟨i, s, h1, h2, h3, h4⟩
  · rw [h1] at hat
    have hm : doneA (absH L) pre = ([], absH L) := by
      unfold doneA
      have : (absH L).findIdx? (numA pre) = none := by
        rw [List.findIdx?_eq_none_iff]
        intro x hx
        obtain ⟨y, hy, rfl⟩ := List.mem_map.1 hx
        exact h2 y hy
      rw [this]
    have HM := Lib.hid hm; have HAT := Lib.hid hat; have HH := Lib.hid h; have HS := Lib.hid hS
    clear h1 h2 hm hat h hx hS
    go_enter Try.func46, Try.ntmps46
    go_wp2_with fail
    refine HAT.out.mono ?_
    rintro e w1 ⟨rfl, rfl⟩
    go_wp2_with fail
    refine bodyPost_ret (v := .slice none 0 0) (by simp [results, Try.results46, go_sem]) rfl ?_
    rw [HM.out]
    exact ⟨none, 0, rfl, Rw.nil _, fun g hg => by simp [Value.ownBlock] at hg, S, ⟨v, L, HH.out, HS.out, rfl⟩, Ext.refl _ _, fun x hx => .inl hx⟩
  · rw [h4] at hat
    have hf : (absH L).findIdx? (numA pre) = some i := by
      refine find_of (absH_at h1) h2 (fun j y hj hy => ?_)
      unfold absH at hy
      rw [List.getElem?_map] at hy
      obtain ⟨z, hz, rfl⟩ := Option.map_eq_some_iff.1 hy
      exact h3 j z hj hz
    have hm : doneA (absH L) pre = (s.ids, absH (L.eraseIdx i)) := by
      unfold doneA
      rw [hf, absH_erase]
      simp only [absH_at h1]
      rfl
    obtain ⟨a, cap, rfl⟩ := h.ob.row.val
    obtain ⟨n, hn⟩ : ∃ n, n = L.length := ⟨_, rfl⟩
    have hin : i < n := by rw [hn]; exact (List.getElem?_eq_some_iff.1 h1).1
    rw [← hn] at h hx hS
    obtain ⟨g, rfl, hgl⟩ := h.ob.row.addr (by omega)
    have hcv : w.cell? ⟨b, 1, none⟩ = some (.slice (some ⟨g, 0, none⟩) n cap) := h.ob.blk.cell 1
    have c6 := h.ob.row.cell encSh_ok.len h1 6 (by omega)
    simp only [encSh, Sh.row, List.getElem?_cons_zero, List.getElem?_cons_succ] at c6
    have b1 : (0 : Int) ≤ (i : Int) := by omega
    have b2 : (i : Int) < (n : Int) := by omega
    have hout := rshOut_any b g n cap i last L hin (by omega) w h
    have HM := Lib.hid hm; have HAT := Lib.hid hat; have HH := Lib.hid h; have HS := Lib.hid hS; have H1 := Lib.hid h1; have HOUT := Lib.hid hout
    clear h1 h2 h3 h4 hm hat h hS hf hn hout
    go_enter Try.func46, Try.ntmps46
    go_wp2_with fail
    refine HAT.out.mono ?_
    rintro e w1 ⟨rfl, rfl⟩
    go_wp2_with fail
    refine HOUT.out.mono ?_
    rintro e w4 ⟨rfl, S4, ⟨v4, h4, rfl⟩, e4, g4⟩
    go_wp2_with fail
    refine bodyPost_ret (v := .slice s.ma s.ids.length s.mc) (by simp [results, Try.results46, go_sem]) rfl ?_
    have hsm := List.mem_of_getElem? H1.out
    rw [HM.out]
    refine ⟨s.ma, s.mc, rfl, (HH.out.inn s hsm).keep e4 (fun x hx hm => HH.out.apart x (mem_mOwn hsm hx) (by simpa [Value.ownBlock] using hm)), fun x hx => by rw [HS.out]; exact List.mem_append_right _ (mem_mOwn hsm hx), _, ⟨v4, L.eraseIdx i, h4, rfl, rfl⟩, e4.mono (fun x hx => .inl (by rw [HS.out]; exact List.mem_append_left _ (by simpa [Value.ownBlock] using hx))), ?_⟩
    intro x hx
    rcases List.mem_append.1 hx with hx | hx
    · rcases g4 x hx with h8 | h8
      · exact .inl (by rw [HS.out]; exact List.mem_append_left _ (by simpa [Value.ownBlock] using h8))
      · exact .inr h8
    · exact .inl (by rw [HS.out]; exact List.mem_append_right _ ((mOwn_erase L i).subset hx))

/-- Each preflight has a number, and each member once. -/
def InvS (M : List Sk) : Prop := ∀ s ∈ M, 1 ≤ s.num ∧ s.ids.Nodup
theorem filter_off {L : List Int} (hn : L.Nodup) : ∀ {p : Nat} {id : Int}, L[p]? = some id → (L.filter fun x => !(x == id)) = L.take p ++ L.drop (p + 1) := by
  induction L with
  | nil => intro p id h; simp at h
  | cons z r ih =>
    intro p id h
    rw [List.nodup_cons] at hn
    cases p with
    | zero =>
      simp at h; subst h
      have : (r.filter fun x => !(x == z)) = r := by
        rw [List.filter_eq_self]
        intro x hx
        have : x ≠ z := fun e => hn.1 (e ▸ hx)
        simp [this]
      simp [this]
    | succ p =>
      simp at h
      have hz : z ≠ id := fun e => hn.1 (e ▸ List.mem_of_getElem? h)
      have := ih hn.2 h
      simp [hz, this]

def RLeaveP (b : Nat) (S : List Nat) (last : Int) (M : List Sk) (id : Int) (w : World) (e : Ending) (w' : World) : Prop :=
  e = .returned (.tuple #[.int .i64 (leaveA M id).1.1, .bool (leaveA M id).1.2.1, .bool (leaveA M id).1.2.2]) ∧ Chg (fun w' S' => RH w' b S' last (leaveA M id).2) S w w'

theorem leave_none {L : List Sh} {id : Int} (h : ∀ (j : Nat) x, L[j]? = some x → holds id x = false) : leaveA (absH L) id = ((0, false, false), absH L) := by
  unfold leaveA
  have : (absH L).findIdx? (holdsA id) = none := by
    rw [List.findIdx?_eq_none_iff]
    intro x hx
    obtain ⟨y, hy, rfl⟩ := List.mem_map.1 hx
    obtain ⟨j, hj⟩ := List.mem_iff_getElem?.1 hy
    exact h j y hj
  rw [this]
theorem leave_some {L : List Sh} {id : Int} {i : Nat} {s : Sh} (h1 : L[i]? = some s) (h2 : holds id s = true) (h3 : ∀ (j : Nat) x, j < i → L[j]? = some x → holds id x = false) (a : Option Addr) (c : Nat) {ids' : List Int} (hi : (s.ids.filter fun x => !(x == id)) = ids') :
    leaveA (absH L) id = if ids'.length = 0 then ((s.num, true, true), absH ((L.set i ⟨s.num, s.want, a, c, ids'⟩).eraseIdx i)) else ((s.num, false, true), absH (L.set i ⟨s.num, s.want, a, c, ids'⟩)) := by
  have hf : (absH L).findIdx? (holdsA id) = some i := by
    refine find_of (absH_at h1) h2 (fun j y hj hy => ?_)
    unfold absH at hy
    rw [List.getElem?_map] at hy
    obtain ⟨z, hz, rfl⟩ := Option.map_eq_some_iff.1 hy
    exact h3 j z hj hz
  unfold leaveA
  rw [hf, absH_erase, absH_set]
  simp only [absH_at h1]
  have : (s.abs.ids.filter fun x => !(x == id)) = ids' := hi
  rw [this]
  rfl
theorem wn1' {p : Nat} (h : p ≤ 1000000) : wrap64 ((p : Int) + 1) = (p : Int) + 1 := by unfold wrap64; omega

set_option maxHeartbeats 16000000 in
set_option maxRecDepth 100000 in
theorem rh_leave (b : Nat) (S : List Nat) (last : Int) (M : List Sk) (id : Int) (hx : M.length < 10000) (hu : MemOk M) (hv : InvS M) (w : World) (h : RH w b S last M) :
    Calls Try.prog 44 #[.pointer (some ⟨b, 0, none⟩), .int .i64 id] w (RLeaveP b S last M id w) := by
  obtain ⟨v, L, h, hS, rfl⟩ := h
  rw [absH_len] at hx
  unfold RLeaveP
  obtain ⟨a, cap, rfl⟩ := h.ob.row.val
  obtain ⟨n, hn⟩ : ∃ n, n = L.length := ⟨_, rfl⟩
  rw [← hn] at h hS hx
  have hcv : w.cell? ⟨b, 1, none⟩ = some (.slice a n cap) := h.ob.blk.cell 1
  have HN := Lib.hid hn; have HT := Lib.hid h; have HI := Lib.hid hu.L; have HV := Lib.hid hv; have HS := Lib.hid hS
  clear hn h hu hv hS
  go_enter Try.func44, Try.ntmps44
  go_wp2_with fail
  go_loop [7] (fun iv => ∃ (i : Nat), i ≤ n ∧ iv = .int .i64 i ∧ Hid (∀ (j : Nat) x, j < i → L[j]? = some x → holds id x = false)) (fun iv => n - (intOf iv).toNat)
  case atStart => exact ⟨0, Nat.zero_le _, rfl, fun j x hj => absurd hj (Nat.not_lt_zero _)⟩
  case round =>
    obtain ⟨i, hkn, rfl, hall⟩ := hrel
    by_cases hlt : i < n
    · obtain ⟨s, hxk⟩ : ∃ x, L[i]? = some x := ⟨_, List.getElem?_eq_getElem (by rw [← HN.out]; exact hlt)⟩
      have d1 : decide (i < n) = true := decide_eq_true hlt
      have hr := HT.out.ob.row
      obtain ⟨g, rfl, hgl⟩ := hr.addr (by omega)
      have c0 := hr.cell encSh_ok.len hxk 0 (by omega)
      have c6 := hr.cell encSh_ok.len hxk 6 (by omega)
      simp only [encSh, Sh.row, Nat.add_zero, List.getElem?_cons_zero, List.getElem?_cons_succ] at c0 c6
      have b1 : (0 : Int) ≤ (i : Int) := by omega
      have b2 : (i : Int) < (n : Int) := by omega
      have hxm := List.mem_of_getElem? hxk
      have hri := HT.out.inn s hxm
      have hxl := HI.out s hxm
      have hnd : s.ids.Nodup := (HV.out s.abs (List.mem_map.2 ⟨s, hxm, rfl⟩)).2
      unfold Sh.row at hri
      obtain ⟨l, hl⟩ : ∃ l, l = s.ids.length := ⟨_, rfl⟩
      rw [← hl] at c6 hri hxl
      have H1 := Lib.hid hxk; have HRI := Lib.hid hri; have HL := Lib.hid hl; have HND := Lib.hid hnd
      clear hr hxk hri hl hxm hnd
      go_wp2_with fail
      go_loop [8] (fun jv => ∃ (j : Nat), j ≤ l ∧ jv = .int .i64 j ∧ Hid (∀ (q : Nat) y, q < j → s.ids[q]? = some y → (y == id) = false)) (fun jv => l - (intOf jv).toNat)
      case atStart => exact ⟨0, Nat.zero_le _, rfl, fun j x hj => absurd hj (Nat.not_lt_zero _)⟩
      case round =>
        obtain ⟨j, hjl, rfl, hall2⟩ := hrel
        by_cases hjt : j < l
        · have d2 : decide (j < l) = true := decide_eq_true hjt
          obtain ⟨y, hy⟩ : ∃ y, s.ids[j]? = some y := ⟨_, List.getElem?_eq_getElem (by rw [← HL.out]; exact hjt)⟩
          obtain ⟨ig, hma, hig⟩ := HRI.out.addr (by omega)
          rw [hma] at c6
          have hri2 := HRI.out
          rw [hma] at hri2
          have i0 := hri2.cell encI_ok.len hy 0 (by omega)
          simp only [encI, Nat.add_zero, Nat.mul_one, List.getElem?_cons_zero] at i0
          have b3 : (0 : Int) ≤ (j : Int) := by omega
          have b4 : (j : Int) < (l : Int) := by omega
          have HY := Lib.hid hy; have HMA := Lib.hid hma; have HRI2 := Lib.hid hri2
          clear hy hma hri2
          cases hq : (y == id)
          · have HQ := Lib.hid hq
            go_wp2_with fail
            refine ⟨⟨j + 1, by omega, rfl, ?_⟩, by simp [intOf]; omega⟩
            intro q z hqj hz
            rcases Nat.lt_or_ge q j with h1 | h1
            · exact hall2.out q z h1 hz
            · have : q = j := by omega
              rw [this, HY.out] at hz
              injection hz with hz
              rw [← hz]; exact HQ.out
          · have hye : y = id := by simpa using hq
            subst hye
            have hh : holds y s = true := by unfold holds; exact hasI_true HY.out
            have hfo := filter_off HND.out HY.out
            obtain ⟨k, hk⟩ : ∃ k, k = l - 1 := ⟨_, rfl⟩
            have hl' : k = (s.ids.take j ++ s.ids.drop (j + 1)).length := by rw [List.length_append, List.length_take, List.length_drop]; have := HL.out; omega
            have hlA : LenIs ([] : List Int) (s.ids.take j) j := by unfold LenIs; rw [List.length_take]; have := HL.out; simp; omega
            have hlB : LenIs (s.ids.take j) (s.ids.drop (j + 1)) k := by unfold LenIs; rw [List.length_take, List.length_drop]; have := HL.out; omega
            have hl36 : k ≤ 1000000 := by omega
            have hp6 : j ≤ 1000000 := by omega
            clear hk
            have hcap := HRI2.out.cap_le
            have hsa := HRI2.out.drew.takeSl encI_ok.len (i := j) (by omega) s.mc
            have hsb := HRI2.out.drew.tailSl encI_ok.len (i := j + 1) (by omega)
            rw [Nat.mul_one] at hsb
            have f1 : (j : Int) ≤ (s.mc : Int) := by omega
            have f2 : (j : Int) + 1 ≤ (l : Int) := by omega
            have f3 : (0 : Int) ≤ (j : Int) + 1 := by omega
            have f4 : ((j : Int) + 1).toNat = j + 1 := by omega
            have kk : ∀ W, Ext [] w W → W.cell? ⟨b, 1, none⟩ = some (.slice (some ⟨g, 0, none⟩) n cap) ∧ W.cell? ⟨g, i * 7 + 6, none⟩ = some (.slice (some ⟨ig, 0, none⟩) l s.mc) ∧ W.frozen? ⟨g, i * 7 + 6, none⟩ = false := fun W hW => by
              have ho := HT.out.ob.keep hW (by simp)
              have h6 := ho.row.cell encSh_ok.len H1.out 6 (by omega)
              simp only [encSh, Sh.row, List.getElem?_cons_zero, List.getElem?_cons_succ] at h6
              rw [← HL.out, HMA.out] at h6
              exact ⟨ho.blk.cell 1, h6, ho.row.free _⟩
            have KK := Lib.hid kk; have HSA := Lib.hid hsa; have HSB := Lib.hid hsb; have HLA := Lib.hid hlA; have HLB := Lib.hid hlB; have HL' := Lib.hid hl'; have HFO := Lib.hid hfo; have HHO := Lib.hid hh
            clear kk hsa hsb hlA hlB hl' hfo hh hq hall2
            have f5 := wn1' hp6
            go_wp2_with fail
            refine start_ (n := 31) (S := fun w' => w'.cell? ⟨b, 1, none⟩ = some (.slice (some ⟨g, 0, none⟩) n cap) ∧ w'.cell? ⟨g, i * 7 + 6, none⟩ = some (.slice (some ⟨ig, 0, none⟩) l s.mc) ∧ (0 : Int) ≤ (i : Int) ∧ (i : Int) < (n : Int)) (ds := [30]) #[false, false, false, false, false, false, false, false, false, false, false, false, false, false, false, false, false, false, false, false, false, false, false, false, false, false, false, false, false, false, false] (by kernel_rfl) rfl rfl ⟨hcv, c6, b1, b2⟩ (fun hHeld => ?_)
            refine pure_ (i := 0) (N := some 54) (v := ?_) (a' := ?_) #[true, false, false, false, false, false, false, false, false, false, false, false, false, false, false, false, false, false, false, false, false, false, false, false, false, false, false, false, false, false, false] rfl rfl (by kernel_rfl) (fun _ _ _ h => h) (Or.inl ⟨by rfl, ?_⟩) ?_ ?_
            rotate_left
            · intro w'
              go_simp
              with_reducible rfl
            rotate_left
            · simp only [Act.put, List.setIfInBounds_toArray, List.set_cons_zero, List.set_cons_succ, i64_w, i32_w]
              rfl
            refine pure_ (i := 1) (N := some 55) (v := ?_) (a' := ?_) #[true, true, false, false, false, false, false, false, false, false, false, false, false, false, false, false, false, false, false, false, false, false, false, false, false, false, false, false, false, false, false] rfl rfl (by kernel_rfl) (fun _ _ _ h => h) (Or.inl ⟨by rfl, ?_⟩) ?_ ?_
            rotate_left
            · intro w'
              go_simp
              with_reducible rfl
            rotate_left
            · simp only [Act.put, List.setIfInBounds_toArray, List.set_cons_zero, List.set_cons_succ, i64_w, i32_w]
              rfl
            refine pure_ (i := 2) (N := some 56) (v := ?_) (a' := ?_) #[true, true, true, false, false, false, false, false, false, false, false, false, false, false, false, false, false, false, false, false, false, false, false, false, false, false, false, false, false, false, false] rfl rfl (by kernel_rfl) (fun _ _ _ h => h) (Or.inl ⟨by rfl, ?_⟩) ?_ ?_
            rotate_left
            · intro w'
              go_simp
              with_reducible rfl
            rotate_left
            · simp only [Act.put, List.setIfInBounds_toArray, List.set_cons_zero, List.set_cons_succ, i64_w, i32_w]
              rfl
            refine pure_ (i := 4) (N := some 58) (v := ?_) (a' := ?_) #[true, true, true, false, true, false, false, false, false, false, false, false, false, false, false, false, false, false, false, false, false, false, false, false, false, false, false, false, false, false, false] rfl rfl (by kernel_rfl) (fun _ _ _ h => h) (Or.inl ⟨by rfl, ?_⟩) ?_ ?_
            rotate_left
            · intro w'
              go_simp
              with_reducible rfl
            rotate_left
            · simp only [Act.put, List.setIfInBounds_toArray, List.set_cons_zero, List.set_cons_succ, i64_w, i32_w]
              rfl
            refine pure_ (i := 5) (N := some 59) (v := ?_) (a' := ?_) #[true, true, true, false, true, true, false, false, false, false, false, false, false, false, false, false, false, false, false, false, false, false, false, false, false, false, false, false, false, false, false] rfl rfl (by kernel_rfl) (fun _ _ _ h => h) (Or.inl ⟨by rfl, ?_⟩) ?_ ?_
            rotate_left
            · intro w'
              go_simp
              with_reducible rfl
            rotate_left
            · simp only [Act.put, List.setIfInBounds_toArray, List.set_cons_zero, List.set_cons_succ, i64_w, i32_w]
              rfl
            refine pure_ (i := 6) (N := some 60) (v := ?_) (a' := ?_) #[true, true, true, false, true, true, true, false, false, false, false, false, false, false, false, false, false, false, false, false, false, false, false, false, false, false, false, false, false, false, false] rfl rfl (by kernel_rfl) (fun _ _ _ h => h) (Or.inl ⟨by rfl, ?_⟩) ?_ ?_
            rotate_left
            · intro w'
              go_simp
              with_reducible rfl
            rotate_left
            · simp only [Act.put, List.setIfInBounds_toArray, List.set_cons_zero, List.set_cons_succ, i64_w, i32_w]
              rfl
            refine pure_ (i := 7) (N := some 61) (v := ?_) (a' := ?_) #[true, true, true, false, true, true, true, true, false, false, false, false, false, false, false, false, false, false, false, false, false, false, false, false, false, false, false, false, false, false, false] rfl rfl (by kernel_rfl) (fun _ _ _ h => h) (Or.inl ⟨by rfl, ?_⟩) ?_ ?_
            rotate_left
            · intro w'
              go_simp
              with_reducible rfl
            rotate_left
            · simp only [Act.put, List.setIfInBounds_toArray, List.set_cons_zero, List.set_cons_succ, i64_w, i32_w]
              rfl
            refine pure_ (i := 9) (N := some 63) (v := ?_) (a' := ?_) #[true, true, true, false, true, true, true, true, false, true, false, false, false, false, false, false, false, false, false, false, false, false, false, false, false, false, false, false, false, false, false] rfl rfl (by kernel_rfl) (fun _ _ _ h => h) (Or.inl ⟨by rfl, ?_⟩) ?_ ?_
            rotate_left
            · intro w'
              go_simp
              with_reducible rfl
            rotate_left
            · simp only [Act.put, List.setIfInBounds_toArray, List.set_cons_zero, List.set_cons_succ, i64_w, i32_w]
              rfl
            refine pure_ (i := 13) (N := some 67) (v := ?_) (a' := ?_) #[true, true, true, false, true, true, true, true, false, true, false, false, false, true, false, false, false, false, false, false, false, false, false, false, false, false, false, false, false, false, false] rfl rfl (by kernel_rfl) (fun _ _ _ h => h) (Or.inl ⟨by rfl, ?_⟩) ?_ ?_
            rotate_left
            · intro w'
              go_simp
              with_reducible rfl
            rotate_left
            · simp only [Act.put, List.setIfInBounds_toArray, List.set_cons_zero, List.set_cons_succ, i64_w, i32_w]
              rfl
            refine pure_ (i := 16) (N := some 70) (v := ?_) (a' := ?_) #[true, true, true, false, true, true, true, true, false, true, false, false, false, true, false, false, true, false, false, false, false, false, false, false, false, false, false, false, false, false, false] rfl rfl (by kernel_rfl) (fun _ _ _ h => h) (Or.inl ⟨by rfl, ?_⟩) ?_ ?_
            rotate_left
            · intro w'
              go_simp
              with_reducible rfl
            rotate_left
            · simp only [Act.put, List.setIfInBounds_toArray, List.set_cons_zero, List.set_cons_succ, i64_w, i32_w]
              rfl
            refine pure_ (i := 17) (N := some 71) (v := ?_) (a' := ?_) #[true, true, true, false, true, true, true, true, false, true, false, false, false, true, false, false, true, true, false, false, false, false, false, false, false, false, false, false, false, false, false] rfl rfl (by kernel_rfl) (fun _ _ _ h => h) (Or.inl ⟨by rfl, ?_⟩) ?_ ?_
            rotate_left
            · intro w'
              go_simp
              with_reducible rfl
            rotate_left
            · simp only [Act.put, List.setIfInBounds_toArray, List.set_cons_zero, List.set_cons_succ, i64_w, i32_w]
              rfl
            refine pure_ (i := 18) (N := some 72) (v := ?_) (a' := ?_) #[true, true, true, false, true, true, true, true, false, true, false, false, false, true, false, false, true, true, true, false, false, false, false, false, false, false, false, false, false, false, false] rfl rfl (by kernel_rfl) (fun _ _ _ h => h) (Or.inl ⟨by rfl, ?_⟩) ?_ ?_
            rotate_left
            · intro w'
              go_simp
              with_reducible rfl
            rotate_left
            · simp only [Act.put, List.setIfInBounds_toArray, List.set_cons_zero, List.set_cons_succ, i64_w, i32_w]
              rfl
            refine pure_ (i := 20) (N := some 74) (v := ?_) (a' := ?_) #[true, true, true, false, true, true, true, true, false, true, false, false, false, true, false, false, true, true, true, false, true, false, false, false, false, false, false, false, false, false, false] rfl rfl (by kernel_rfl) (fun _ _ _ h => h) (Or.inl ⟨by rfl, ?_⟩) ?_ ?_
            rotate_left
            · intro w'
              go_simp
              with_reducible rfl
            rotate_left
            · simp only [Act.put, List.setIfInBounds_toArray, List.set_cons_zero, List.set_cons_succ, i64_w, i32_w]
              rfl
            refine pure_ (i := 24) (N := some 78) (v := ?_) (a' := ?_) #[true, true, true, false, true, true, true, true, false, true, false, false, false, true, false, false, true, true, true, false, true, false, false, false, true, false, false, false, false, false, false] rfl rfl (by kernel_rfl) (fun _ _ _ h => h) (Or.inl ⟨by rfl, ?_⟩) ?_ ?_
            rotate_left
            · intro w'
              go_simp
              with_reducible rfl
            rotate_left
            · simp only [Act.put, List.setIfInBounds_toArray, List.set_cons_zero, List.set_cons_succ, i64_w, i32_w]
              rfl
            refine pure_ (i := 25) (N := some 79) (v := ?_) (a' := ?_) #[true, true, true, false, true, true, true, true, false, true, false, false, false, true, false, false, true, true, true, false, true, false, false, false, true, true, false, false, false, false, false] rfl rfl (by kernel_rfl) (fun _ _ _ h => h) (Or.inl ⟨by rfl, ?_⟩) ?_ ?_
            rotate_left
            · intro w'
              go_simp
              with_reducible rfl
            rotate_left
            · simp only [Act.put, List.setIfInBounds_toArray, List.set_cons_zero, List.set_cons_succ, i64_w, i32_w]
              rfl
            refine take_ (i := 3) (N := some 57) (v := ?_) (a' := ?_) #[true, true, true, true, true, true, true, true, false, true, false, false, false, true, false, false, true, true, true, false, true, false, false, false, true, true, false, false, false, false, false] rfl rfl (by kernel_rfl) (fun _ _ _ h => h) (Or.inl ⟨by rfl, ?_⟩) hHeld ?_ ?_
            rotate_left
            · rintro w' ⟨s0, s1, s2, s3⟩
              go_simp
              with_reducible rfl
            rotate_left
            · simp only [Act.put, List.setIfInBounds_toArray, List.set_cons_zero, List.set_cons_succ, i64_w, i32_w]
              rfl
            refine take_ (i := 8) (N := some 62) (v := ?_) (a' := ?_) #[true, true, true, true, true, true, true, true, true, true, false, false, false, true, false, false, true, true, true, false, true, false, false, false, true, true, false, false, false, false, false] rfl rfl (by kernel_rfl) (fun _ _ _ h => h) (Or.inl ⟨by rfl, ?_⟩) hHeld ?_ ?_
            rotate_left
            · rintro w' ⟨s0, s1, s2, s3⟩
              go_simp
              with_reducible rfl
            rotate_left
            · simp only [Act.put, List.setIfInBounds_toArray, List.set_cons_zero, List.set_cons_succ, i64_w, i32_w]
              rfl
            refine pure_ (i := 10) (N := some 64) (v := ?_) (a' := ?_) #[true, true, true, true, true, true, true, true, true, true, true, false, false, true, false, false, true, true, true, false, true, false, false, false, true, true, false, false, false, false, false] rfl rfl (by kernel_rfl) (fun _ _ _ h => h) (Or.inl ⟨by rfl, ?_⟩) ?_ ?_
            rotate_left
            · intro w'
              go_simp
              with_reducible rfl
            rotate_left
            · simp only [Act.put, List.setIfInBounds_toArray, List.set_cons_zero, List.set_cons_succ, i64_w, i32_w]
              rfl
            refine pure_ (i := 11) (N := some 65) (v := ?_) (a' := ?_) #[true, true, true, true, true, true, true, true, true, true, true, true, false, true, false, false, true, true, true, false, true, false, false, false, true, true, false, false, false, false, false] rfl rfl (by kernel_rfl) (fun _ _ _ h => h) (Or.inl ⟨by rfl, ?_⟩) ?_ ?_
            rotate_left
            · intro w'
              go_simp
              with_reducible rfl
            rotate_left
            · simp only [Act.put, List.setIfInBounds_toArray, List.set_cons_zero, List.set_cons_succ, i64_w, i32_w]
              rfl
            refine take_ (i := 12) (N := some 66) (v := ?_) (a' := ?_) #[true, true, true, true, true, true, true, true, true, true, true, true, true, true, false, false, true, true, true, false, true, false, false, false, true, true, false, false, false, false, false] rfl rfl (by kernel_rfl) (fun _ _ _ h => h) (Or.inl ⟨by rfl, ?_⟩) hHeld ?_ ?_
            rotate_left
            · rintro w' ⟨s0, s1, s2, s3⟩
              go_simp
              with_reducible rfl
            rotate_left
            · simp only [Act.put, List.setIfInBounds_toArray, List.set_cons_zero, List.set_cons_succ, i64_w, i32_w]
              rfl
            refine pure_ (i := 14) (N := some 68) (v := ?_) (a' := ?_) #[true, true, true, true, true, true, true, true, true, true, true, true, true, true, true, false, true, true, true, false, true, false, false, false, true, true, false, false, false, false, false] rfl rfl (by kernel_rfl) (fun _ _ _ h => h) (Or.inl ⟨by rfl, ?_⟩) ?_ ?_
            rotate_left
            · intro w'
              go_simp
              with_reducible rfl
            rotate_left
            · simp only [Act.put, List.setIfInBounds_toArray, List.set_cons_zero, List.set_cons_succ, i64_w, i32_w]
              rfl
            refine take_ (i := 19) (N := some 73) (v := ?_) (a' := ?_) #[true, true, true, true, true, true, true, true, true, true, true, true, true, true, true, false, true, true, true, true, true, false, false, false, true, true, false, false, false, false, false] rfl rfl (by kernel_rfl) (fun _ _ _ h => h) (Or.inl ⟨by rfl, ?_⟩) hHeld ?_ ?_
            rotate_left
            · rintro w' ⟨s0, s1, s2, s3⟩
              go_simp
              with_reducible rfl
            rotate_left
            · simp only [Act.put, List.setIfInBounds_toArray, List.set_cons_zero, List.set_cons_succ, i64_w, i32_w]
              rfl
            refine pure_ (i := 21) (N := some 75) (v := ?_) (a' := ?_) #[true, true, true, true, true, true, true, true, true, true, true, true, true, true, true, false, true, true, true, true, true, true, false, false, true, true, false, false, false, false, false] rfl rfl (by kernel_rfl) (fun _ _ _ h => h) (Or.inl ⟨by rfl, ?_⟩) ?_ ?_
            rotate_left
            · intro w'
              go_simp
              with_reducible rfl
            rotate_left
            · simp only [Act.put, List.setIfInBounds_toArray, List.set_cons_zero, List.set_cons_succ, i64_w, i32_w]
              rfl
            refine pure_ (i := 22) (N := some 76) (v := ?_) (a' := ?_) #[true, true, true, true, true, true, true, true, true, true, true, true, true, true, true, false, true, true, true, true, true, true, true, false, true, true, false, false, false, false, false] rfl rfl (by kernel_rfl) (fun _ _ _ h => h) (Or.inl ⟨by rfl, ?_⟩) ?_ ?_
            rotate_left
            · intro w'
              go_simp
              with_reducible rfl
            rotate_left
            · simp only [Act.put, List.setIfInBounds_toArray, List.set_cons_zero, List.set_cons_succ, i64_w, i32_w]
              rfl
            refine take_ (i := 23) (N := some 77) (v := ?_) (a' := ?_) #[true, true, true, true, true, true, true, true, true, true, true, true, true, true, true, false, true, true, true, true, true, true, true, true, true, true, false, false, false, false, false] rfl rfl (by kernel_rfl) (fun _ _ _ h => h) (Or.inl ⟨by rfl, ?_⟩) hHeld ?_ ?_
            rotate_left
            · rintro w' ⟨s0, s1, s2, s3⟩
              go_simp
              with_reducible rfl
            rotate_left
            · simp only [Act.put, List.setIfInBounds_toArray, List.set_cons_zero, List.set_cons_succ, i64_w, i32_w]
              rfl
            refine pure_ (i := 26) (N := some 80) (v := ?_) (a' := ?_) #[true, true, true, true, true, true, true, true, true, true, true, true, true, true, true, false, true, true, true, true, true, true, true, true, true, true, true, false, false, false, false] rfl rfl (by kernel_rfl) (fun _ _ _ h => h) (Or.inl ⟨by rfl, ?_⟩) ?_ ?_
            rotate_left
            · intro w'
              go_simp
              with_reducible rfl
            rotate_left
            · simp only [Act.put, List.setIfInBounds_toArray, List.set_cons_zero, List.set_cons_succ, i64_w, i32_w]
              rfl
            refine one_ (i := 15) (N := some 69) #[true, true, true, true, true, true, true, true, true, true, true, true, true, true, true, true, true, true, true, true, true, true, true, true, true, true, true, false, false, false, false] rfl rfl (by kernel_rfl) (by decide) (fun K hK => ?_)
            refine step_appN tyI encI_ok (by rfl) _ _ (by rfl) (Rw.nil w.drew) (by rfl) HSA.out (by rfl) HLA.out hp6 ?_
            intro a1 c1 w5 hr1 hS1 hg1
            have he1 : Ext [] w w5 := Ext.of_drew (hS1 [] (by simp [Value.ownBlock]))
            have hg1' : ∀ q, (Value.slice a1 j c1).ownBlock = some q → w.heap.size ≤ q := fun q hq => (hg1 q hq).elim (fun h => by simp [Value.ownBlock] at h) (fun h => h)
            rw [List.nil_append] at hr1
            clear hS1 hg1
            refine hK.out _ _ ⟨(KK.out _ he1).1, (KK.out _ he1).2.1, b1, b2⟩ (fun hHeld => ?_)
            clear hK K
            refine norm_ (a' := ?_) ?_ ?_
            rotate_left
            · show Act.put _ (some 69) _ = _
              simp only [Act.put, List.setIfInBounds_toArray, List.set_cons_zero, List.set_cons_succ, i64_w, i32_w]
              rfl
            refine one_ (i := 27) (N := some 81) #[true, true, true, true, true, true, true, true, true, true, true, true, true, true, true, true, true, true, true, true, true, true, true, true, true, true, true, true, false, false, false] rfl rfl (by kernel_rfl) (by decide) (fun K hK => ?_)
            refine step_appN tyI encI_ok (by rfl) _ _ (by rfl) hr1 (by rfl) (HSB.out.keep (Ext.of_drew_left he1) (by simp)) (by rfl) HLB.out hl36 ?_
            intro a2 c2 w6 hr2 hS2 hg2
            have he2 : Ext [] w w6 := fresh_app he1 hg1' hS2
            have hfz := (KK.out _ he2).2.2
            refine hK.out _ _ ⟨(KK.out _ he2).1, (KK.out _ he2).2.1, b1, b2⟩ (fun hHeld => ?_)
            clear hK K
            refine norm_ (a' := ?_) ?_ ?_
            rotate_left
            · show Act.put _ (some 81) _ = _
              simp only [Act.put, List.setIfInBounds_toArray, List.set_cons_zero, List.set_cons_succ, i64_w, i32_w]
              rfl
            refine pure_ (i := 28) (N := some 82) (v := ?_) (a' := ?_) #[true, true, true, true, true, true, true, true, true, true, true, true, true, true, true, true, true, true, true, true, true, true, true, true, true, true, true, true, true, false, false] rfl rfl (by kernel_rfl) (fun _ _ _ h => h) (Or.inl ⟨by rfl, ?_⟩) ?_ ?_
            rotate_left
            · intro w'
              go_simp
              with_reducible rfl
            rotate_left
            · simp only [Act.put, List.setIfInBounds_toArray, List.set_cons_zero, List.set_cons_succ, i64_w, i32_w]
              rfl
            refine pure_ (i := 29) (N := some 83) (v := ?_) (a' := ?_) #[true, true, true, true, true, true, true, true, true, true, true, true, true, true, true, true, true, true, true, true, true, true, true, true, true, true, true, true, true, true, false] rfl rfl (by kernel_rfl) (fun _ _ _ h => h) (Or.inl ⟨by rfl, ?_⟩) ?_ ?_
            rotate_left
            · intro w'
              go_simp
              with_reducible rfl
            rotate_left
            · simp only [Act.put, List.setIfInBounds_toArray, List.set_cons_zero, List.set_cons_succ, i64_w, i32_w]
              rfl
            refine last_ (i := 30) (N := none) #[true, true, true, true, true, true, true, true, true, true, true, true, true, true, true, true, true, true, true, true, true, true, true, true, true, true, true, true, true, true, true] rfl rfl (by kernel_rfl) (by decide) (fun K hK => ?_)
            refine skip_ (w1 := ?_) (by rfl) rfl ?_ ?_
            rotate_left
            · go_simp
              rfl
            refine hK.out _ _ ?_
            clear hK K
            refine done_ (by kernel_rfl) ?_
            all_goals
              have hg9 : ∀ q, (Value.slice a2 k c2).ownBlock = some q → w.heap.size ≤ q := fun q hq => (hg2 q hq).elim (hg1' q) (fun h => Nat.le_trans he1.size h)
              obtain ⟨ids', hids⟩ : ∃ ids', ids' = s.ids.take j ++ s.ids.drop (j + 1) := ⟨_, rfl⟩
              have hr9 := hr2
              have hl9 := HL'.out
              have hfo := HFO.out
              rw [← hids] at hr9 hl9 hfo
              rw [hl9] at hr9 hg9
              have hset := HT.out.set_row H1.out a2 c2 ids' (he2.mono (by simp)) hr9 (fun q hq => .inr (hg9 q hq))
              have hlv := leave_some H1.out HHO.out hall.out a2 c2 hfo
              rw [← hl9] at hset hlv
              obtain ⟨hT8, hE8, hO8⟩ := hset
              have hL8 : (L.set i ⟨s.num, s.want, a2, c2, ids'⟩)[i]? = some ⟨s.num, s.want, a2, c2, ids'⟩ := by
                rw [List.getElem?_set, if_pos rfl, if_pos (List.getElem?_eq_some_iff.1 H1.out).1]
              generalize w6.setCell ⟨g, i * 7 + 6, none⟩ (.slice a2 k c2) = w8 at hT8 hE8 ⊢
              generalize L.set i ⟨s.num, s.want, a2, c2, ids'⟩ = L8 at hT8 hO8 hlv hL8
              have hcv8 : w8.cell? ⟨b, 1, none⟩ = some (.slice (some ⟨g, 0, none⟩) n cap) := hT8.ob.blk.cell 1
              have c68 := hT8.ob.row.cell encSh_ok.len hL8 6 (by omega)
              simp only [encSh, Sh.row, List.getElem?_cons_zero, List.getElem?_cons_succ] at c68
              rw [← hl9] at c68
              have hSS : ∀ q, q ∈ (b :: [g]) ++ mOwn L → q ∈ S := fun q hq => by rw [HS.out]; exact hq
              have hE9 : Ext S w w8 := hE8.mono (fun q hq => .inl (hSS q hq))
              have hO9 : ∀ q ∈ mOwn L8, q ∈ S ∨ w.heap.size ≤ q := fun q hq => (hO8 q hq).imp (fun h => hSS q (List.mem_append_right _ h)) (fun h => h)
              have HT8 := Lib.hid hT8; have HE9 := Lib.hid hE9; have HO9 := Lib.hid hO9; have HSS := Lib.hid hSS; have HLV := Lib.hid hlv
              clear hr1 hr2 hr9 hS2 hg2 hg9 hg1' he1 he2 hfz hT8 hE8 hO8 hL8 hl9 hfo hids hlv hE9 hO9 hSS f1 f2 f3 f4 f5 c0 c6 i0 hcv KK HSA HSB HLA HLB HL' HFO HHO
              by_cases hk0 : k = 0
              · have hm := HLV.out
                rw [if_pos hk0] at hm
                have hout := rshOut_any b g n cap i last L8 hlt (by omega) w8 HT8.out
                have HM := Lib.hid hm; have HOUT := Lib.hid hout
                clear hm hout HLV
                have d3 : ((k : Int) == 0) = true := by simp; omega
                clear hk0
                go_wp2_with fail
                all_goals
                  refine HOUT.out.mono ?_
                  rintro e w9 ⟨rfl, S9, ⟨v9, h9, rfl⟩, e9, g9⟩
                  go_wp2_with fail
                  refine bodyPost_ret (v := .tuple #[.int .i64 s.num, .bool true, .bool true]) (by simp [results, Try.results44, go_sem]) rfl ?_
                  have hs9 := HE9.out.size
                  refine ⟨by rw [HM.out], _, ⟨v9, L8.eraseIdx i, h9, rfl, by rw [HM.out]⟩, HE9.out.trans e9 (fun q hq => .inl (HSS.out q (List.mem_append_left _ (by simpa using hq)))), ?_⟩
                  intro q hq
                  rcases List.mem_append.1 hq with hq | hq
                  · rcases g9 q hq with h8 | h8
                    · exact .inl (HSS.out q (List.mem_append_left _ (by simpa using h8)))
                    · exact .inr (by omega)
                  · exact HO9.out q ((mOwn_erase L8 i).subset hq)
              · have hm := HLV.out
                rw [if_neg hk0] at hm
                have HM := Lib.hid hm
                have d3 : ((k : Int) == 0) = false := by simp; omega
                clear hm HLV
                go_wp2_with fail
                all_goals
                  refine bodyPost_ret (v := .tuple #[.int .i64 s.num, .bool false, .bool true]) (by simp [results, Try.results44, go_sem]) rfl ?_
                  refine ⟨by rw [HM.out], _, ⟨_, L8, HT8.out, rfl, by rw [HM.out]⟩, HE9.out, ?_⟩
                  intro q hq
                  rcases List.mem_append.1 hq with hq | hq
                  · exact .inl (HSS.out q (List.mem_append_left _ (by simpa [Value.ownBlock] using hq)))
                  · exact HO9.out q hq
        · have d2 : decide (j < l) = false := decide_eq_false hjt
          have hh : holds id s = false := by
            unfold holds
            exact hasI_false (fun q y hy => hall2.out q y (by have := (List.getElem?_eq_some_iff.1 hy).1; have := HL.out; omega) hy)
          have HHO := Lib.hid hh
          clear hh
          go_wp2_with fail
          refine ⟨⟨i + 1, by omega, rfl, ?_⟩, by simp [intOf]; omega⟩
          intro q z hqk hz
          rcases Nat.lt_or_ge q i with h1 | h1
          · exact hall.out q z h1 hz
          · have : q = i := by omega
            rw [this, H1.out] at hz
            injection hz with hz
            rw [← hz]; exact HHO.out
    · have d1 : decide (i < n) = false := decide_eq_false hlt
      have hm := leave_none (fun j x hx => hall.out j x (by have := (List.getElem?_eq_some_iff.1 hx).1; have := HN.out; omega) hx)
      have HM := Lib.hid hm
      clear hm
      go_wp2_with fail
      refine bodyPost_ret (v := .tuple #[.int .i64 0, .bool false, .bool false]) (by simp [results, Try.results44, go_sem]) rfl ?_
      exact ⟨by rw [HM.out], S, ⟨_, L, HT.out, HS.out, by rw [HM.out]⟩, Ext.refl _ _, fun x hx => .inl hx⟩
end Go.Proofs.Ytkbjpackijdnkaa
