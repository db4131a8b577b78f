/- The preflights' table: New, Len, Of, Done, Want, Members, count, by contract. -/
import Derived.Test.YtkbjpackijdnkaaShLeave
import Derived.Test.YtkbjpackijdnkaaEnDel
namespace Go.Proofs.Ytkbjpackijdnkaa
open Go.RowKit
set_option linter.unusedVariables false
set_option linter.unusedSimpArgs false

theorem sh_new (w : World) : Calls Try.prog 24 #[] w fun e w' => e = .returned (.pointer (some ⟨w.heap.size, 0, none⟩)) ∧ SH w' w.heap.size [w.heap.size] 0 [] ∧ Ext [] w w' :=
  (shNew_any w).mono fun _ _ ⟨h1, h2, h3⟩ => ⟨h1, ⟨_, [], h2, rfl, rfl⟩, h3⟩
theorem sh_len (b : Nat) (S : List Nat) (last : Int) (M : List Sk) (w : World) (h : SH w b S last M) :
    Calls Try.prog 31 #[.pointer (some ⟨b, 0, none⟩)] w fun e w' => e = .returned (.int .i64 M.length) ∧ w = w' := by
  obtain ⟨v, L, h, rfl, rfl⟩ := h
  rw [absH_len]; exact shLen_any b v last L w h
def ofA (M : List Sk) (id : Int) : Int := ((M.find? (holdsA id)).map Sk.num).getD 0
theorem of_abs (L : List Sh) (id : Int) : ofM L id = ofA (absH L) id := by
  unfold ofM ofA absH
  rw [List.find?_map]
  have : (holdsA id ∘ Sh.abs) = holds id := rfl
  rw [this]
  cases L.find? (holds id) <;> rfl
theorem sh_of (b : Nat) (S : List Nat) (last : Int) (M : List Sk) (id : Int) (hx : M.length < 1000000) (hu : MemOk M) (w : World) (h : SH w b S last M) :
    Calls Try.prog 30 #[.pointer (some ⟨b, 0, none⟩), .int .i64 id] w fun e w' => e = .returned (.int .i64 (ofA M id)) ∧ Ext [] w w' := by
  obtain ⟨v, L, h, rfl, rfl⟩ := h
  rw [absH_len] at hx
  rw [← of_abs]; exact shOf_any b v last L id hx hu.L w h

def numA (n : Int) (s : Sk) : Bool := s.num == n
def doneA (M : List Sk) (pre : Int) : List Int × List Sk := match M.findIdx? (numA pre) with
  | none => ([], M)
  | some i => (((M[i]?.map Sk.ids).getD []), M.eraseIdx i)
def DoneP (b : Nat) (S : List Nat) (last : Int) (M : List Sk) (pre : Int) (w : World) (e : Ending) (w' : World) : Prop :=
  ∃ (a : Option Addr) (c : Nat), e = .returned (.slice a (doneA M pre).1.length c) ∧ RI w' (.slice a (doneA M pre).1.length c) (doneA M pre).1 ∧ (∀ g, (Value.slice a (doneA M pre).1.length c).ownBlock = some g → g ∈ S) ∧ Chg (fun w' S' => SH w' b S' last (doneA M pre).2) S w w'

set_option maxHeartbeats 3200000 in
set_option maxRecDepth 100000 in
theorem sh_done (b : Nat) (S : List Nat) (last : Int) (M : List Sk) (pre : Int) (hx : M.length < 10000) (w : World) (h : SH w b S last M) :
    Calls Try.prog 45 #[.pointer (some ⟨b, 0, none⟩), .int .i64 pre] w (DoneP b S last M pre w) := by
  obtain ⟨v, L, h, hS, rfl⟩ := h
  rw [absH_len] at hx
  unfold DoneP
  have hat := shAt_any b v last L pre (by omega) w h
  rcases idxI_spec (numIs pre) L with ⟨h1, h2⟩ | ⟨i, s, h1, h2, h3, h4⟩
  · rw [h1] at hat
    have hm : doneA (absH L) pre = ([], absH L) := by
      unfold doneA
      have : (absH L).findIdx? (numA pre) = none := by
        rw [List.findIdx?_eq_none_iff]
        intro x hx
        obtain ⟨y, hy, rfl⟩ := List.mem_map.1 hx
        exact h2 y hy
      rw [this]
    have HM := Lib.hid hm; have HAT := Lib.hid hat; have HH := Lib.hid h; have HS := Lib.hid hS
    clear h1 h2 hm hat h hx hS
    go_enter Try.func45, Try.ntmps45
    go_wp2_with fail
    refine HAT.out.mono ?_
    rintro e w1 ⟨rfl, e1⟩
    go_wp2_with fail
    refine bodyPost_ret (v := .slice none 0 0) (by simp [results, Try.results45, go_sem]) rfl ?_
    rw [HM.out]
    exact ⟨none, 0, rfl, Rw.nil _, fun g hg => by simp [Value.ownBlock] at hg, S, ⟨v, L, HH.out.keep0 e1, HS.out, rfl⟩, e1.mono (by simp), fun x hx => .inl hx⟩
  · rw [h4] at hat
    have hf : (absH L).findIdx? (numA pre) = some i := by
      refine find_of (absH_at h1) h2 (fun j y hj hy => ?_)
      unfold absH at hy
      rw [List.getElem?_map] at hy
      obtain ⟨z, hz, rfl⟩ := Option.map_eq_some_iff.1 hy
      exact h3 j z hj hz
    have hm : doneA (absH L) pre = (s.ids, absH (L.eraseIdx i)) := by
      unfold doneA
      rw [hf, absH_erase]
      simp only [absH_at h1]
      rfl
    obtain ⟨a, cap, rfl⟩ := h.ob.row.val
    obtain ⟨n, hn⟩ : ∃ n, n = L.length := ⟨_, rfl⟩
    have hin : i < n := by rw [hn]; exact (List.getElem?_eq_some_iff.1 h1).1
    rw [← hn] at h hx hS
    obtain ⟨g, rfl, hgl⟩ := h.ob.row.addr (by omega)
    have HM := Lib.hid hm; have HAT := Lib.hid hat; have HH := Lib.hid h; have HS := Lib.hid hS; have H1 := Lib.hid h1
    clear h1 h2 h3 h4 hm hat h hS hf hn
    go_enter Try.func45, Try.ntmps45
    go_wp2_with fail
    refine HAT.out.mono ?_
    rintro e w1 ⟨rfl, e1⟩
    have h1 := HH.out.keep0 e1
    have hcv : w1.cell? ⟨b, 0, none⟩ = some (.slice (some ⟨g, 0, none⟩) n cap) := h1.ob.blk.cell 0
    have c6 := h1.ob.row.cell encSh_ok.len H1.out 6 (by omega)
    simp only [encSh, Sh.row, List.getElem?_cons_zero, List.getElem?_cons_succ] at c6
    have b1 : (0 : Int) ≤ (i : Int) := by omega
    have b2 : (i : Int) < (n : Int) := by omega
    have hdel := sh_delete encSh encSh_ok g n cap i L hin (by omega) _ h1.ob.row
    have HDEL := Lib.hid hdel; have H1w := Lib.hid h1; have E1 := Lib.hid e1
    clear h1 hdel e1
    go_wp2_with fail
    refine HDEL.out.mono ?_
    rintro e w4 ⟨rfl, hr4, e4⟩
    have her := H1w.out.erased hr4 e4
    have hb4 := H1w.out.ob.blk_at rfl e4
    have hcb4 : w4.cell? ⟨b, 0, none⟩ = some (.slice (some ⟨g, 0, none⟩) n cap) := hb4.cell 0
    have hfb4 : w4.frozen? ⟨b, 0, none⟩ = false := hb4.free 0
    have HER := Lib.hid her
    clear her hb4 hr4 e4 HDEL hcv c6
    go_wp2_with fail
    refine bodyPost_ret (v := .slice s.ma s.ids.length s.mc) (by simp [results, Try.results45, go_sem]) rfl ?_
    have hsm := List.mem_of_getElem? H1.out
    rw [HM.out]
    refine ⟨s.ma, s.mc, rfl, (H1w.out.inn s hsm).keep HER.out.2 (fun x hx hm => H1w.out.apart x (mem_mOwn hsm hx) (by simpa [Value.ownBlock] using hm)), fun x hx => by rw [HS.out]; exact List.mem_append_right _ (mem_mOwn hsm hx), _, ⟨_, L.eraseIdx i, HER.out.1, rfl, rfl⟩, (E1.out.mono (by simp)).trans HER.out.2 (fun x hx => .inl (by rw [HS.out]; exact List.mem_append_left _ hx)), ?_⟩
    intro x hx
    rcases List.mem_append.1 hx with hx | hx
    · exact .inl (by rw [HS.out]; exact List.mem_append_left _ hx)
    · exact .inl (by rw [HS.out]; exact List.mem_append_right _ ((mOwn_erase L i).subset hx))

def noW : Wt := ⟨⟨#[]⟩, ⟨#[]⟩, false, ⟨#[]⟩, ⟨#[]⟩⟩
def wantA (M : List Sk) (pre : Int) : Wt × Bool := match M.find? (numA pre) with
  | some s => (s.want, true)
  | none => (noW, false)
theorem info_wt : (Try.prog.info? 44).map (·.size) = some 5 := by
  have h : Try.prog.info? 44 = some Try.t44 := by kernel_rfl
  rw [h]; rfl
set_option maxHeartbeats 3200000 in
set_option maxRecDepth 100000 in
theorem sh_want (b : Nat) (S : List Nat) (last : Int) (M : List Sk) (pre : Int) (hx : M.length < 10000) (w : World) (h : SH w b S last M) :
    Calls Try.prog 26 #[.pointer (some ⟨b, 0, none⟩), .int .i64 pre] w fun e w' => e = .returned (.tuple #[.agg (encW (wantA M pre).1).toArray, .bool (wantA M pre).2]) ∧ Ext [] w w' := by
  obtain ⟨v, L, h, hS, rfl⟩ := h
  rw [absH_len] at hx
  clear hS
  have e0 : Ext [] w (w.alloc (.cells #[.string ⟨#[]⟩, .string ⟨#[]⟩, .bool false, .string ⟨#[]⟩, .string ⟨#[]⟩] 44 (0, 0))) := (Ext.refl _ _).alloc _
  have hB : Blk (w.alloc (.cells #[.string ⟨#[]⟩, .string ⟨#[]⟩, .bool false, .string ⟨#[]⟩, .string ⟨#[]⟩] 44 (0, 0))) w.heap.size #[.string ⟨#[]⟩, .string ⟨#[]⟩, .bool false, .string ⟨#[]⟩, .string ⟨#[]⟩] 44 := Blk.new _ _ _
  have hat := shAt_any b v last L pre (by omega) _ (h.keep0 e0)
  have HB := Lib.hid hB; have E0 := Lib.hid e0
  rcases idxI_spec (numIs pre) L with ⟨h1, h2⟩ | ⟨i, s, h1, h2, h3, h4⟩
  · rw [h1] at hat
    have hm : wantA (absH L) pre = (noW, false) := by
      unfold wantA
      rw [List.find?_eq_none.2 (fun x hx => by
        obtain ⟨y, hy, rfl⟩ := List.mem_map.1 hx
        have := h2 y hy
        simp [show numA pre y.abs = false from this])]
    have HM := Lib.hid hm; have HAT := Lib.hid hat
    clear h1 h2 hm hat h hx hB e0
    go_enter Try.func26, Try.ntmps26
    go_wp2_with fail
    refine HAT.out.mono ?_
    rintro e w1 ⟨rfl, e1⟩
    have hB1 := HB.out.keep e1 (by simp)
    have ht : w1.there w.heap.size 0 5 := fun j hj => ⟨by rw [Nat.zero_add, hB1.cell j]; match j, hj with | 0, _ => rfl | 1, _ => rfl | 2, _ => rfl | 3, _ => rfl | 4, _ => rfl, hB1.free _⟩
    have hone : (#[Value.string ⟨#[]⟩, .string ⟨#[]⟩, .bool false, .string ⟨#[]⟩, .string ⟨#[]⟩].all (·.oneCell')) = true := by simp [Value.oneCell']
    have hB2 : Blk (w1.setCells w.heap.size 0 [.string ⟨#[]⟩, .string ⟨#[]⟩, .bool false, .string ⟨#[]⟩, .string ⟨#[]⟩]) w.heap.size #[.string ⟨#[]⟩, .string ⟨#[]⟩, .bool false, .string ⟨#[]⟩, .string ⟨#[]⟩] 44 := ((((hB1.set 0 (.string ⟨#[]⟩)).set 1 (.string ⟨#[]⟩)).set 2 (.bool false)).set 3 (.string ⟨#[]⟩)).set 4 (.string ⟨#[]⟩)
    have e4 : Ext [] w (w1.setCells w.heap.size 0 [.string ⟨#[]⟩, .string ⟨#[]⟩, .bool false, .string ⟨#[]⟩, .string ⟨#[]⟩]) := Ext.setCells (Or.inr (Nat.le_refl _)) _ _ _ (E0.out.trans e1 (by simp))
    have HB2 := Lib.hid hB2; have E4 := Lib.hid e4
    have hXl := hB1.lt
    clear hB1 hB2 e4
    go_wp2_with (refine wpList_store_mid ?_ ?_ 44 (.tmp 4) (.tmp 12) ?_ w.heap.size 0 #[.string ⟨#[]⟩, .string ⟨#[]⟩, .bool false, .string ⟨#[]⟩, .string ⟨#[]⟩] ?_ ?_ ht info_wt hone ?_; exact rfl; exact rfl; exact rfl; exact rfl; exact rfl; generalize hW5 : World.setCells w1 w.heap.size 0 _ = w5)
    have hW6 : World.setCells w1 w.heap.size 0 [.string ⟨#[]⟩, .string ⟨#[]⟩, .bool false, .string ⟨#[]⟩, .string ⟨#[]⟩] = w5 := hW5
    rw [hW6] at HB2 E4
    clear hW5 hW6 ht hone
    have k0 := HB2.out.cell 0; have k1 := HB2.out.cell 1; have k2 := HB2.out.cell 2; have k3 := HB2.out.cell 3; have k4 := HB2.out.cell 4
    simp only [List.getElem?_toArray, List.getElem?_cons_zero, List.getElem?_cons_succ] at k0 k1 k2 k3 k4
    go_wp2_with fail
    refine bodyPost_ret (v := .tuple #[.agg #[.string ⟨#[]⟩, .string ⟨#[]⟩, .bool false, .string ⟨#[]⟩, .string ⟨#[]⟩], .bool false]) (by simp [results, Try.results26, go_sem, k0, k1, k2, k3, k4]) rfl ?_
    rw [HM.out]
    exact ⟨rfl, E4.out⟩
  · rw [h4] at hat
    have hm : wantA (absH L) pre = (s.want, true) := by
      unfold wantA
      have : (absH L).find? (numA pre) = some s.abs := by
        have hil := (List.getElem?_eq_some_iff.1 h1).1
        rw [List.find?_eq_some_iff_getElem]
        refine ⟨h2, i, by rw [absH_len]; exact hil, ?_, fun j hji => ?_⟩
        · have := absH_at h1
          rw [List.getElem?_eq_getElem (by rw [absH_len]; exact hil)] at this
          injection this
        · have hjl : j < L.length := by omega
          have := h3 j _ hji (List.getElem?_eq_getElem hjl)
          have e : (absH L)[j]'(by rw [absH_len]; exact hjl) = (L[j]).abs := by unfold absH; rw [List.getElem_map]
          rw [e]
          simp [show numA pre (L[j]).abs = false from this]
      rw [this]; rfl
    obtain ⟨a, cap, rfl⟩ := h.ob.row.val
    obtain ⟨n, hn⟩ : ∃ n, n = L.length := ⟨_, rfl⟩
    have hin : i < n := by rw [hn]; exact (List.getElem?_eq_some_iff.1 h1).1
    rw [← hn] at h hx
    obtain ⟨g, rfl, hgl⟩ := h.ob.row.addr (by omega)
    have HM := Lib.hid hm; have HAT := Lib.hid hat; have HH := Lib.hid h; have H1 := Lib.hid h1
    clear h1 h2 h3 h4 hm hat h hn hB e0
    go_enter Try.func26, Try.ntmps26
    go_wp2_with fail
    refine HAT.out.mono ?_
    rintro e w1 ⟨rfl, e1⟩
    have h1 := HH.out.keep0 (E0.out.trans e1 (by simp))
    have hcv : w1.cell? ⟨b, 0, none⟩ = some (.slice (some ⟨g, 0, none⟩) n cap) := h1.ob.blk.cell 0
    have c1 := h1.ob.row.cell encSh_ok.len H1.out 1 (by omega); have c2 := h1.ob.row.cell encSh_ok.len H1.out 2 (by omega); have c3 := h1.ob.row.cell encSh_ok.len H1.out 3 (by omega); have c4 := h1.ob.row.cell encSh_ok.len H1.out 4 (by omega); have c5 := h1.ob.row.cell encSh_ok.len H1.out 5 (by omega)
    simp only [encSh, List.getElem?_cons_zero, List.getElem?_cons_succ] at c1 c2 c3 c4 c5
    have b1 : (0 : Int) ≤ (i : Int) := by omega
    have b2 : (i : Int) < (n : Int) := by omega
    have hB1 := HB.out.keep e1 (by simp)
    clear h1
    have ht : w1.there w.heap.size 0 5 := fun j hj => ⟨by rw [Nat.zero_add, hB1.cell j]; match j, hj with | 0, _ => rfl | 1, _ => rfl | 2, _ => rfl | 3, _ => rfl | 4, _ => rfl, hB1.free _⟩
    have hone : (#[Value.string s.want.org, .string s.want.url, .bool s.want.creds, .string s.want.meth, .string s.want.names].all (·.oneCell')) = true := by simp [Value.oneCell']
    have hB2 : Blk (w1.setCells w.heap.size 0 [.string s.want.org, .string s.want.url, .bool s.want.creds, .string s.want.meth, .string s.want.names]) w.heap.size #[.string s.want.org, .string s.want.url, .bool s.want.creds, .string s.want.meth, .string s.want.names] 44 := ((((hB1.set 0 (.string s.want.org)).set 1 (.string s.want.url)).set 2 (.bool s.want.creds)).set 3 (.string s.want.meth)).set 4 (.string s.want.names)
    have e4 : Ext [] w (w1.setCells w.heap.size 0 [.string s.want.org, .string s.want.url, .bool s.want.creds, .string s.want.meth, .string s.want.names]) := Ext.setCells (Or.inr (Nat.le_refl _)) _ _ _ (E0.out.trans e1 (by simp))
    have HB2 := Lib.hid hB2; have E4 := Lib.hid e4
    have hXl := hB1.lt
    clear hB1 hB2 e4
    go_wp2_with (refine wpList_store_mid ?_ ?_ 44 (.tmp 4) (.tmp 20) ?_ w.heap.size 0 #[.string s.want.org, .string s.want.url, .bool s.want.creds, .string s.want.meth, .string s.want.names] ?_ ?_ ht info_wt hone ?_; exact rfl; exact rfl; exact rfl; exact rfl; exact rfl; generalize hW5 : World.setCells w1 w.heap.size 0 _ = w5)
    have hW6 : World.setCells w1 w.heap.size 0 [.string s.want.org, .string s.want.url, .bool s.want.creds, .string s.want.meth, .string s.want.names] = w5 := hW5
    rw [hW6] at HB2 E4
    clear hW5 hW6 ht hone
    have k0 := HB2.out.cell 0; have k1 := HB2.out.cell 1; have k2 := HB2.out.cell 2; have k3 := HB2.out.cell 3; have k4 := HB2.out.cell 4
    simp only [List.getElem?_toArray, List.getElem?_cons_zero, List.getElem?_cons_succ] at k0 k1 k2 k3 k4
    go_wp2_with fail
    refine bodyPost_ret (v := .tuple #[.agg #[.string s.want.org, .string s.want.url, .bool s.want.creds, .string s.want.meth, .string s.want.names], .bool true]) (by simp [results, Try.results26, go_sem, k0, k1, k2, k3, k4]) rfl ?_
    rw [HM.out]
    exact ⟨rfl, E4.out⟩

/-- How many members there are. -/
def cntA : List Sk → Nat
  | [] => 0
  | s :: r => s.ids.length + cntA r
end Go.Proofs.Ytkbjpackijdnkaa
