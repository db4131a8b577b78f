/- The hosts' table: New, place, Used, Has, Free, by contract. -/
import Derived.Test.YtmmhpjodnceipaaHsLib
import Derived.Test.YtmmhpjodnceipaaOb
namespace Go.Proofs.Ytmmhpjodnceipaa
open Go.RowKit
set_option linter.unusedVariables false
set_option linter.unusedSimpArgs false

/-- A host. -/
structure Hs where
  key : ByteArray
  uses : Int

def encH (o : Hs) : List Value := [.string o.key, .int .i64 o.uses]
theorem encH_ok : EncOk encH 2 := ⟨fun _ => rfl, fun o u hu => by simp [encH] at hu; rcases hu with rfl | rfl <;> rfl⟩
theorem tyHs : ETy Try.prog 73 77 2 := ⟨by kernel_rfl, ⟨Try.t77, _, by kernel_rfl, by rfl, by rfl, by decide, by rfl⟩, by decide⟩

/-- The table at b. -/
abbrev Tb (most : Int) := @Ob Hs encH 2 77 (fun v => #[v, .int .i64 most]) 75
abbrev TO (most : Int) := @OO Hs encH 2 77 (fun v => #[v, .int .i64 most]) 75

def hasKey (key : ByteArray) (o : Hs) : Bool := decide (o.key = key)
def isFree (o : Hs) : Bool := o.uses == 0
def HsOk (xs : List Hs) : Prop := ∀ x ∈ xs, 0 ≤ x.uses ∧ x.uses ≤ 6
def clampH (m : Int) : Int := max 1 (min m 32)

set_option maxHeartbeats 400000 in
theorem isKeyH (B : Nat) (key : ByteArray) (w : World) (hc : w.cell? ⟨B, 0, none⟩ = some (.string key)) : PredE Try.prog 53 #[.pointer (some ⟨B, 0, none⟩)] encH (hasKey key) w := by
  intro W x he
  have hB : B < w.heap.size := lt_of_cell hc
  have hc' := (he.cell (p := ⟨B, 0, none⟩) hB (by simp)).trans hc
  have hBW := Nat.lt_of_lt_of_le hB he.size
  clear hc he
  have hs : hasKey key x = (x.key.toList == key.toList) := (bytes_beq _ _).symm
  have HS := Lib.hid hs
  clear hs
  unfold encH
  go_enter Try.func53, Try.ntmps53
  go_wp2_with fail
  go_ret
  exact ⟨ret_bool HS.out, (Ext.refl _ _).alloc _⟩

set_option maxHeartbeats 400000 in
theorem isFreeH (w : World) : PredE Try.prog 44 #[] encH isFree w := by
  intro W x he
  clear he
  have hs : isFree x = (x.uses == 0) := rfl
  have HS := Lib.hid hs
  clear hs
  cases hq : x.uses == 0
  all_goals
    rw [hq] at HS
    unfold encH
    go_enter Try.func44, Try.ntmps44
    go_wp2_with fail
    go_ret
    exact ⟨ret_bool HS.out, (Ext.refl _ _).alloc _⟩

set_option maxHeartbeats 400000 in
theorem place_any (most : Int) (b : Nat) (v : Value) (xs : List Hs) (key : ByteArray) (hx : xs.length < 1000000) (w : World) (h : Tb most w b v xs) :
    Calls Try.prog 42 #[.pointer (some ⟨b, 0, none⟩), .string key] w fun e w' => e = .returned (.int .i64 (idxI (hasKey key) xs)) ∧ Ext [] w w' := by
  obtain ⟨a, cap, rfl⟩ := h.row.val
  have hcv : w.cell? ⟨b, 0, none⟩ = some (.slice a xs.length cap) := h.blk.cell 0
  have hlt := h.blk.lt
  have eg := enters_of Try.func53 (by kernel_rfl) rfl
  have HR := Lib.hid h.row
  clear h
  go_enter Try.func42, Try.ntmps42
  go_wp2_with fail
  have he0 : ∀ o, Ext [] w (w.alloc o) := fun o => (Ext.refl _ _).alloc o
  refine (hs_indexFunc encH encH_ok.len (hasKey key) _ _ eg _ xs hx _ (HR.out.alloc _) (isKeyH _ key _ ?_)).mono ?_
  · simp [go_sem]
  rintro e w1 ⟨rfl, e1⟩
  go_wp2_with fail
  go_ret
  exact ⟨rfl, (he0 _).trans e1 (by simp)⟩

set_option maxHeartbeats 800000 in
theorem newH_any (m : Int) (w : World) : Calls Try.prog 13 #[.int .i64 m] w fun e w' => e = .returned (.pointer (some ⟨w.heap.size, 0, none⟩)) ∧ Tb (clampH m) w' w.heap.size (.slice none 0 0) [] ∧ Ext [] w w' := by
  have key : ∀ most : Int, Tb most (w.alloc (.cells #[.slice none 0 0, .int .i64 most] 75)) w.heap.size (.slice none 0 0) [] := fun most => ⟨Blk.new _ _ _, Rw.nil _, by simp [Value.ownBlock]⟩
  have K := Lib.hid key
  clear key
  go_enter Try.func13, Try.ntmps13
  go_wp2
  all_goals
    go_ret
    refine ⟨rfl, ?_, (Ext.refl _ _).alloc _⟩
    first
      | exact K.out _
      | (have e : clampH m = 32 := by (unfold clampH; omega)
         rw [e]; exact K.out _)
      | (have e : clampH m = 1 := by (unfold clampH; omega)
         rw [e]; exact K.out _)
      | (have e : clampH m = m := by (unfold clampH; omega)
         rw [e]; exact K.out _)

/-- How many uses a host has. -/
def usedM (xs : List Hs) (key : ByteArray) : Int := match xs.find? (hasKey key) with | some x => x.uses | none => 0

theorem find_at {α : Type} {p : α → Bool} {xs : List α} {i : Nat} {x : α} (h : xs[i]? = some x) (hp : p x = true) (hj : ∀ (j : Nat) y, j < i → xs[j]? = some y → p y = false) : xs.find? p = some x := by
  rw [List.find?_eq_some_iff_getElem]
  have hi := (List.getElem?_eq_some_iff.1 h).1
  refine ⟨hp, i, hi, by rw [List.getElem?_eq_getElem hi] at h; injection h, fun j hji => ?_⟩
  rw [hj j _ hji (List.getElem?_eq_getElem (by omega))]; rfl
theorem find_none {α : Type} {p : α → Bool} {xs : List α} (h : ∀ x ∈ xs, p x = false) : xs.find? p = none := by
  rw [List.find?_eq_none]; intro x hx; simp [h x hx]

set_option maxHeartbeats 800000 in
theorem used_any (most : Int) (b : Nat) (v : Value) (xs : List Hs) (key : ByteArray) (hx : xs.length < 1000000) (w : World) (h : Tb most w b v xs) :
    Calls Try.prog 15 #[.pointer (some ⟨b, 0, none⟩), .string key] w fun e w' => e = .returned (.int .i64 (usedM xs key)) ∧ Ext [] w w' := by
  have hat := place_any most b v xs key hx w h
  rcases idxI_spec (hasKey key) xs with ⟨h1, h2⟩ | ⟨i, x, h1, h2, h4, h3⟩
  · have hr : usedM xs key = 0 := by unfold usedM; rw [find_none h2]
    have HR := Lib.hid hr
    rw [h1] at hat
    clear h hr h1 h2
    go_enter Try.func15, Try.ntmps15
    go_wp2_with fail
    refine hat.mono ?_
    rintro e w1 ⟨rfl, e1⟩
    go_wp2_with fail
    go_ret
    exact ⟨ret_int HR.out, e1⟩
  · have hr : usedM xs key = x.uses := by unfold usedM; rw [find_at h1 h2 h4]
    have HR := Lib.hid hr
    obtain ⟨a, cap, rfl⟩ := h.row.val
    obtain ⟨n, hn⟩ : ∃ n, n = xs.length := ⟨_, rfl⟩
    rw [← hn] at h
    have hil : i < n := by rw [hn]; exact (List.getElem?_eq_some_iff.1 h1).1
    obtain ⟨g, rfl, hgl⟩ := h.row.addr (by omega)
    have b1 : (0 : Int) ≤ (i : Int) := by omega
    have b2 : (i : Int) < (n : Int) := by omega
    rw [h3] at hat
    have HH := Lib.hid h
    have H1 := Lib.hid h1
    clear hr h1 h2 h3 h4 h hn
    go_enter Try.func15, Try.ntmps15
    go_wp2_with fail
    refine hat.mono ?_
    rintro e w1 ⟨rfl, e1⟩
    have hk := HH.out.keep e1 (by simp)
    have hcv : w1.cell? ⟨b, 0, none⟩ = some (.slice (some ⟨g, 0, none⟩) n cap) := hk.blk.cell 0
    have hx1 := hk.row.cell encH_ok.len H1.out 1 (by omega)
    simp only [encH, Nat.add_zero, List.getElem?_cons_zero, List.getElem?_cons_succ] at hx1
    clear hk hat
    go_wp2_with fail
    go_ret
    exact ⟨ret_int HR.out, e1⟩

set_option maxHeartbeats 800000 in
theorem hasH_any (most : Int) (b : Nat) (v : Value) (xs : List Hs) (key : ByteArray) (hx : xs.length < 1000000) (w : World) (h : Tb most w b v xs) :
    Calls Try.prog 39 #[.pointer (some ⟨b, 0, none⟩), .string key] w fun e w' => e = .returned (.bool (xs.any (hasKey key))) ∧ Ext [] w w' := by
  have hat := place_any most b v xs key hx w h
  rcases idxI_spec (hasKey key) xs with ⟨h1, h2⟩ | ⟨i, x, h1, h2, h4, h3⟩
  · have hr : xs.any (hasKey key) = false := by rw [List.any_eq_false]; intro x hx; simp [h2 x hx]
    have HR := Lib.hid hr
    rw [h1] at hat
    clear h hr h1 h2
    go_enter Try.func39, Try.ntmps39
    go_wp2_with fail
    refine hat.mono ?_
    rintro e w1 ⟨rfl, e1⟩
    go_wp2_with fail
    go_ret
    exact ⟨ret_bool HR.out, e1⟩
  · have hr : xs.any (hasKey key) = true := by rw [List.any_eq_true]; exact ⟨x, List.mem_of_getElem? h1, h2⟩
    have HR := Lib.hid hr
    have b1 : (0 : Int) ≤ (i : Int) := by omega
    rw [h3] at hat
    clear h hr h1 h2 h3
    go_enter Try.func39, Try.ntmps39
    go_wp2_with fail
    refine hat.mono ?_
    rintro e w1 ⟨rfl, e1⟩
    go_wp2_with fail
    go_ret
    exact ⟨ret_bool HR.out, e1⟩

/-- A use is taken off: what is told, and what is there then. -/
def freeM (xs : List Hs) (key : ByteArray) : Int × List Hs :=
  match xs.findIdx? (hasKey key) with
  | none => (11, xs)
  | some i => match xs[i]? with
    | none => (11, xs)
    | some x => if x.uses = 0 then (12, xs) else (0, xs.set i ⟨x.key, x.uses - 1⟩)

theorem findIdx_none {α : Type} {p : α → Bool} {xs : List α} (h : ∀ x ∈ xs, p x = false) : xs.findIdx? p = none := by
  rw [List.findIdx?_eq_none_iff]; exact h
theorem findIdx_at {α : Type} {p : α → Bool} {xs : List α} {i : Nat} {x : α} (h : xs[i]? = some x) (hp : p x = true) (hj : ∀ (j : Nat) y, j < i → xs[j]? = some y → p y = false) : xs.findIdx? p = some i := by
  have hi := (List.getElem?_eq_some_iff.1 h).1
  rw [List.findIdx?_eq_some_iff_getElem]
  refine ⟨hi, by rw [List.getElem?_eq_getElem hi] at h; injection h with h; rw [h]; exact hp, fun j hji => ?_⟩
  rw [hj j _ hji (List.getElem?_eq_getElem (by omega))]; simp

set_option maxHeartbeats 1600000 in
theorem free_any (most : Int) (b : Nat) (v : Value) (xs : List Hs) (key : ByteArray) (hx : xs.length < 1000000) (w : World) (h : Tb most w b v xs) (hok : HsOk xs) :
    Calls Try.prog 17 #[.pointer (some ⟨b, 0, none⟩), .string key] w fun e w' => e = .returned (.int .i64 (freeM xs key).1) ∧ Tb most w' b v (freeM xs key).2 ∧ Ext (b :: v.ownBlock.toList) w w' := by
  have hat := place_any most b v xs key hx w h
  rcases idxI_spec (hasKey key) xs with ⟨h1, h2⟩ | ⟨i, x, h1, h2, h4, h3⟩
  · have hr : freeM xs key = (11, xs) := by unfold freeM; rw [findIdx_none h2]
    rw [hr]
    rw [h1] at hat
    have HH := Lib.hid h
    clear h hr h1 h2 hok
    go_enter Try.func17, Try.ntmps17
    go_wp2_with fail
    refine hat.mono ?_
    rintro e w1 ⟨rfl, e1⟩
    go_wp2_with fail
    go_ret
    exact ⟨rfl, HH.out.keep e1 (by simp), e1.mono (by simp)⟩
  · have hr : freeM xs key = if x.uses = 0 then (12, xs) else (0, xs.set i ⟨x.key, x.uses - 1⟩) := by unfold freeM; rw [findIdx_at h1 h2 h4]; simp only [h1]
    obtain ⟨u0, u6⟩ := hok x (List.mem_of_getElem? h1)
    obtain ⟨a, cap, rfl⟩ := h.row.val
    obtain ⟨n, hn⟩ : ∃ n, n = xs.length := ⟨_, rfl⟩
    rw [← hn] at h ⊢
    have hil : i < n := by rw [hn]; exact (List.getElem?_eq_some_iff.1 h1).1
    obtain ⟨g, rfl, hgl⟩ := h.row.addr (by omega)
    have b1 : (0 : Int) ≤ (i : Int) := by omega
    have b2 : (i : Int) < (n : Int) := by omega
    rw [h3] at hat
    have HH := Lib.hid h
    have H1 := Lib.hid h1
    have HN := Lib.hid hn
    have hgb : g ≠ b := fun e => h.ne (by rw [e]; rfl)
    clear h1 h2 h3 h4 h hn hok
    by_cases hu : x.uses = 0
    · rw [if_pos hu] at hr
      rw [hr]
      have hq : (x.uses == 0) = true := by simp [hu]
      clear hu hr u0 u6
      go_enter Try.func17, Try.ntmps17
      go_wp2_with fail
      refine hat.mono ?_
      rintro e w1 ⟨rfl, e1⟩
      have hk := HH.out.keep e1 (by simp)
      have hcv : w1.cell? ⟨b, 0, none⟩ = some (.slice (some ⟨g, 0, none⟩) n cap) := hk.blk.cell 0
      have hx1 := hk.row.cell encH_ok.len H1.out 1 (by omega)
      simp only [encH, Nat.add_zero, List.getElem?_cons_zero, List.getElem?_cons_succ] at hx1
      clear hk hat
      go_wp2_with fail
      go_ret
      exact ⟨rfl, HH.out.keep e1 (by simp), e1.mono (by simp)⟩
    · rw [if_neg hu] at hr
      rw [hr]
      have hq : (x.uses == 0) = false := by simp [hu]
      have u1 : 1 ≤ x.uses := by omega
      clear hu hr u0
      go_enter Try.func17, Try.ntmps17
      go_wp2_with fail
      refine hat.mono ?_
      rintro e w1 ⟨rfl, e1⟩
      have hk := HH.out.keep e1 (by simp)
      have hcv : w1.cell? ⟨b, 0, none⟩ = some (.slice (some ⟨g, 0, none⟩) n cap) := hk.blk.cell 0
      have hx0 := hk.row.cell encH_ok.len H1.out 0 (by omega)
      have hx1 := hk.row.cell encH_ok.len H1.out 1 (by omega)
      have hxf := hk.row.free (i * 2 + 1)
      simp only [encH, Nat.add_zero, List.getElem?_cons_zero, List.getElem?_cons_succ] at hx0 hx1
      have HK := Lib.hid hk; have HX0 := Lib.hid hx0
      clear hk hat hx0
      go_wp2_with fail
      go_ret
      refine ⟨rfl, ?_, ?_⟩
      · have e2 : Ext [g] w1 (w1.setCell ⟨g, i * 2 + 1, none⟩ (.int .i64 (x.uses - 1))) := Ext.setCell (Ext.refl _ _) (Or.inl (by simp)) _
        refine ⟨HK.out.blk_at rfl e2, ?_, HK.out.ne⟩
        exact HK.out.row.put1 encH_ok.len (by omega) H1.out _ ⟨x.key, x.uses - 1⟩ rfl
      · exact (e1.mono (by simp)).setCell (Or.inl (by simp [Value.ownBlock])) _
end Go.Proofs.Ytmmhpjodnceipaa
