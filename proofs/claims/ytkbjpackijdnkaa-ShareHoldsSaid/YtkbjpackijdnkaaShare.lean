/- The preflights' table: the object; at, with, count, Len, Of, by contract. -/
import Derived.Test.YtkbjpackijdnkaaShLib
import Derived.Deep.DeepCutAuto
namespace Go.Proofs.Ytkbjpackijdnkaa
open Go.RowKit
set_option linter.unusedVariables false
set_option linter.unusedSimpArgs false

/-- The blocks of the members' rows. -/
def mOwn (L : List Sh) : List Nat := L.flatMap fun s => s.row.ownBlock.toList
theorem mem_mOwn {L : List Sh} {s : Sh} (h : s ∈ L) {g : Nat} (hg : s.row.ownBlock = some g) : g ∈ mOwn L := List.mem_flatMap.2 ⟨s, h, by simp [hg]⟩

/-- The table at b: its last number, its preflights. -/
structure ShT (w : World) (b : Nat) (v : Value) (last : Int) (L : List Sh) : Prop where
  ob : Ob encSh 7 105 (fun v => #[v, .int .i64 last]) 102 w b v L
  inn : ∀ s ∈ L, RI w s.row s.ids
  dis : (mOwn L).Nodup

theorem ShT.keep {R : List Nat} {w w' : World} {b : Nat} {v : Value} {last : Int} {L : List Sh} (h : ShT w b v last L) (he : Ext R w w') (hR : ∀ x ∈ (b :: v.ownBlock.toList) ++ mOwn L, x ∉ R) : ShT w' b v last L :=
  ⟨h.ob.keep he (fun x hx => hR x (List.mem_append_left _ hx)), fun s hs => (h.inn s hs).keep he (fun g hg => hR g (List.mem_append_right _ (mem_mOwn hs hg))), h.dis⟩
theorem ShT.keep0 {w w' : World} {b : Nat} {v : Value} {last : Int} {L : List Sh} (h : ShT w b v last L) (he : Ext [] w w') : ShT w' b v last L := h.keep he (by simp)
theorem ShT.lt {w : World} {b : Nat} {v : Value} {last : Int} {L : List Sh} (h : ShT w b v last L) : ∀ x ∈ (b :: v.ownBlock.toList) ++ mOwn L, x < w.heap.size := by
  intro x hx
  rcases List.mem_append.1 hx with hx | hx
  · exact h.ob.lt x hx
  · obtain ⟨s, hs, hg⟩ := List.mem_flatMap.1 hx
    exact (h.inn s hs).lt x (by simpa using hg)
/-- The members' rows lie apart from the table's own. -/
theorem ShT.apart {w : World} {b : Nat} {v : Value} {last : Int} {L : List Sh} (h : ShT w b v last L) : ∀ x ∈ mOwn L, x ∉ b :: v.ownBlock.toList := by
  intro x hx hm
  obtain ⟨s, hs, hg⟩ := List.mem_flatMap.1 hx
  have hg : s.row.ownBlock = some x := by simpa using hg
  rcases List.mem_cons.1 hm with rfl | hm
  · exact (h.inn s hs).ne_blk h.ob.blk (by decide) hg
  · exact (h.inn s hs).apart h.ob.row (by decide) x hg (by simpa using hm)

/-- No preflight has very many members. -/
def IdOk (L : List Sh) : Prop := ∀ s ∈ L, s.ids.length < 100000

set_option maxHeartbeats 400000 in
theorem shNew_any (w : World) : Calls Try.prog 24 #[] w fun e w' => e = .returned (.pointer (some ⟨w.heap.size, 0, none⟩)) ∧ ShT w' w.heap.size (.slice none 0 0) 0 [] ∧ Ext [] w w' := by
  go_enter Try.func24, Try.ntmps24
  go_wp2_with fail
  go_ret
  exact ⟨rfl, ⟨⟨Blk.new _ _ _, Rw.nil _, by simp [Value.ownBlock]⟩, by simp, by simp [mOwn]⟩, (Ext.refl _ _).alloc _⟩

set_option maxHeartbeats 400000 in
theorem shLen_any (b : Nat) (v : Value) (last : Int) (L : List Sh) (w : World) (h : ShT w b v last L) :
    Calls Try.prog 31 #[.pointer (some ⟨b, 0, none⟩)] w fun e w' => e = .returned (.int .i64 L.length) ∧ w = w' := by
  obtain ⟨a, cap, rfl⟩ := h.ob.row.val
  have hcv : w.cell? ⟨b, 0, none⟩ = some (.slice a L.length cap) := h.ob.blk.cell 0
  clear h
  go_enter Try.func31, Try.ntmps31
  go_wp2_with fail
  go_ret
  exact ⟨rfl, rfl⟩

set_option maxHeartbeats 800000 in
theorem shAt_any (b : Nat) (v : Value) (last : Int) (L : List Sh) (pre : Int) (hx : L.length < 1000000) (w : World) (h : ShT w b v last L) :
    Calls Try.prog 64 #[.pointer (some ⟨b, 0, none⟩), .int .i64 pre] w fun e w' => e = .returned (.int .i64 (idxI (numIs pre) L)) ∧ Ext [] w w' := by
  obtain ⟨a, cap, rfl⟩ := h.ob.row.val
  have hcv : w.cell? ⟨b, 0, none⟩ = some (.slice a L.length cap) := h.ob.blk.cell 0
  have hlt := h.ob.blk.lt
  have eg := enters_of Try.func80 (by kernel_rfl) rfl
  have HR := Lib.hid h.ob.row
  clear h
  go_enter Try.func64, Try.ntmps64
  go_wp2_with fail
  have he0 : ∀ o, Ext [] w (w.alloc o) := fun o => (Ext.refl _ _).alloc o
  refine (sh_indexFunc encSh encSh_ok.len (numIs pre) _ _ eg _ L hx _ (HR.out.keep (he0 _) (by simp)) (isNum _ pre _ ?_)).mono ?_
  · simp [go_sem]
  rintro e w1 ⟨rfl, e1⟩
  go_wp2_with fail
  go_ret
  exact ⟨rfl, (he0 _).trans e1 (by simp)⟩

set_option maxHeartbeats 800000 in
theorem shWith_any (b : Nat) (v : Value) (last : Int) (L : List Sh) (id : Int) (hx : L.length < 1000000) (hi : IdOk L) (w : World) (h : ShT w b v last L) :
    Calls Try.prog 59 #[.pointer (some ⟨b, 0, none⟩), .int .i64 id] w fun e w' => e = .returned (.int .i64 (idxI (holds id) L)) ∧ Ext [] w w' := by
  obtain ⟨a, cap, rfl⟩ := h.ob.row.val
  have hcv : w.cell? ⟨b, 0, none⟩ = some (.slice a L.length cap) := h.ob.blk.cell 0
  have hlt := h.ob.blk.lt
  have eg := enters_of Try.func77 (by kernel_rfl) rfl
  have he0 : ∀ o, Ext [] w (w.alloc o) := fun o => (Ext.refl _ _).alloc o
  have hrr : ∀ s ∈ L, RI (w.alloc (.cells #[.int .i64 id] 3 (0, 0))) s.row s.ids ∧ s.ids.length < 1000000 := fun s hs => ⟨(h.inn s hs).keep (he0 _) (by simp), by have := hi s hs; omega⟩
  have HR := Lib.hid h.ob.row; have HRR := Lib.hid hrr
  clear h hrr hi
  go_enter Try.func59, Try.ntmps59
  go_wp2_with fail
  refine (sh_indexIn encSh encSh_ok.len (holds id) _ _ eg _ L hx _ (HR.out.keep (he0 _) (by simp)) (isHeld _ id L _ ?_ HRR.out)).mono ?_
  · simp [go_sem]
  rintro e w1 ⟨rfl, e1⟩
  go_wp2_with fail
  go_ret
  exact ⟨rfl, (he0 _).trans e1 (by simp)⟩

/-- The number of the preflight that has a member; 0: none has it. -/
def ofM (L : List Sh) (id : Int) : Int := ((L.find? (holds id)).map Sh.num).getD 0

set_option maxHeartbeats 800000 in
theorem shOf_any (b : Nat) (v : Value) (last : Int) (L : List Sh) (id : Int) (hx : L.length < 1000000) (hi : IdOk L) (w : World) (h : ShT w b v last L) :
    Calls Try.prog 30 #[.pointer (some ⟨b, 0, none⟩), .int .i64 id] w fun e w' => e = .returned (.int .i64 (ofM L id)) ∧ Ext [] w w' := by
  have hwi := shWith_any b v last L id hx hi w h
  rcases idxI_spec (holds id) L with ⟨h1, h2⟩ | ⟨i, x, h1, h2, h3, h4⟩
  · rw [h1] at hwi
    have hm : ofM L id = 0 := by
      unfold ofM
      rw [List.find?_eq_none.2 (fun x hx => by simp [h2 x hx])]; rfl
    have HM := Lib.hid hm; have HWI := Lib.hid hwi
    clear h1 h2 hm hwi h hi hx
    go_enter Try.func30, Try.ntmps30
    go_wp2_with fail
    refine HWI.out.mono ?_
    rintro e w1 ⟨rfl, e1⟩
    go_wp2_with fail
    go_ret
    exact ⟨ret_int HM.out, e1⟩
  · rw [h4] at hwi
    have hm : ofM L id = x.num := by
      have : L.find? (holds id) = some x := by
        rw [List.find?_eq_some_iff_getElem]
        have hil := (List.getElem?_eq_some_iff.1 h1).1
        refine ⟨h2, i, hil, by rw [List.getElem?_eq_getElem hil] at h1; injection h1, fun j hji => ?_⟩
        rw [h3 j _ hji (List.getElem?_eq_getElem (by omega))]; rfl
      unfold ofM; rw [this]; rfl
    obtain ⟨a, cap, rfl⟩ := h.ob.row.val
    obtain ⟨n, hn⟩ : ∃ n, n = L.length := ⟨_, rfl⟩
    have hob := h.ob
    have hin : i < n := by rw [hn]; exact (List.getElem?_eq_some_iff.1 h1).1
    rw [← hn] at hob
    have HM := Lib.hid hm; have HWI := Lib.hid hwi; have HOB := Lib.hid hob; have H1 := Lib.hid h1
    clear h1 h2 h3 h4 hm hwi h hi hob hx hn
    go_enter Try.func30, Try.ntmps30
    go_wp2_with fail
    refine HWI.out.mono ?_
    rintro e w1 ⟨rfl, e1⟩
    have ho1 := HOB.out.keep e1 (by simp)
    obtain ⟨g, rfl, hgl⟩ := ho1.row.addr (by omega)
    have hcv : w1.cell? ⟨b, 0, none⟩ = some (.slice (some ⟨g, 0, none⟩) n cap) := ho1.blk.cell 0
    have c0 := ho1.row.cell encSh_ok.len H1.out 0 (by omega)
    simp only [encSh, Nat.add_zero, List.getElem?_cons_zero] at c0
    have b1 : (0 : Int) ≤ (i : Int) := by omega
    have b2 : (i : Int) < (n : Int) := by omega
    clear ho1
    go_wp2_with fail
    go_ret
    exact ⟨ret_int HM.out, e1⟩
end Go.Proofs.Ytkbjpackijdnkaa
