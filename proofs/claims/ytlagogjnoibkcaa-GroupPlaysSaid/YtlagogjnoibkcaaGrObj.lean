/- The groups: the object; New, has, Of, Make, Members, Live, by contract. -/
import Derived.Test.YtlagogjnoibkcaaGrLib
import Derived.Test.YtlagogjnoibkcaaGrDel
import Derived.Deep.DeepCutAuto
namespace Go.Proofs.Ytlagogjnoibkcaa
open Go.RowKit
set_option linter.unusedVariables false
set_option linter.unusedSimpArgs false

/-- A group: its members' row, its members, is it torn down. -/
structure Gr where
  ma : Option Addr
  mc : Nat
  ids : List Int
  torn : Bool
def Gr.row (s : Gr) : Value := .slice s.ma s.ids.length s.mc
def encG (s : Gr) : List Value := [s.row, .bool s.torn]
theorem encG_ok : EncOk encG 2 := ⟨fun _ => rfl, fun o u hu => by simp [encG, Gr.row] at hu; rcases hu with rfl | rfl <;> rfl⟩
theorem tyG : ETy Try.prog 74 78 2 := ⟨by kernel_rfl, ⟨Try.t78, _, by kernel_rfl, by rfl, by rfl, by decide, by rfl⟩, by decide⟩
def noG : Gr := ⟨none, 0, [], false⟩
def offG : Gr := ⟨none, 0, [], true⟩

def gOwn (L : List Gr) : List Nat := L.flatMap fun s => s.row.ownBlock.toList
theorem mem_gOwn {L : List Gr} {s : Gr} (h : s ∈ L) {g : Nat} (hg : s.row.ownBlock = some g) : g ∈ gOwn L := List.mem_flatMap.2 ⟨s, h, by simp [hg]⟩
theorem gOwn_append (A B : List Gr) : gOwn (A ++ B) = gOwn A ++ gOwn B := by unfold gOwn; rw [List.flatMap_append]
theorem gOwn_cons (s : Gr) (B : List Gr) : gOwn (s :: B) = s.row.ownBlock.toList ++ gOwn B := rfl

/-- The groups at b (of row type E, struct type T). -/
structure GT (E T : TypeId) (w : World) (b : Nat) (v : Value) (L : List Gr) : Prop where
  ob : Ob encG 2 E (fun v => #[v]) T w b v L
  inn : ∀ s ∈ L, RI w s.row s.ids
  dis : (gOwn L).Nodup
section
variable {E T : TypeId}
theorem GT.keep {R : List Nat} {w w' : World} {b : Nat} {v : Value} {L : List Gr} (h : GT E T w b v L) (he : Ext R w w') (hR : ∀ x ∈ (b :: v.ownBlock.toList) ++ gOwn L, x ∉ R) : GT E T w' b v L :=
  ⟨h.ob.keep he (fun x hx => hR x (List.mem_append_left _ hx)), fun s hs => (h.inn s hs).keep he (fun g hg => hR g (List.mem_append_right _ (mem_gOwn hs hg))), h.dis⟩
theorem GT.keep0 {w w' : World} {b : Nat} {v : Value} {L : List Gr} (h : GT E T w b v L) (he : Ext [] w w') : GT E T w' b v L := h.keep he (by simp)
theorem GT.lt {w : World} {b : Nat} {v : Value} {L : List Gr} (h : GT E T w b v L) : ∀ x ∈ (b :: v.ownBlock.toList) ++ gOwn L, x < w.heap.size := by
  intro x hx
  rcases List.mem_append.1 hx with hx | hx
  · exact h.ob.lt x hx
  · obtain ⟨s, hs, hg⟩ := List.mem_flatMap.1 hx
    exact (h.inn s hs).lt x (by simpa using hg)
theorem GT.apart {w : World} {b : Nat} {v : Value} {L : List Gr} (h : GT E T w b v L) (hE : 3 ≠ E) (hT : 3 ≠ T) : ∀ x ∈ gOwn L, x ∉ b :: v.ownBlock.toList := by
  intro x hx hm
  obtain ⟨s, hs, hg⟩ := List.mem_flatMap.1 hx
  have hg : s.row.ownBlock = some x := by simpa using hg
  rcases List.mem_cons.1 hm with rfl | hm
  · exact (h.inn s hs).ne_blk h.ob.blk hT hg
  · exact (h.inn s hs).apart h.ob.row hE x hg (by simpa using hm)
end
def IdGr (L : List Gr) : Prop := ∀ s ∈ L, s.ids.length < 100000

theorem split_g {L : List Gr} {i : Nat} {s : Gr} (h : L[i]? = some s) : L = L.take i ++ s :: L.drop (i + 1) := by
  have hi := (List.getElem?_eq_some_iff.1 h).1
  have hv := (List.getElem?_eq_some_iff.1 h).2
  rw [← hv, ← List.drop_eq_getElem_cons hi, List.take_append_drop]
theorem set_g {L : List Gr} {i : Nat} (h : i < L.length) (s' : Gr) : L.set i s' = L.take i ++ s' :: L.drop (i + 1) := by
  rw [List.set_eq_take_append_cons_drop, if_pos h]
theorem nodup_g {A B : List Nat} {o o' : Option Nat} (h : (A ++ (o.toList ++ B)).Nodup) (ho : ∀ x, o' = some x → o = some x ∨ (x ∉ A ∧ x ∉ B)) : (A ++ (o'.toList ++ B)).Nodup := by
  rw [List.nodup_append, List.nodup_append] at h ⊢
  obtain ⟨hA, ⟨h1, hB, h2⟩, h3⟩ := h
  cases o' with
  | none => exact ⟨hA, ⟨by simp, hB, by simp⟩, fun a ha b hb => h3 a ha b (by simp at hb; simp [hb])⟩
  | some x =>
    rcases ho x rfl with rfl | ⟨h4, h5⟩
    · exact ⟨hA, ⟨h1, hB, h2⟩, h3⟩
    · refine ⟨hA, ⟨by simp, hB, ?_⟩, ?_⟩
      · intro a ha b hb e
        simp at ha; subst ha; subst e; exact h5 hb
      · intro a ha b hb e
        subst e
        simp at hb
        rcases hb with rfl | hb
        · exact h4 ha
        · exact h3 a ha a (by simp [hb]) rfl
theorem dis_g {L : List Gr} (h : (gOwn L).Nodup) {i j : Nat} {s t : Gr} (hs : L[i]? = some s) (ht : L[j]? = some t) (hij : i ≠ j) {x : Nat} (hx : s.row.ownBlock = some x) : t.row.ownBlock ≠ some x := by
  intro hy
  have hL := split_g hs
  rw [hL, gOwn_append, gOwn_cons, List.nodup_append, List.nodup_append] at h
  obtain ⟨hA, ⟨h1, hB, h2⟩, h3⟩ := h
  rw [hx] at h2 h3
  have hi := (List.getElem?_eq_some_iff.1 hs).1
  rcases Nat.lt_or_ge j i with hj | hj
  · have : t ∈ L.take i := by
      rw [List.mem_iff_getElem?]
      exact ⟨j, by rw [List.getElem?_take, if_pos hj]; exact ht⟩
    exact h3 x (mem_gOwn this hy) x (by simp) rfl
  · have : t ∈ L.drop (i + 1) := by
      rw [List.mem_iff_getElem?]
      exact ⟨j - (i + 1), by rw [List.getElem?_drop, show i + 1 + (j - (i + 1)) = j by omega]; exact ht⟩
    exact h2 x (by simp) x (mem_gOwn this hy) rfl

/-- A group is changed: its cells are written anew (W is the world behind that), its row of members is s'. -/
theorem GT.set_one {E T : TypeId} (hE : 3 ≠ E) (hT : 3 ≠ T) {w w1 W : World} {b g n cap i : Nat} {L : List Gr} {s s' : Gr} (h : GT E T w b (.slice (some ⟨g, 0, none⟩) n cap) L) (hs : L[i]? = some s)
    (he : Ext s.row.ownBlock.toList w w1) (hr : RI w1 s'.row s'.ids) (hg : ∀ x, s'.row.ownBlock = some x → s.row.ownBlock = some x ∨ w.heap.size ≤ x) (e2 : Ext [g] w1 W)
    (hput : ∀ {w : World} {xs : List Gr}, xs[i]? = some s → Rw encG 2 E w1 (.slice (some ⟨g, 0, none⟩) n cap) xs → Rw encG 2 E W (.slice (some ⟨g, 0, none⟩) n cap) (xs.set i s')) :
    GT E T W b (.slice (some ⟨g, 0, none⟩) n cap) (L.set i s') ∧ Ext ((b :: [g]) ++ gOwn L) w W ∧ (∀ x ∈ gOwn (L.set i s'), x ∈ gOwn L ∨ w.heap.size ≤ x) := by
  have hsm : s ∈ L := List.mem_of_getElem? hs
  have hil := (List.getElem?_eq_some_iff.1 hs).1
  have hap : ∀ x, s.row.ownBlock = some x → x ∉ [b, g] := fun x hx hm => h.apart hE hT x (mem_gOwn hsm hx) (by simpa [Value.ownBlock] using hm)
  have hlt := h.ob.lt
  have hob1 : Ob encG 2 E (fun v => #[v]) T w1 b (.slice (some ⟨g, 0, none⟩) n cap) L := h.ob.keep he (fun x hx hm => hap x (by simpa using hm) (by simpa [Value.ownBlock] using hx))
  have hnew : ∀ x, s'.row.ownBlock = some x → x ≠ g ∧ x ≠ b := fun x hx => by
    rcases hg x hx with h1 | h1
    · have := hap x h1; simp at this; exact ⟨this.2, this.1⟩
    · have h2 := hlt g (by simp [Value.ownBlock]); have h3 := hlt b (by simp); exact ⟨by omega, by omega⟩
  have hmo : ∀ x ∈ gOwn (L.set i s'), x ∈ gOwn L ∨ w.heap.size ≤ x := by
    intro x hx
    obtain ⟨t, ht, hxt⟩ := List.mem_flatMap.1 hx
    have hxt : t.row.ownBlock = some x := by simpa using hxt
    rcases List.mem_or_eq_of_mem_set ht with ht | rfl
    · exact .inl (mem_gOwn ht hxt)
    · rcases hg x hxt with h1 | h1
      · exact .inl (mem_gOwn hsm h1)
      · exact .inr h1
  refine ⟨⟨⟨hob1.blk_at rfl e2, hput (w := w) hs hob1.row, h.ob.ne⟩, ?_, ?_⟩, ?_, hmo⟩
  · intro t ht
    obtain ⟨j, hj⟩ := List.mem_iff_getElem?.1 ht
    rw [List.getElem?_set] at hj
    by_cases hij : i = j
    · rw [if_pos hij, if_pos hil] at hj
      injection hj with hj
      subst hj
      exact hr.keep e2 (fun x hx hm => (hnew x hx).1 (by simpa using hm))
    · rw [if_neg hij] at hj
      have htm := List.mem_of_getElem? hj
      refine ((h.inn t htm).keep he (fun x hx hm => ?_)).keep e2 (fun x hx hm => ?_)
      · have hm : s.row.ownBlock = some x := by simpa using hm
        exact dis_g h.dis hs hj hij hm hx
      · have := h.apart hE hT x (mem_gOwn htm hx)
        simp [Value.ownBlock] at this hm
        exact this.2 hm
  · have hd := h.dis
    rw [split_g hs, gOwn_append, gOwn_cons] at hd
    rw [set_g hil, gOwn_append, gOwn_cons]
    refine nodup_g hd (fun x hx => ?_)
    rcases hg x hx with h1 | h1
    · exact .inl h1
    · right
      have hl2 := fun y hy => h.lt y (List.mem_append_right _ hy)
      constructor
      · intro hm
        have := hl2 x (by rw [split_g hs, gOwn_append]; exact List.mem_append_left _ hm); omega
      · intro hm
        have := hl2 x (by rw [split_g hs, gOwn_append, gOwn_cons]; exact List.mem_append_right _ (List.mem_append_right _ hm)); omega
  · exact (he.mono (fun x hx => .inl (List.mem_append_right _ (mem_gOwn hsm (by simpa using hx))))).trans e2 (fun x hx => .inl (by simp at hx; subst hx; simp))

/-- What a group is, without where it lies. -/
structure Gk where
  ids : List Int
  torn : Bool
def Gr.abs (s : Gr) : Gk := ⟨s.ids, s.torn⟩
def absG (L : List Gr) : List Gk := L.map Gr.abs
theorem absG_len (L : List Gr) : (absG L).length = L.length := by simp [absG]
theorem absG_at {L : List Gr} {i : Nat} {s : Gr} (h : L[i]? = some s) : (absG L)[i]? = some s.abs := by unfold absG; rw [List.getElem?_map, h]; rfl
theorem absG_set (L : List Gr) (i : Nat) (s : Gr) : absG (L.set i s) = (absG L).set i s.abs := by unfold absG; rw [List.map_set]

/-- The groups as an object. -/
def GO (E T : TypeId) (w : World) (b : Nat) (S : List Nat) (M : List Gk) : Prop := ∃ v L, GT E T w b v L ∧ S = (b :: v.ownBlock.toList) ++ gOwn L ∧ absG L = M
theorem GO.keep {E T : TypeId} {R S : List Nat} {w w' : World} {b : Nat} {M : List Gk} (h : GO E T w b S M) (he : Ext R w w') (hR : ∀ x ∈ S, x ∉ R) : GO E T w' b S M := by
  obtain ⟨v, L, h, rfl, hm⟩ := h
  exact ⟨v, L, h.keep he hR, rfl, hm⟩
theorem GO.keep0 {E T : TypeId} {S : List Nat} {w w' : World} {b : Nat} {M : List Gk} (h : GO E T w b S M) (he : Ext [] w w') : GO E T w' b S M := h.keep he (by simp)
theorem GO.lt {E T : TypeId} {S : List Nat} {w : World} {b : Nat} {M : List Gk} (h : GO E T w b S M) : ∀ x ∈ S, x < w.heap.size := by
  obtain ⟨v, L, h, rfl, hm⟩ := h
  exact h.lt
abbrev GS := GO 78 76
abbrev GST := GT 78 76

set_option maxHeartbeats 400000 in
theorem gs_new (w : World) : Calls Try.prog 25 #[] w fun e w' => e = .returned (.pointer (some ⟨w.heap.size, 0, none⟩)) ∧ GS w' w.heap.size [w.heap.size] [] ∧ Ext [] w w' := by
  have key : GS (w.alloc (.cells #[.slice none 0 0] 76 (0, 0))) w.heap.size [w.heap.size] [] := ⟨.slice none 0 0, [], ⟨⟨Blk.new _ _ _, Rw.nil _, by simp [Value.ownBlock]⟩, by simp, by simp [gOwn]⟩, rfl, rfl⟩
  have K := Lib.hid key
  clear key
  go_enter Try.func25, Try.ntmps25
  go_wp2_with fail
  go_ret
  exact ⟨rfl, K.out, (Ext.refl _ _).alloc _⟩

def hasM (M : List Gk) (g : Int) : Bool := decide (1 ≤ g) && decide (g ≤ (M.length : Int))
set_option maxHeartbeats 800000 in
theorem gs_has (b : Nat) (S : List Nat) (M : List Gk) (g : Int) (w : World) (h : GS w b S M) :
    Calls Try.prog 49 #[.pointer (some ⟨b, 0, none⟩), .int .i64 g] w fun e w' => e = .returned (.bool (hasM M g)) ∧ w = w' := by
  obtain ⟨v, L, h, hS, rfl⟩ := h
  obtain ⟨a, cap, rfl⟩ := h.ob.row.val
  obtain ⟨n, hn⟩ : ∃ n, n = L.length := ⟨_, rfl⟩
  have hcv : w.cell? ⟨b, 0, none⟩ = some (.slice a L.length cap) := h.ob.blk.cell 0
  rw [← hn] at hcv
  have hm : hasM (absG L) g = (decide (1 ≤ g) && decide (g ≤ (n : Int))) := by unfold hasM; rw [absG_len, hn]
  have HM := Lib.hid hm
  clear h hS hn hm
  by_cases h1 : 1 ≤ g
  · have d1 : decide (1 ≤ g) = true := decide_eq_true h1
    by_cases h2 : g ≤ (n : Int)
    · have d2 : decide (g ≤ (n : Int)) = true := decide_eq_true h2
      go_enter Try.func49, Try.ntmps49
      go_wp2_with fail
      go_ret
      exact ⟨ret_bool (by rw [HM.out, d1, d2]; rfl), rfl⟩
    · have d2 : decide (g ≤ (n : Int)) = false := decide_eq_false h2
      go_enter Try.func49, Try.ntmps49
      go_wp2_with fail
      go_ret
      exact ⟨ret_bool (by rw [HM.out, d1, d2]; rfl), rfl⟩
  · have d1 : decide (1 ≤ g) = false := decide_eq_false h1
    go_enter Try.func49, Try.ntmps49
    go_wp2_with fail
    go_ret
    exact ⟨ret_bool (by rw [HM.out, d1]; rfl), rfl⟩

/-- Where a group of a number stands. -/
theorem has_at {M : List Gk} {g : Int} (h : hasM M g = true) : ∃ (i : Nat) (s : Gk), g = (i : Int) + 1 ∧ M[i]? = some s := by
  unfold hasM at h
  simp only [Bool.and_eq_true, decide_eq_true_eq] at h
  refine ⟨(g - 1).toNat, _, by omega, List.getElem?_eq_getElem (by omega)⟩
theorem abs_at {L : List Gr} {i : Nat} {s : Gk} (h : (absG L)[i]? = some s) : ∃ t, L[i]? = some t ∧ t.abs = s := by
  unfold absG at h
  rw [List.getElem?_map] at h
  obtain ⟨t, h1, h2⟩ := Option.map_eq_some_iff.1 h
  exact ⟨t, h1, h2⟩
theorem ws1 {i : Nat} (h : i < 1000000) : wrap64 ((i : Int) + 1 - 1) = (i : Int) := by unfold wrap64; omega
def liveG (M : List Gk) (g : Int) : Bool := hasM M g && !((M[(g - 1).toNat]?.map Gk.torn).getD false)
theorem liveG_at {M : List Gk} {i : Nat} {s : Gk} (h : M[i]? = some s) (hh : hasM M ((i : Int) + 1) = true) : liveG M ((i : Int) + 1) = !s.torn := by
  unfold liveG
  rw [hh, show ((i : Int) + 1 - 1).toNat = i by omega, h]
  rfl

set_option maxHeartbeats 1600000 in
theorem gs_live (b : Nat) (S : List Nat) (M : List Gk) (g : Int) (hx : M.length < 1000000) (w : World) (h : GS w b S M) :
    Calls Try.prog 29 #[.pointer (some ⟨b, 0, none⟩), .int .i64 g] w fun e w' => e = .returned (.bool (liveG M g)) ∧ w = w' := by
  have hhs := gs_has b S M g w h
  cases hh : hasM M g with
  | false =>
    have hm : liveG M g = false := by unfold liveG; rw [hh]; rfl
    rw [hh] at hhs
    have HHS := Lib.hid hhs; have HM := Lib.hid hm
    clear hhs hm h hh
    go_enter Try.func29, Try.ntmps29
    go_wp2_with fail
    refine HHS.out.mono ?_
    rintro e w1 ⟨rfl, rfl⟩
    go_wp2_with fail
    go_ret
    exact ⟨ret_bool HM.out, rfl⟩
  | true =>
    obtain ⟨i, s, rfl, hs⟩ := has_at hh
    have hm := liveG_at hs hh
    rw [hh] at hhs
    obtain ⟨v, L, h, hS, rfl⟩ := h
    obtain ⟨t, ht, rfl⟩ := abs_at hs
    obtain ⟨a, cap, rfl⟩ := h.ob.row.val
    obtain ⟨n, hn⟩ : ∃ n, n = L.length := ⟨_, rfl⟩
    have hin : i < n := by rw [hn]; exact (List.getElem?_eq_some_iff.1 ht).1
    rw [absG_len, ← hn] at hx
    rw [← hn] at h
    obtain ⟨q, rfl, hq⟩ := h.ob.row.addr (by omega)
    have hcv : w.cell? ⟨b, 0, none⟩ = some (.slice (some ⟨q, 0, none⟩) n cap) := h.ob.blk.cell 0
    have c1 := h.ob.row.cell encG_ok.len ht 1 (by omega)
    simp only [encG, List.getElem?_cons_zero, List.getElem?_cons_succ] at c1
    have hm2 : liveG (absG L) ((i : Int) + 1) = !t.torn := hm
    have b1 : (0 : Int) ≤ (i : Int) := by omega
    have b2 : (i : Int) < (n : Int) := by omega
    have hi6 : i < 1000000 := by omega
    have HHS := Lib.hid hhs; have HM := Lib.hid hm2
    clear hhs hm hm2 h hh hs ht hn hS
    have f1 := ws1 hi6
    cases htt : t.torn with
    | true =>
      rw [htt] at c1 HM
      go_enter Try.func29, Try.ntmps29
      go_wp2_with fail
      refine HHS.out.mono ?_
      rintro e w1 ⟨rfl, rfl⟩
      go_wp2_with fail
      go_ret
      exact ⟨ret_bool HM.out, rfl⟩
    | false =>
      rw [htt] at c1 HM
      go_enter Try.func29, Try.ntmps29
      go_wp2_with fail
      refine HHS.out.mono ?_
      rintro e w1 ⟨rfl, rfl⟩
      go_wp2_with fail
      go_ret
      exact ⟨ret_bool HM.out, rfl⟩
end Go.Proofs.Ytlagogjnoibkcaa
