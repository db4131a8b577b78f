/- The preflights' table as an object; Leave, by contract. -/
import Derived.Test.YtkbjpackijdnkaaShSet
namespace Go.Proofs.Ytkbjpackijdnkaa
open Go.RowKit
set_option linter.unusedVariables false
set_option linter.unusedSimpArgs false

structure Sk where
  num : Int
  want : Wt
  ids : List Int
def Sh.abs (s : Sh) : Sk := ⟨s.num, s.want, s.ids⟩
def absH (L : List Sh) : List Sk := L.map Sh.abs
theorem absH_len (L : List Sh) : (absH L).length = L.length := by simp [absH]
theorem absH_at {L : List Sh} {i : Nat} {s : Sh} (h : L[i]? = some s) : (absH L)[i]? = some s.abs := by unfold absH; rw [List.getElem?_map, h]; rfl
theorem absH_set (L : List Sh) (i : Nat) (s : Sh) : absH (L.set i s) = (absH L).set i s.abs := by unfold absH; rw [List.map_set]
theorem absH_erase (L : List Sh) (i : Nat) : absH (L.eraseIdx i) = (absH L).eraseIdx i := by
  unfold absH
  induction L generalizing i with
  | nil => rfl
  | cons s r ih =>
    cases i with
    | zero => rfl
    | succ i => rw [List.eraseIdx_cons_succ, List.map_cons, List.map_cons, List.eraseIdx_cons_succ, ih]

/-- The table as an object. -/
def SH (w : World) (b : Nat) (S : List Nat) (last : Int) (M : List Sk) : Prop := ∃ v L, ShT w b v last L ∧ S = (b :: v.ownBlock.toList) ++ mOwn L ∧ absH L = M
theorem SH.keep {R S : List Nat} {w w' : World} {b : Nat} {last : Int} {M : List Sk} (h : SH w b S last M) (he : Ext R w w') (hR : ∀ x ∈ S, x ∉ R) : SH w' b S last M := by
  obtain ⟨v, L, h, rfl, hm⟩ := h
  exact ⟨v, L, h.keep he hR, rfl, hm⟩
theorem SH.keep0 {S : List Nat} {w w' : World} {b : Nat} {last : Int} {M : List Sk} (h : SH w b S last M) (he : Ext [] w w') : SH w' b S last M := h.keep he (by simp)
theorem SH.lt {S : List Nat} {w : World} {b : Nat} {last : Int} {M : List Sk} (h : SH w b S last M) : ∀ x ∈ S, x < w.heap.size := by
  obtain ⟨v, L, h, rfl, hm⟩ := h
  exact h.lt

def holdsA (id : Int) (s : Sk) : Bool := hasI s.ids id
def MemOk (M : List Sk) : Prop := ∀ s ∈ M, s.ids.length < 100000
theorem MemOk.L {L : List Sh} (h : MemOk (absH L)) : IdOk L := fun s hs => h s.abs (List.mem_map.2 ⟨s, hs, rfl⟩)
theorem idx_abs {p : Sh → Bool} {q : Sk → Bool} (h : ∀ s, p s = q s.abs) : ∀ L : List Sh, idxI p L = idxI q (absH L) := by
  intro L
  unfold idxI absH
  rw [List.findIdx?_map]
  have : p = (q ∘ Sh.abs) := funext h
  rw [this]

/-- What a leaving tells, and what is there then. -/
def leaveA (M : List Sk) (id : Int) : (Int × Bool × Bool) × List Sk := match M.findIdx? (holdsA id) with
  | none => ((0, false, false), M)
  | some i => match M[i]? with
    | none => ((0, false, false), M)
    | some s => if (s.ids.filter fun x => !(x == id)).length = 0 then ((s.num, true, true), (M.set i ⟨s.num, s.want, s.ids.filter fun x => !(x == id)⟩).eraseIdx i) else ((s.num, false, true), M.set i ⟨s.num, s.want, s.ids.filter fun x => !(x == id)⟩)
theorem find_of {α : Type} {p : α → Bool} {xs : List α} {i : Nat} {x : α} (h : xs[i]? = some x) (hp : p x = true) (hj : ∀ (j : Nat) y, j < i → xs[j]? = some y → p y = false) : xs.findIdx? p = some i := by
  rw [List.findIdx?_eq_some_iff_getElem]
  have hi := (List.getElem?_eq_some_iff.1 h).1
  refine ⟨hi, by rw [List.getElem?_eq_getElem hi] at h; injection h with h; rw [h]; exact hp, fun j hji => ?_⟩
  rw [hj j _ hji (List.getElem?_eq_getElem (by omega))]; simp

set_option maxHeartbeats 400000 in
theorem isEqI (B : Nat) (id : Int) (w : World) (hc : w.cell? ⟨B, 0, none⟩ = some (.int .i64 id)) : PredI Try.prog 66 #[.pointer (some ⟨B, 0, none⟩)] (fun x => x == id) w := by
  intro W x he
  have hB : B < w.heap.size := lt_of_cell hc
  have hc' := (he.cell (p := ⟨B, 0, none⟩) hB (by simp)).trans hc
  clear hc he
  obtain ⟨p, hp⟩ : ∃ p, (x == id) = p := ⟨_, rfl⟩
  simp only [hp]
  cases p
  all_goals
    go_enter Try.func66, Try.ntmps66
    go_wp2_with fail
    go_ret
    exact ⟨rfl, Ext.refl _ _⟩

def LeaveP (b : Nat) (S : List Nat) (last : Int) (M : List Sk) (id : Int) (w : World) (e : Ending) (w' : World) : Prop :=
  e = .returned (.tuple #[.int .i64 (leaveA M id).1.1, .bool (leaveA M id).1.2.1, .bool (leaveA M id).1.2.2]) ∧ Chg (fun w' S' => SH w' b S' last (leaveA M id).2) S w w'

set_option maxHeartbeats 6400000 in
set_option maxRecDepth 100000 in
theorem sh_leave (b : Nat) (S : List Nat) (last : Int) (M : List Sk) (id : Int) (hx : M.length < 10000) (hu : MemOk M) (w : World) (h : SH w b S last M) :
    Calls Try.prog 29 #[.pointer (some ⟨b, 0, none⟩), .int .i64 id] w (LeaveP b S last M id w) := by
  obtain ⟨v, L, h, hS, rfl⟩ := h
  rw [absH_len] at hx
  unfold LeaveP
  have e0 : Ext [] w (w.alloc (.cells #[.int .i64 id] 3 (0, 0))) := (Ext.refl _ _).alloc _
  have hB : Blk (w.alloc (.cells #[.int .i64 id] 3 (0, 0))) w.heap.size #[.int .i64 id] 3 := Blk.new _ _ _
  have hwi := shWith_any b v last L id (by omega) hu.L _ (h.keep0 e0)
  have hlt := h.lt
  rcases idxI_spec (holds id) L with ⟨h1, h2⟩ | ⟨i, s, h1, h2, h3, h4⟩
  · rw [h1] at hwi
    have hm : leaveA (absH L) id = ((0, false, false), absH L) := by
      unfold leaveA
      have : (absH L).findIdx? (holdsA id) = none := by
        rw [List.findIdx?_eq_none_iff]
        intro x hx
        obtain ⟨y, hy, rfl⟩ := List.mem_map.1 hx
        exact h2 y hy
      rw [this]
    have HM := Lib.hid hm; have HWI := Lib.hid hwi; have HH := Lib.hid h; have E0 := Lib.hid e0; have HS := Lib.hid hS
    clear h1 h2 hm hwi h hx hu e0 hB hlt hS
    go_enter Try.func29, Try.ntmps29
    go_wp2_with fail
    refine HWI.out.mono ?_
    rintro e w1 ⟨rfl, e1⟩
    go_wp2_with fail
    refine bodyPost_ret (v := .tuple #[.int .i64 0, .bool false, .bool false]) (by simp [results, Try.results29, go_sem]) rfl ?_
    have e2 := E0.out.trans e1 (by simp)
    exact ⟨by rw [HM.out], S, ⟨v, L, HH.out.keep0 e2, HS.out, by rw [HM.out]⟩, e2.mono (by simp), fun x hx => .inl hx⟩
  · rw [h4] at hwi
    have hf : (absH L).findIdx? (holdsA id) = some i := by
      refine find_of (absH_at h1) h2 (fun j y hj hy => ?_)
      unfold absH at hy
      rw [List.getElem?_map] at hy
      obtain ⟨z, hz, rfl⟩ := Option.map_eq_some_iff.1 hy
      exact h3 j z hj hz
    have hm : leaveA (absH L) id = if (s.ids.filter fun x => !(x == id)).length = 0 then ((s.num, true, true), (absH (L.set i ⟨s.num, s.want, s.ma, s.mc, s.ids.filter fun x => !(x == id)⟩)).eraseIdx i) else ((s.num, false, true), absH (L.set i ⟨s.num, s.want, s.ma, s.mc, s.ids.filter fun x => !(x == id)⟩)) := by
      unfold leaveA
      rw [hf, absH_set]
      simp only [absH_at h1]
      rfl
    obtain ⟨a, cap, rfl⟩ := h.ob.row.val
    obtain ⟨n, hn⟩ : ∃ n, n = L.length := ⟨_, rfl⟩
    have hin : i < n := by rw [hn]; exact (List.getElem?_eq_some_iff.1 h1).1
    rw [← hn] at h hx hS
    obtain ⟨g, rfl, hgl⟩ := h.ob.row.addr (by omega)
    have hids : s.ids.length < 1000000 := by have := hu.L s (List.mem_of_getElem? h1); omega
    have HM := Lib.hid hm; have HWI := Lib.hid hwi; have HH := Lib.hid h; have E0 := Lib.hid e0; have HS := Lib.hid hS; have HB := Lib.hid hB; have H1 := Lib.hid h1; have HLT := Lib.hid hlt
    have hbl : b < w.heap.size := h.ob.blk.lt
    clear h1 h2 h3 h4 hm hwi h hu e0 hB hlt hS hf hn
    go_enter Try.func29, Try.ntmps29
    go_wp2_with fail
    refine HWI.out.mono ?_
    rintro e w1 ⟨rfl, e1⟩
    have x1 := E0.out.trans e1 (by simp)
    have h1 := HH.out.keep0 x1
    have hB1 := HB.out.keep e1 (by simp)
    have hcv : w1.cell? ⟨b, 0, none⟩ = some (.slice (some ⟨g, 0, none⟩) n cap) := h1.ob.blk.cell 0
    have c0 := h1.ob.row.cell encSh_ok.len H1.out 0 (by omega)
    have c6 := h1.ob.row.cell encSh_ok.len H1.out 6 (by omega)
    have f6 := h1.ob.row.free (i * 7 + 6)
    simp only [encSh, Nat.add_zero, List.getElem?_cons_zero, List.getElem?_cons_succ] at c0 c6
    have b1 : (0 : Int) ≤ (i : Int) := by omega
    have b2 : (i : Int) < (n : Int) := by omega
    have eg := enters_of Try.func66 (by kernel_rfl) rfl
    have hsm := List.mem_of_getElem? H1.out
    have hdl := intDeleteFunc_any (fun x => x == id) _ #[.pointer (some ⟨w.heap.size, 0, none⟩)] eg s.row s.ids hids w1 (h1.inn s hsm) (fun W hW => isEqI w.heap.size id W (by
      have := (hB1.keep hW (fun hm => by have h8 := HLT.out w.heap.size (List.mem_append_right _ (mem_mOwn hsm (by simpa using hm))); omega)).cell 0
      exact this))
    unfold DelI at hdl
    have HDL := Lib.hid hdl; have H1w := Lib.hid h1; have X1 := Lib.hid x1
    clear h1 hB1 hdl x1 e1 HB HWI hsm
    unfold Sh.row at c6 HDL
    go_wp2_with fail
    refine HDL.out.mono ?_
    rintro e w2 ⟨a1, m1, c1, rfl, hr1, ho1, e2⟩
    have hm1 : m1 = (s.ids.filter fun x => !(x == id)).length := hr1.len
    subst hm1
    have hset := H1w.out.set_row H1.out a1 c1 _ e2 hr1 (fun x hx => .inl (by unfold Sh.row; rw [← ho1]; exact hx))
    have e2g : Ext s.row.ownBlock.toList w1 w2 := e2
    have hsm := List.mem_of_getElem? H1.out
    have hapg : ∀ x, s.row.ownBlock = some x → x ∉ [b, g] := fun x hx hm => H1w.out.apart x (mem_mOwn hsm hx) (by simpa [Value.ownBlock] using hm)
    have hob2 := H1w.out.ob.keep e2g (fun x hx hm => hapg x (by simpa using hm) (by simpa [Value.ownBlock] using hx))
    have c6' := hob2.row.cell encSh_ok.len H1.out 6 (by omega)
    have f6' := hob2.row.free (i * 7 + 6)
    simp only [encSh, Sh.row, List.getElem?_cons_zero, List.getElem?_cons_succ] at c6'
    have HSET := Lib.hid hset
    have hcb' : w2.cell? ⟨b, 0, none⟩ = some (.slice (some ⟨g, 0, none⟩) n cap) := hob2.blk.cell 0
    obtain ⟨ids', hids'⟩ : ∃ ids', ids' = s.ids.filter fun x => !(x == id) := ⟨_, rfl⟩
    have hmm := HM.out
    rw [← hids'] at hset hmm ⊢
    obtain ⟨k, hk⟩ : ∃ k, k = ids'.length := ⟨_, rfl⟩
    rw [← hk] at hset hmm ⊢
    have habs : absH (L.set i ⟨s.num, s.want, s.ma, s.mc, ids'⟩) = absH (L.set i ⟨s.num, s.want, a1, c1, ids'⟩) := by rw [absH_set, absH_set]; rfl
    rw [habs, ← absH_erase] at hmm
    obtain ⟨hT3, hE3, hO3⟩ := hset
    have hL3 : (L.set i ⟨s.num, s.want, a1, c1, ids'⟩)[i]? = some ⟨s.num, s.want, a1, c1, ids'⟩ := by
      rw [List.getElem?_set, if_pos rfl, if_pos (List.getElem?_eq_some_iff.1 H1.out).1]
    have hSS : ∀ x, x ∈ (b :: [g]) ++ mOwn L → x ∈ S := fun x hx => by rw [HS.out]; exact hx
    have hE4 : Ext S w (w2.setCell ⟨g, i * 7 + 6, none⟩ (.slice a1 k c1)) := (X1.out.mono (by simp)).trans hE3 (fun x hx => .inl (hSS x hx))
    have hO4 : ∀ x ∈ (b :: [g]) ++ mOwn (L.set i ⟨s.num, s.want, a1, c1, ids'⟩), x ∈ S ∨ w.heap.size ≤ x := fun x hx => by
      rcases List.mem_append.1 hx with hx | hx
      · exact .inl (hSS x (List.mem_append_left _ hx))
      · rcases hO3 x hx with h8 | h8
        · exact .inl (hSS x (List.mem_append_right _ h8))
        · exact .inr (Nat.le_trans X1.out.size h8)
    have HM2 := Lib.hid hmm; have HT3 := Lib.hid hT3; have HE4 := Lib.hid hE4; have HO4 := Lib.hid hO4; have HL3 := Lib.hid hL3; have HK := Lib.hid hk
    clear hmm habs hT3 hE3 hO3 hL3 hSS hE4 hO4 hk hids' hr1 ho1 e2 e2g hapg hob2 hsm HSET HM HDL H1w X1 hcv c0 c6 f6
    generalize hLs : L.set i ⟨s.num, s.want, a1, c1, ids'⟩ = Ls at HM2 HT3 HO4 HL3
    clear hLs
    have hbg : b ≠ g := fun e => HH.out.ob.ne (by rw [e]; rfl)
    by_cases hk0 : 0 < k
    · have d1 : decide (0 < k) = true := decide_eq_true hk0
      have hm2 := HM2.out
      rw [if_neg (by omega)] at hm2
      have HM3 := Lib.hid hm2
      clear hm2
      go_wp2_with fail
      refine bodyPost_ret (v := .tuple #[.int .i64 s.num, .bool false, .bool true]) (by simp [results, Try.results29, go_sem]) rfl ?_
      exact ⟨by rw [HM3.out], _, ⟨_, Ls, HT3.out, rfl, by rw [HM3.out]⟩, HE4.out, HO4.out⟩
    · have d1 : decide (0 < k) = false := decide_eq_false hk0
      have hm2 := HM2.out
      rw [if_pos (by omega)] at hm2
      have HM3 := Lib.hid hm2
      have hdel := sh_delete encSh encSh_ok g n cap i Ls hin (by omega) _ HT3.out.ob.row
      have HDEL := Lib.hid hdel
      clear hm2 hdel
      go_wp2_with fail
      refine HDEL.out.mono ?_
      rintro e w4 ⟨rfl, hr4, e4⟩
      have her := HT3.out.erased hr4 e4
      have hb4 := HT3.out.ob.blk_at rfl e4
      have hcb4 : w4.cell? ⟨b, 0, none⟩ = some (.slice (some ⟨g, 0, none⟩) n cap) := hb4.cell 0
      have hfb4 : w4.frozen? ⟨b, 0, none⟩ = false := hb4.free 0
      have HER := Lib.hid her
      clear her hb4 hr4 e4 HDEL
      go_wp2_with fail
      refine bodyPost_ret (v := .tuple #[.int .i64 s.num, .bool true, .bool true]) (by simp [results, Try.results29, go_sem]) rfl ?_
      have hSS : ∀ x, x ∈ (b :: [g]) → x ∈ S := fun x hx => by rw [HS.out]; exact List.mem_append_left _ hx
      refine ⟨by rw [HM3.out], _, ⟨_, Ls.eraseIdx i, HER.out.1, rfl, by rw [HM3.out]⟩, HE4.out.trans HER.out.2 (fun x hx => .inl (hSS x hx)), ?_⟩
      intro x hx
      rcases List.mem_append.1 hx with hx | hx
      · exact HO4.out x (List.mem_append_left _ hx)
      · exact HO4.out x (List.mem_append_right _ ((mOwn_erase Ls i).subset hx))
end Go.Proofs.Ytkbjpackijdnkaa
