/- The groups: Of, Make, Members, by contract. -/
import Derived.Test.YtlagogjnoibkcaaGrObj
namespace Go.Proofs.Ytlagogjnoibkcaa
open Go.RowKit
set_option linter.unusedVariables false
set_option linter.unusedSimpArgs false

/-- The predicate at the elements of a row. -/
def PredIn {α : Type} (P : Program) (g : Nat) (lb : Array Value) (enc : α → List Value) (p : α → Bool) (xs : List α) (w : World) : Prop :=
  ∀ (W : World) (x : α), x ∈ xs → Ext [] w W → Calls P g (#[.agg (enc x).toArray] ++ lb) W fun e w' => e = .returned (.bool (p x)) ∧ Ext [] W w'
def inG (id : Int) (s : Gr) : Bool := hasI s.ids id
def inA (id : Int) (s : Gk) : Bool := hasI s.ids id

set_option maxHeartbeats 1600000 in
theorem isIn (B : Nat) (id : Int) (xs : List Gr) (w : World) (hc : w.cell? ⟨B, 0, none⟩ = some (.int .i64 id)) (hr : ∀ s ∈ xs, RI w s.row s.ids ∧ s.ids.length < 1000000) : PredIn Try.prog 55 #[.pointer (some ⟨B, 0, none⟩)] encG (inG id) xs w := by
  intro W x hx he
  have hB : B < w.heap.size := lt_of_cell hc
  have hc' := (he.cell (p := ⟨B, 0, none⟩) hB (by simp)).trans hc
  have hBW := Nat.lt_of_lt_of_le hB he.size
  have hk := fun W2 (h2 : Ext [] W W2) => intContains_any x.row x.ids id (hr x hx).2 W2 (((hr x hx).1.keep he (by simp)).keep h2 (by simp))
  have HK := Lib.hid hk
  clear hc he hr hk hx
  unfold encG
  go_enter Try.func55, Try.ntmps55
  go_wp2_with fail
  refine (HK.out _ ((Ext.refl _ _).alloc _)).mono ?_
  rintro e w1 ⟨rfl, rfl⟩
  go_wp2_with fail
  go_ret
  exact ⟨rfl, (Ext.refl _ _).alloc _⟩

set_option maxHeartbeats 3200000
/-- slices.IndexFunc at this row. -/
theorem gr_indexIn0 (K : Nat) (zE : ∀ w, (Go.sizeOf 78).run Try.prog w = .ok K w) {α : Type} (enc : α → List Value) (hk : ∀ x, (enc x).length = K) (p : α → Bool) (g : Nat) (lb : Array Value) (eg : ∀ args w, (callFunc g args).run Try.prog w = .ok (.enter g args) w)
    (v : Value) (xs : List α) (hx : xs.length < 1000000) (w : World) (h : Rw enc K 78 w v xs) (hp : PredIn Try.prog g lb enc p xs w) :
    Calls Try.prog 54 #[v, .func (.func g) #[] lb] w fun e w' => e = .returned (.int .i64 (idxI p xs)) ∧ Ext [] w w' := by
  obtain ⟨a, cap, rfl⟩ := h.val
  obtain ⟨n, hn⟩ : ∃ n, n = xs.length := ⟨_, rfl⟩
  rw [← hn] at h ⊢
  have HX := Lib.hid hx
  have HN := Lib.hid hn
  have hn1 : n < 1000000 := by omega
  clear hn hx
  have aE : ∀ w, (isAgg 78).run Try.prog w = .ok true w := Try.isAgg78
  go_enter Try.func54, Try.ntmps54
  go_wp2_with fail
  go_loopw [5, 8] (fun _ iv wr => ∃ (k : Nat), k ≤ n ∧ iv = .int .i64 k ∧ Hid (∀ (j : Nat) x, j < k → xs[j]? = some x → p x = false) ∧ Ext [] w wr) (fun _ iv _ => n - (intOf iv).toNat)
  case atStart => exact ⟨0, Nat.zero_le _, rfl, fun j x hj => absurd hj (Nat.not_lt_zero _), Ext.refl _ _⟩
  case round =>
    obtain ⟨k, hkn, rfl, hall, her⟩ := hrel
    by_cases hlt : k < n
    · obtain ⟨x, hxk⟩ : ∃ x, xs[k]? = some x := ⟨_, List.getElem?_eq_getElem (by rw [← HN.out]; exact hlt)⟩
      have d1 : decide (k < n) = true := decide_eq_true hlt
      have hr := h.keep her (by simp)
      obtain ⟨gb, rfl, hgl⟩ := hr.addr (by omega)
      have l2 := hr.loads (P := Try.prog) hk hxk
      have hcall := hp wr x (List.mem_of_getElem? hxk) her
      have b1 : (0 : Int) ≤ (k : Int) := by omega
      have b2 : (k : Int) < (n : Int) := by omega
      clear hr hp h
      have HXK := Lib.hid hxk
      clear hxk
      cases hq : p x with
      | true =>
        rw [hq] at hcall
        go_wp2_with (go_at_fn g; refine hcall.mono ?_; rintro e w' ⟨rfl, hb'⟩)
        go_ret
        refine ⟨ret_int ?_, her.trans hb' (by simp)⟩
        exact idxI_some HXK.out hq (fun j y hj hy => hall.out j y hj hy)
      | false =>
        rw [hq] at hcall
        go_wp2_with (go_at_fn g; refine hcall.mono ?_; rintro e w' ⟨rfl, hb'⟩)
        refine ⟨⟨k + 1, by omega, rfl, ?_, her.trans hb' (by simp)⟩, by simp [intOf]; omega⟩
        intro j y hj hy
        rcases Nat.lt_or_ge j k with h1 | h1
        · exact hall.out j y h1 hy
        · have : j = k := by omega
          rw [this, HXK.out] at hy
          injection hy with hy
          rw [← hy]; exact hq
    · have d1 : decide (k < n) = false := decide_eq_false hlt
      go_wp2_with fail
      go_ret
      refine ⟨ret_int ?_, her⟩
      exact idxI_none (fun j y hy => hall.out j y (by have := (List.getElem?_eq_some_iff.1 hy).1; have := HN.out; omega) hy)

theorem gr_indexIn {α : Type} (enc : α → List Value) (hk : ∀ x, (enc x).length = 2) (p : α → Bool) (g : Nat) (lb : Array Value) (eg : ∀ args w, (callFunc g args).run Try.prog w = .ok (.enter g args) w)
    (v : Value) (xs : List α) (hx : xs.length < 1000000) (w : World) (h : Rw enc 2 78 w v xs) (hp : PredIn Try.prog g lb enc p xs w) :
    Calls Try.prog 54 #[v, .func (.func g) #[] lb] w fun e w' => e = .returned (.int .i64 (idxI p xs)) ∧ Ext [] w w' :=
  gr_indexIn0 2 Try.sizeOf78 enc hk p g lb eg v xs hx w h hp


theorem idx_absG {p : Gr → Bool} {q : Gk → Bool} (h : ∀ s, p s = q s.abs) : ∀ L : List Gr, idxI p L = idxI q (absG L) := by
  intro L
  unfold idxI absG
  rw [List.findIdx?_map]
  have : p = (q ∘ Gr.abs) := funext h
  rw [this]
def ofG (M : List Gk) (id : Int) : Int := 1 + idxI (inA id) M
def OkG (M : List Gk) : Prop := ∀ s ∈ M, s.ids.length < 100000
theorem OkG.L {L : List Gr} (h : OkG (absG L)) : IdGr L := fun s hs => h s.abs (List.mem_map.2 ⟨s, hs, rfl⟩)
theorem idxI_bd {α : Type} (p : α → Bool) (xs : List α) : -1 ≤ idxI p xs ∧ idxI p xs < (xs.length : Int) := by
  rcases idxI_spec p xs with ⟨h1, h2⟩ | ⟨i, x, h1, h2, h3, h4⟩
  · rw [h1]; omega
  · have := (List.getElem?_eq_some_iff.1 h1).1; rw [h4]; omega

set_option maxHeartbeats 1600000 in
theorem gs_of (b : Nat) (S : List Nat) (M : List Gk) (id : Int) (hx : M.length < 10000) (hu : OkG M) (w : World) (h : GS w b S M) :
    Calls Try.prog 39 #[.pointer (some ⟨b, 0, none⟩), .int .i64 id] w fun e w' => e = .returned (.int .i64 (ofG M id)) ∧ Ext [] w w' := by
  obtain ⟨v, L, h, hS, rfl⟩ := h
  rw [absG_len] at hx
  obtain ⟨a, cap, rfl⟩ := h.ob.row.val
  have hcv : w.cell? ⟨b, 0, none⟩ = some (.slice a L.length cap) := h.ob.blk.cell 0
  have hlt := h.ob.blk.lt
  have eg := enters_of Try.func55 (by kernel_rfl) rfl
  have he0 : ∀ o, Ext [] w (w.alloc o) := fun o => (Ext.refl _ _).alloc o
  have hrr : ∀ s ∈ L, RI (w.alloc (.cells #[.int .i64 id] 3 (0, 0))) s.row s.ids ∧ s.ids.length < 1000000 := fun s hs => ⟨(h.inn s hs).keep (he0 _) (by simp), by have := hu.L s hs; omega⟩
  have hm : ofG (absG L) id = 1 + idxI (inG id) L := by unfold ofG; rw [idx_absG (p := inG id) (q := inA id) (fun s => rfl)]
  have hbd := idxI_bd (inG id) L
  have hif := gr_indexIn encG encG_ok.len (inG id) _ #[.pointer (some ⟨w.heap.size, 0, none⟩)] eg (.slice a L.length cap) L (by omega) (w.alloc (.cells #[.int .i64 id] 3 (0, 0))) (h.ob.row.keep (he0 _) (by simp)) (isIn w.heap.size id L _ (by simp [go_sem]) hrr)
  generalize idxI (inG id) L = q at hm hbd hif
  have HIF := Lib.hid hif; have HM := Lib.hid hm; have HE := Lib.hid (he0 (.cells #[.int .i64 id] 3 (0, 0)))
  have hwq : wrap64 (1 + q) = 1 + q := by unfold wrap64; omega
  have HWQ := Lib.hid hwq
  clear h hrr hu hS hif hm he0 hbd hwq
  go_enter Try.func39, Try.ntmps39
  go_wp2_with fail
  refine HIF.out.mono ?_
  rintro e w1 ⟨rfl, e1⟩
  go_wp2_with fail
  go_ret
  exact ⟨ret_int (HM.out.trans HWQ.out.symm), HE.out.trans e1 (by simp)⟩

def memG (M : List Gk) (g : Int) : List Int := if hasM M g then (M[(g - 1).toNat]?.map Gk.ids).getD [] else []
def MemP (ids : List Int) (w : World) (e : Ending) (w' : World) : Prop :=
  ∃ (a : Option Addr) (c : Nat), e = .returned (.slice a ids.length c) ∧ RI w' (.slice a ids.length c) ids ∧ Ext [] w w' ∧ (∀ g, (Value.slice a ids.length c).ownBlock = some g → w.heap.size ≤ g)

set_option maxHeartbeats 1600000 in
theorem gs_members (b : Nat) (S : List Nat) (M : List Gk) (g : Int) (hx : M.length < 10000) (hu : OkG M) (w : World) (h : GS w b S M) :
    Calls Try.prog 30 #[.pointer (some ⟨b, 0, none⟩), .int .i64 g] w (MemP (memG M g) w) := by
  have hhs := gs_has b S M g w h
  cases hh : hasM M g with
  | false =>
    have hm : memG M g = [] := by unfold memG; rw [hh]; rfl
    rw [hh] at hhs
    have HHS := Lib.hid hhs; have HM := Lib.hid hm
    clear hhs hm h hh hu
    go_enter Try.func30, Try.ntmps30
    go_wp2_with fail
    refine HHS.out.mono ?_
    rintro e w1 ⟨rfl, rfl⟩
    go_wp2_with fail
    refine bodyPost_ret (v := .slice none 0 0) (by simp [results, Try.results30, go_sem]) rfl ?_
    unfold MemP
    rw [HM.out]
    exact ⟨none, 0, rfl, Rw.nil _, Ext.refl _ _, fun g hg => by simp [Value.ownBlock] at hg⟩
  | true =>
    obtain ⟨i, s, rfl, hs⟩ := has_at hh
    rw [hh] at hhs
    have hm : memG M ((i : Int) + 1) = s.ids := by unfold memG; rw [if_pos hh, show ((i : Int) + 1 - 1).toNat = i by omega, hs]; rfl
    have hsl := hu s (List.mem_of_getElem? hs)
    obtain ⟨v, L, h, hS, rfl⟩ := h
    obtain ⟨t, ht, rfl⟩ := abs_at hs
    obtain ⟨a, cap, rfl⟩ := h.ob.row.val
    obtain ⟨n, hn⟩ : ∃ n, n = L.length := ⟨_, rfl⟩
    have hin : i < n := by rw [hn]; exact (List.getElem?_eq_some_iff.1 ht).1
    rw [absG_len, ← hn] at hx
    rw [← hn] at h
    obtain ⟨q, rfl, hq⟩ := h.ob.row.addr (by omega)
    have hcv : w.cell? ⟨b, 0, none⟩ = some (.slice (some ⟨q, 0, none⟩) n cap) := h.ob.blk.cell 0
    have c0 := h.ob.row.cell encG_ok.len ht 0 (by omega)
    simp only [encG, Gr.row, Nat.add_zero, List.getElem?_cons_zero, List.getElem?_cons_succ] at c0
    have hri := h.inn t (List.mem_of_getElem? ht)
    unfold Gr.row at hri
    obtain ⟨l, hl⟩ : ∃ l, l = t.ids.length := ⟨_, rfl⟩
    have hsl2 : t.ids.length < 100000 := hsl
    have hm2 : memG (absG L) ((i : Int) + 1) = t.ids := hm
    rw [← hl] at c0 hri hsl2
    have b1 : (0 : Int) ≤ (i : Int) := by omega
    have b2 : (i : Int) < (n : Int) := by omega
    have hsl := hri.sl
    have hrw : RI w (.slice none 0 0) [] := Rw.nil _
    have hlen : LenIs ([] : List Int) t.ids l := by unfold LenIs; rw [hl]; simp
    have h63 : l ≤ 1000000 := by omega
    have hi6 : i < 1000000 := by omega
    have HHS := Lib.hid hhs; have HM := Lib.hid hm2; have HL := Lib.hid hl
    clear hhs hm hm2 h hh hs ht hn hS hl hri hu
    have f1 := ws1 hi6
    go_enter Try.func30, Try.ntmps30
    go_wp2_with fail
    refine HHS.out.mono ?_
    rintro e w1 ⟨rfl, rfl⟩
    go_wp2_with (at_builtin; refine wpList_appN tyI encI_ok (by rfl) _ _ (by rfl) hrw (by rfl) hsl (by rfl) hlen h63 ?_)
    intro a' c' w5 hr5 hS5 hg5
    have he5 := hS5 [] (by simp [Value.ownBlock])
    have HR5 := Lib.hid hr5; have HE5 := Lib.hid he5; have HG5 := Lib.hid hg5
    clear hr5 hS5 he5 hg5 hsl hrw hlen hcv c0 f1
    go_wp2_with fail
    refine bodyPost_ret (v := .slice a' l c') (by simp [results, Try.results30, go_sem]) rfl ?_
    unfold MemP
    rw [HM.out, ← HL.out]
    exact ⟨a', c', rfl, by simpa using HR5.out, HE5.out, fun g hg => (HG5.out g hg).elim (fun h => by simp [Value.ownBlock] at h) id⟩

/-- What a making tells, and what is there then. -/
def makeM (M : List Gk) : (Int × Int) × List Gk := if 64 ≤ M.length then ((0, 10), M) else (((M.length : Int) + 1, 0), M ++ [⟨[], false⟩])
def MakeP (b : Nat) (S : List Nat) (M : List Gk) (w : World) (e : Ending) (w' : World) : Prop :=
  e = .returned (.tuple #[.int .i64 (makeM M).1.1, .int .i64 (makeM M).1.2]) ∧ Chg (fun w' S' => GS w' b S' (makeM M).2) S w w'

set_option maxHeartbeats 1600000 in
theorem gs_make (b : Nat) (S : List Nat) (M : List Gk) (w : World) (h : GS w b S M) :
    Calls Try.prog 26 #[.pointer (some ⟨b, 0, none⟩)] w (MakeP b S M w) := by
  unfold MakeP
  obtain ⟨v, L, h, hS, rfl⟩ := h
  obtain ⟨a, cap, rfl⟩ := h.ob.row.val
  obtain ⟨n, hn⟩ : ∃ n, n = L.length := ⟨_, rfl⟩
  rw [← hn] at h hS
  have hcv : w.cell? ⟨b, 0, none⟩ = some (.slice a n cap) := h.ob.blk.cell 0
  by_cases hf : 64 ≤ n
  · have d1 : decide (64 ≤ (n : Int)) = true := decide_eq_true (by omega)
    have hm : makeM (absG L) = ((0, 10), absG L) := by unfold makeM; rw [if_pos (by rw [absG_len, ← hn]; exact hf)]
    have HM := Lib.hid hm; have HH := Lib.hid h; have HS := Lib.hid hS
    clear hm h hS hn
    go_enter Try.func26, Try.ntmps26
    go_wp2_with fail
    refine bodyPost_ret (v := .tuple #[.int .i64 0, .int .i64 10]) (by simp [results, Try.results26, go_sem]) rfl ?_
    rw [HM.out]
    exact ⟨rfl, S, ⟨_, L, HH.out, HS.out, rfl⟩, Ext.refl _ _, fun x hx => .inl hx⟩
  · have d1 : decide (64 ≤ (n : Int)) = false := decide_eq_false (by omega)
    have hm : makeM (absG L) = (((n : Int) + 1, 0), absG (L ++ [noG])) := by
      unfold makeM; rw [if_neg (by rw [absG_len, ← hn]; exact hf), absG_len, ← hn]
      unfold absG; rw [List.map_append]; rfl
    have hlen : LenIs L [noG] (n + 1) := by unfold LenIs; rw [← hn]; rfl
    have h63 : n + 1 ≤ 1000000 := by omega
    have hsl := Sl.new (enc := encG) w noG 78
    have hrw := h.ob.row.alloc (.cells (encG noG).toArray 78 (0, 0))
    have e0 : Ext [] w (w.alloc (.cells (encG noG).toArray 78 (0, 0))) := (Ext.refl _ _).alloc _
    have hbl := h.ob.blk.lt
    unfold encG noG Gr.row at hsl hrw e0
    have HM := Lib.hid hm; have HH := Lib.hid h; have HS := Lib.hid hS; have E0 := Lib.hid e0
    clear hm h hS hn e0
    go_enter Try.func26, Try.ntmps26
    go_wp2_with (at_builtin; refine wpList_appN tyG encG_ok (by rfl) _ _ (by rfl) hrw (by rfl) hsl (by rfl) hlen h63 ?_)
    intro a5 c5 w5 hr5 hS5 hg5
    have hfin := HH.out.ob.appended E0.out hr5 hS5 (fun g hg => (hg5 g hg).imp_right (fun h => by omega)) 0 (by simp)
    have hb5 := HH.out.ob.blk_of E0.out hS5
    have hcv5 : w5.cell? ⟨b, 0, none⟩ = some (.slice a n cap) := hb5.cell 0
    have hfz5 : w5.frozen? ⟨b, 0, none⟩ = false := hb5.free 0
    have hcv6 : (w5.setCell ⟨b, 0, none⟩ (.slice a5 (n + 1) c5)).cell? ⟨b, 0, none⟩ = some (.slice a5 (n + 1) c5) := hfin.1.blk.cell 0
    have HF := Lib.hid hfin
    clear hfin hb5 hr5 hS5 hg5 hsl hrw hlen hcv
    go_wp2_with fail
    refine bodyPost_ret (v := .tuple #[.int .i64 ((n : Int) + 1), .int .i64 0]) (by simp [results, Try.results26, go_sem]) rfl ?_
    rw [HM.out]
    have hmo : gOwn (L ++ [noG]) = gOwn L := by rw [gOwn_append, gOwn_cons]; simp [noG, Gr.row, Value.ownBlock, gOwn]
    have hap := HH.out.apart (by decide) (by decide)
    refine ⟨rfl, _, ⟨_, L ++ [noG], ⟨HF.out.1, fun s hs => ?_, by rw [hmo]; exact HH.out.dis⟩, rfl, rfl⟩, HF.out.2.1.mono (fun x hx => .inl (by rw [HS.out]; exact List.mem_append_left _ hx)), fun x hx => ?_⟩
    · rcases List.mem_append.1 hs with hs | hs
      · exact (HH.out.inn s hs).keep HF.out.2.1 (fun y hy hm => hap y (mem_gOwn hs hy) hm)
      · simp at hs; subst hs; exact Rw.nil _
    · rw [hmo] at hx
      rcases List.mem_append.1 hx with hx | hx
      · exact (HF.out.2.2 x hx).imp_left (fun h => by rw [HS.out]; exact List.mem_append_left _ h)
      · exact .inl (by rw [HS.out]; exact List.mem_append_right _ hx)
end Go.Proofs.Ytlagogjnoibkcaa
