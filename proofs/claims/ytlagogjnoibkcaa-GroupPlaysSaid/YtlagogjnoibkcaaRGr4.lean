/- The document's groups: Leave, by contract. -/
import Derived.Test.YtlagogjnoibkcaaRGr2
import Derived.Test.YtlagogjnoibkcaaGrPure
namespace Go.Proofs.Ytlagogjnoibkcaa
open Go.RowKit Go.Proofs.YtlagogjnoibkcaaW.PrintLast
set_option linter.unusedVariables false
set_option linter.unusedSimpArgs false

theorem filter_at {L : List Int} (hn : L.Nodup) : ∀ {p : Nat} {id : Int}, L[p]? = some id → (L.filter fun x => !(x == id)) = L.take p ++ L.drop (p + 1) := by
  induction L with
  | nil => intro p id h; simp at h
  | cons z r ih =>
    intro p id h
    rw [List.nodup_cons] at hn
    cases p with
    | zero =>
      simp at h; subst h
      have : (r.filter fun x => !(x == z)) = r := by
        rw [List.filter_eq_self]
        intro x hx
        have : x ≠ z := fun e => hn.1 (e ▸ hx)
        simp [this]
      simp [this]
    | succ p =>
      simp at h
      have hz : z ≠ id := fun e => hn.1 (e ▸ List.mem_of_getElem? h)
      have := ih hn.2 h
      simp [hz, this]
theorem filter_off {xs : List Int} {z : Int} (h : xs.Pairwise (· < ·)) (hm : z ∈ xs) : (xs.filter fun x => !(x == z)) = xs.eraseIdx (xs.countP (· < z)) := by
  rw [filter_at (h.imp (fun h => by omega)) (count_at h hm), List.eraseIdx_eq_take_drop_succ]
/-- What is kept of the first k. -/
def keptI (xs : List Int) (z : Int) (k : Nat) : List Int := (xs.take k).filter fun x => !(x == z)
theorem keptI_on {xs : List Int} {z x : Int} {k : Nat} (h : xs[k]? = some x) (hz : (x == z) = false) : keptI xs z (k + 1) = keptI xs z k ++ [x] := by
  unfold keptI; rw [List.take_add_one, h]; simp [List.filter_append, hz]
theorem keptI_off {xs : List Int} {z x : Int} {k : Nat} (h : xs[k]? = some x) (hz : (x == z) = true) : keptI xs z (k + 1) = keptI xs z k := by
  unfold keptI; rw [List.take_add_one, h]; simp [List.filter_append, hz]
theorem keptI_len (xs : List Int) (z : Int) (k : Nat) : (keptI xs z k).length ≤ k := by
  unfold keptI
  exact Nat.le_trans (List.length_filter_le _ _) (by rw [List.length_take]; omega)
theorem measK {k l : Nat} (h : k < l) : l - (intOf (Value.int .i64 ((k : Int) + 1))).toNat < l - (intOf (Value.int .i64 (k : Int))).toNat := by
  simp [intOf]; omega

def LeaveQ (b : Nat) (S : List Nat) (M : List Gk) (id : Int) (w : World) (e : Ending) (w' : World) : Prop :=
  e = .returned (.tuple #[.int .i64 (leaveG M id).1.1, .bool (leaveG M id).1.2]) ∧ Chg (fun w' S' => GQ w' b S' (leaveG M id).2) S w w'

set_option maxHeartbeats 6400000 in
set_option maxRecDepth 100000 in
theorem rg_leave (b : Nat) (S : List Nat) (M : List Gk) (id : Int) (hx : M.length < 10000) (hu : OkG M) (hso : SortG M) (w : World) (h : GQ w b S M) :
    Calls Try.prog 36 #[.pointer (some ⟨b, 0, none⟩), .int .i64 id] w (LeaveQ b S M id w) := by
  unfold LeaveQ
  have hof := rg_of b S M id hx hu w h
  unfold ofG at hof
  rcases idxI_spec (inA id) M with ⟨h1, h2⟩ | ⟨i, s, h1, h2, h3, h4⟩
  · rw [h1] at hof
    have hm : leaveG M id = ((0, false), M) := by
      unfold leaveG
      rw [List.findIdx?_eq_none_iff.2 h2]
    have HM := Lib.hid hm; have HOF := Lib.hid hof; have HH := Lib.hid h
    clear h1 h2 hm hof h hx hu hso
    go_enter Try.func36, Try.ntmps36
    go_wp2_with fail
    refine HOF.out.mono ?_
    rintro e w1 ⟨rfl, rfl⟩
    go_wp2_with fail
    refine bodyPost_ret (v := .tuple #[.int .i64 0, .bool false]) (by simp [results, Try.results36, go_sem]) rfl ?_
    exact ⟨by rw [HM.out], S, by rw [HM.out]; exact HH.out, Ext.refl _ _, fun x hx => .inl hx⟩
  · rw [h4, show (1 : Int) + (i : Int) = (i : Int) + 1 by omega] at hof
    have hm : leaveG M id = (((i : Int) + 1, true), M.set i ⟨s.ids.eraseIdx (s.ids.countP (· < id)), s.torn⟩) := by
      unfold leaveG
      rw [find_ofG h1 h2 h3]
      simp only [h1]
    have hfo := filter_off (hso s (List.mem_of_getElem? h1)) (inA_iff.1 h2)
    have hsl := hu s (List.mem_of_getElem? h1)
    obtain ⟨v, L, h, hS, rfl⟩ := h
    obtain ⟨t, ht, rfl⟩ := abs_at h1
    obtain ⟨a, cap, rfl⟩ := h.ob.row.val
    obtain ⟨n, hn⟩ : ∃ n, n = L.length := ⟨_, rfl⟩
    have hin : i < n := by rw [hn]; exact (List.getElem?_eq_some_iff.1 ht).1
    rw [absG_len, ← hn] at hx
    rw [← hn] at h hS
    obtain ⟨q, rfl, hq⟩ := h.ob.row.addr (by omega)
    have hi6 : i < 1000000 := by omega
    have b1 : (0 : Int) ≤ (i : Int) := by omega
    have b2 : (i : Int) < (n : Int) := by omega
    have d0 : (((i : Int) + 1) == 0) = false := by simp; omega
    obtain ⟨l, hl⟩ : ∃ l, l = t.ids.length := ⟨_, rfl⟩
    have hl5 : l < 1000000 := by rw [hl]; have : t.ids.length < 100000 := hsl; omega
    have hfo2 : keptI t.ids id l = t.ids.eraseIdx (t.ids.countP (· < id)) := by unfold keptI; rw [hl, List.take_length]; exact hfo
    have HM := Lib.hid hm; have HOF := Lib.hid hof; have HT := Lib.hid h; have HS := Lib.hid hS; have H1 := Lib.hid ht; have HL := Lib.hid hl; have HFO := Lib.hid hfo2; have HI6 := Lib.hid hi6; have HL5 := Lib.hid hl5
    clear h1 h2 h3 h4 hm hof h hS ht hl hsl hu hso hn hfo hfo2 hi6 hl5 hx hin
    have hcv : w.cell? ⟨b, 0, none⟩ = some (.slice (some ⟨q, 0, none⟩) n cap) := HT.out.ob.blk.cell 0
    have c0 := HT.out.ob.row.cell encG_ok.len H1.out 0 (by omega)
    simp only [encG, Gr.row, Nat.add_zero, List.getElem?_cons_zero, List.getElem?_cons_succ] at c0
    rw [← HL.out] at c0
    have hri := HT.out.inn t (List.mem_of_getElem? H1.out)
    unfold Gr.row at hri
    rw [← HL.out] at hri
    have HRI := Lib.hid hri
    have HCV := Lib.hid hcv; have HC0 := Lib.hid c0
    clear hri hcv c0
    have f1 := ws1 HI6.out
    have f2 := w64i HI6.out
    go_enter Try.func36, Try.ntmps36
    go_wp2_with fail
    refine HOF.out.mono ?_
    rintro e w1 ⟨rfl, rfl⟩
    go_wp2_with fail
    clear d0
    go_loopw [7, 8] (fun lv iv wx => ∃ (k m : Nat) (la : Option Addr) (lc : Nat) (xs : List Int), k ≤ l ∧ m ≤ k ∧ iv = .int .i64 (k : Int) ∧ lv = .slice la m lc ∧ Hid (xs = keptI t.ids id k) ∧ Hid (RI wx (.slice la m lc) xs) ∧ Hid (Ext [] w wx) ∧ Hid (∀ y, (Value.slice la m lc).ownBlock = some y → w.heap.size ≤ y)) (fun _ iv _ => l - (intOf iv).toNat)
    case atStart => exact ⟨0, 0, none, 0, [], Nat.zero_le _, Nat.le_refl _, rfl, rfl, rfl, Rw.nil _, Ext.refl _ _, fun y hy => by simp [Value.ownBlock] at hy⟩
    case round =>
      obtain ⟨k, m, la, lc, xs, hkl, hmk, rfl, rfl, hxs, hrw, hex, hown⟩ := hrel
      have hcv : wr.cell? ⟨b, 0, none⟩ = some (.slice (some ⟨q, 0, none⟩) n cap) := (HT.out.keep0 hex.out).ob.blk.cell 0
      have c0 : wr.cell? ⟨q, i * 2, none⟩ = some (.slice t.ma l t.mc) := (hex.out.cell (p := ⟨q, i * 2, none⟩) hq (by simp)).trans HC0.out
      by_cases hk : k < l
      · have d1 : decide ((k : Int) < (l : Int)) = true := decide_eq_true (by omega)
        have d1' : decide (k < l) = true := decide_eq_true hk
        obtain ⟨y, hy⟩ : ∃ y, t.ids[k]? = some y := ⟨_, List.getElem?_eq_getElem (by rw [← HL.out]; exact hk)⟩
        obtain ⟨mg, hma, hmg⟩ := HRI.out.addr (by omega)
        rw [hma] at c0
        have hri := HRI.out
        rw [hma] at hri
        have y0 := (hri.keep hex.out (by simp)).cell encI_ok.len hy 0 (by omega)
        simp only [encI, Nat.add_zero, Nat.mul_one, List.getElem?_cons_zero] at y0
        have b3 : (0 : Int) ≤ (k : Int) := by omega
        have b4 : (k : Int) < (l : Int) := by omega
        have P1 : Hid (k < l) := hk
        have P2 : Hid (m ≤ k) := hmk
        have f9 := ws2 (i := k) (Nat.lt_trans hk HL5.out)
        have HY := Lib.hid hy
        clear hri hma hy hk hkl hmk
        cases hyz : (y == id) with
        | true =>
          have hne : decide (¬ y = id) = false := by simpa using hyz
          have HKO := Lib.hid (keptI_off HY.out hyz)
          have hyz' : y = id := by simpa using hyz
          subst hyz'
          clear hyz
          go_wp2_with fail
          exact ⟨⟨k + 1, m, la, lc, xs, P1.out, Nat.le_succ_of_le P2.out, by go_num, rfl, hxs.out.trans HKO.out.symm, hrw, hex, hown⟩, by first | exact measK P1.out | (rw [f9]; exact measK P1.out)⟩
        | false =>
          have hyz2 : ¬ y = id := by simpa using hyz
          have HKO := Lib.hid (keptI_on HY.out hyz)
          clear hyz
          have hrA := hrw.out.alloc (.cells #[.int .i64 y] 3 (0, 0))
          have hsA := Sl.new (enc := encI .i64) wr y 3
          have hlen : LenIs xs [y] (m + 1) := by
            unfold LenIs
            rw [← hrw.out.len]; rfl
          have h63 : m + 1 ≤ 1000000 := by have h1 := P2.out; have h2 := P1.out; have h3 := HL5.out; omega
          have eA : Hid (Ext [] w (wr.alloc (.cells #[.int .i64 y] 3 (0, 0)))) := hex.out.alloc _
          have hsz := hex.out.size
          go_wp2_with (at_builtin; refine wpList_appN tyI encI_ok (by rfl) _ _ (by rfl) hrA (by rfl) hsA (by rfl) hlen h63 ?_)
          intro a5 c5 w5 hr5 hS5 hg5
          have e5 : Hid (Ext [] w w5) := fresh_app eA.out hown.out hS5
          have g5 : Hid (∀ z, (Value.slice a5 (m + 1) c5).ownBlock = some z → w.heap.size ≤ z) := fun z hz => (hg5 z hz).elim (hown.out z) (fun h => Nat.le_trans hsz (Nat.le_of_succ_le h))
          have R5 := Lib.hid hr5
          clear hr5 hS5 hg5 hrA hsA hlen h63 hsz
          go_wp2_with fail
          exact ⟨⟨k + 1, m + 1, a5, c5, _, P1.out, Nat.succ_le_succ P2.out, by go_num, rfl, by rw [hxs.out]; exact HKO.out.symm, R5, e5, g5⟩, by first | exact measK P1.out | (rw [f9]; exact measK P1.out)⟩
      · have d1 : decide ((k : Int) < (l : Int)) = false := decide_eq_false (by omega)
        have d1' : decide (k < l) = false := decide_eq_false hk
        have hk0 : k = l := by omega
        have hxs2 : xs = t.ids.eraseIdx (t.ids.countP (· < id)) := by rw [hxs.out, hk0]; exact HFO.out
        have hm2 : m = xs.length := hrw.out.len
        have hr2 := hrw.out
        have hset := HT.out.set_one (by decide) (by decide) (s' := ⟨la, lc, xs, t.torn⟩) (W := wr.setCell ⟨q, i * 2, none⟩ (.slice la xs.length lc)) H1.out (hex.out.mono (by simp)) (by rw [hm2] at hr2; exact hr2) (fun y hy => .inr (hown.out y (by rw [hm2]; exact hy))) ((Ext.refl [q] _).setCell (Or.inl (by simp)) _) (fun hs hr => hr.put1 encG_ok.len (j := 0) (by omega) hs _ _ rfl)
        have hfz : wr.frozen? ⟨q, i * 2, none⟩ = false := (HT.out.keep0 hex.out).ob.row.free _
        rw [← hm2] at hset
        obtain ⟨hT8, hE8, hO8⟩ := hset
        have HT8 := Lib.hid hT8; have HE8 := Lib.hid hE8; have HO8 := Lib.hid hO8; have HX2 := Lib.hid hxs2
        clear hT8 hE8 hO8 hk hk0 hkl hmk hm2 hr2 hxs hxs2
        go_wp2_with fail
        refine bodyPost_ret (v := .tuple #[.int .i64 ((i : Int) + 1), .bool true]) (by simp [results, Try.results36, go_sem]) rfl ?_
        have hSS : ∀ y, y ∈ (b :: [q]) ++ gOwn L → y ∈ S := fun y hy => by rw [HS.out]; exact hy
        rw [HM.out]
        refine ⟨rfl, _, ⟨_, _, HT8.out, rfl, by rw [absG_set]; show _ = (absG L).set i ⟨t.ids.eraseIdx (t.ids.countP (· < id)), t.torn⟩; rw [← HX2.out]; rfl⟩, HE8.out.mono (fun y hy => .inl (hSS y hy)), ?_⟩
        intro y hy
        rcases List.mem_append.1 hy with hy | hy
        · exact .inl (hSS y (List.mem_append_left _ hy))
        · exact (HO8.out y hy).imp (fun h => hSS y (List.mem_append_right _ h)) (fun h => h)
end Go.Proofs.Ytlagogjnoibkcaa
