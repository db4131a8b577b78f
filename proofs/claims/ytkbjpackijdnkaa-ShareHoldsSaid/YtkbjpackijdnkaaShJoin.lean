/- The preflights' table: Join, by contract. -/
import Derived.Test.YtkbjpackijdnkaaShCount
import Derived.Test.YtkbjpackijdnkaaWLast
namespace Go.Proofs.Ytkbjpackijdnkaa
open Go.RowKit Go.Proofs.YtkbjpackijdnkaaW.PrintLast
set_option linter.unusedVariables false
set_option linter.unusedSimpArgs false

theorem RI.new1 (w : World) (z : Int) : RI (w.alloc (.cells #[.int .i64 z] 3 (0, 0))) (.slice (some ⟨w.heap.size, 0, none⟩) 1 1) [z] :=
  ⟨rfl, .inr ⟨w.heap.size, 1, #[.int .i64 z], rfl, Nat.zero_le _, Blk.new w _ _, Nat.le_refl _, by unfold maxLen; decide, rfl, rfl⟩⟩

theorem ShT.bump {w : World} {b : Nat} {v : Value} {last : Int} {L : List Sh} (h : ShT w b v last L) (k : Int) : ShT (w.setCell ⟨b, 1, none⟩ (.int .i64 k)) b v k L ∧ Ext [b] w (w.setCell ⟨b, 1, none⟩ (.int .i64 k)) := by
  have he : Ext [b] w (w.setCell ⟨b, 1, none⟩ (.int .i64 k)) := (Ext.refl _ _).setCell (Or.inl (by simp)) _
  refine ⟨⟨⟨h.ob.blk.set 1 _, h.ob.row.keep he (fun x hx hm => h.ob.ne (by simp at hm; rw [hx, hm])), h.ob.ne⟩, fun s hs => (h.inn s hs).keep he (fun x hx hm => h.apart x (mem_mOwn hs hx) (by simp at hm; simp [hm])), h.dis⟩, he⟩
def wantIsA (a : Wt) (s : Sk) : Bool := sameW s.want a
/-- What a joining tells, and what is there then. -/
def joinA (M : List Sk) (last : Int) (x : Wt) (id : Int) : (Int × Bool × Int) × Int × List Sk :=
  if id < 1 then ((0, false, 2), last, M) else if M.any (holdsA id) then ((0, false, 16), last, M) else if 64 ≤ cntA M then ((0, false, 10), last, M) else
  match M.findIdx? (wantIsA x) with
  | some i => match M[i]? with
    | some s => ((s.num, false, 0), last, M.set i ⟨s.num, s.want, s.ids ++ [id]⟩)
    | none => ((0, false, 0), last, M)
  | none => ((last + 1, true, 0), last + 1, M ++ [⟨last + 1, x, [id]⟩])
def JoinP (b : Nat) (S : List Nat) (last : Int) (M : List Sk) (x : Wt) (id : Int) (w : World) (e : Ending) (w' : World) : Prop :=
  e = .returned (.tuple #[.int .i64 (joinA M last x id).1.1, .bool (joinA M last x id).1.2.1, .int .i64 (joinA M last x id).1.2.2]) ∧ Chg (fun w' S' => SH w' b S' (joinA M last x id).2.1 (joinA M last x id).2.2) S w w'

theorem idx_any {α : Type} (p : α → Bool) (xs : List α) : (idxI p xs = -1 ∧ xs.any p = false) ∨ (∃ i : Nat, idxI p xs = (i : Int) ∧ xs.any p = true) := by
  rcases idxI_spec p xs with ⟨h1, h2⟩ | ⟨i, x, h1, h2, h3, h4⟩
  · exact .inl ⟨h1, by rw [List.any_eq_false]; intro x hx; simp [h2 x hx]⟩
  · exact .inr ⟨i, h4, by rw [List.any_eq_true]; exact ⟨x, List.mem_of_getElem? h1, h2⟩⟩

set_option maxHeartbeats 16000000 in
set_option maxRecDepth 100000 in
theorem sh_join (b : Nat) (S : List Nat) (last : Int) (h0 : 0 ≤ last) (hl6 : last < 1000000) (M : List Sk) (x : Wt) (id : Int) (hx : M.length < 1000) (hu : MemOk M) (w : World) (h : SH w b S last M) :
    Calls Try.prog 25 #[.pointer (some ⟨b, 0, none⟩), .agg (encW x).toArray, .int .i64 id] w (JoinP b S last M x id w) := by
  unfold JoinP
  obtain ⟨xo, xu, xc, xm, xn⟩ := x
  have e0 : Ext [] w (w.alloc (.cells #[.string xo, .string xu, .bool xc, .string xm, .string xn] 44 (0, 0))) := (Ext.refl _ _).alloc _
  have hB : Blk (w.alloc (.cells #[.string xo, .string xu, .bool xc, .string xm, .string xn] 44 (0, 0))) w.heap.size #[.string xo, .string xu, .bool xc, .string xm, .string xn] 44 := Blk.new _ _ _
  have HB := Lib.hid hB; have E0 := Lib.hid e0; have HH := Lib.hid h
  have hret : ∀ c w', joinA M last ⟨xo, xu, xc, xm, xn⟩ id = ((0, false, c), last, M) → Ext [] w w' → (Ending.returned (.tuple #[.int .i64 0, .bool false, .int .i64 c]) = .returned (.tuple #[.int .i64 (joinA M last ⟨xo, xu, xc, xm, xn⟩ id).1.1, .bool (joinA M last ⟨xo, xu, xc, xm, xn⟩ id).1.2.1, .int .i64 (joinA M last ⟨xo, xu, xc, xm, xn⟩ id).1.2.2]) ∧ Chg (fun w' S' => SH w' b S' (joinA M last ⟨xo, xu, xc, xm, xn⟩ id).2.1 (joinA M last ⟨xo, xu, xc, xm, xn⟩ id).2.2) S w w') := fun c w' hj he => by
    rw [hj]
    exact ⟨rfl, S, HH.out.keep0 he, he.mono (by simp), fun x hx => .inl hx⟩
  have HRET := Lib.hid hret
  clear hB e0 hret
  unfold encW
  by_cases hid1 : id < 1
  · have d1 : decide (id < 1) = true := decide_eq_true hid1
    have hj : joinA M last ⟨xo, xu, xc, xm, xn⟩ id = ((0, false, 2), last, M) := by unfold joinA; rw [if_pos hid1]
    have HJ := Lib.hid hj
    clear hj h hu hx h0 hl6 hid1
    go_enter Try.func25, Try.ntmps25
    go_wp2_with fail
    refine bodyPost_ret (v := .tuple #[.int .i64 0, .bool false, .int .i64 2]) (by simp [results, Try.results25, go_sem]) rfl ?_
    exact HRET.out 2 _ HJ.out E0.out
  have d1 : decide (id < 1) = false := decide_eq_false hid1
  have hwi : ∀ W, Ext [] w W → Calls Try.prog 59 #[.pointer (some ⟨b, 0, none⟩), .int .i64 id] W fun e w' => e = .returned (.int .i64 (idxI (holdsA id) M)) ∧ Ext [] W w' := fun W hW => by
    obtain ⟨v5, L5, h5, hS5, hM5⟩ := h.keep0 hW
    rw [← hM5] at hx hu ⊢
    rw [absH_len] at hx
    rw [← idx_abs (p := holds id) (fun s => rfl) L5]
    exact shWith_any b v5 last L5 id (by omega) hu.L W h5
  rcases idx_any (holdsA id) M with ⟨hi, han⟩ | ⟨i, hi, han⟩
  rotate_left
  · rw [hi] at hwi
    have hj : joinA M last ⟨xo, xu, xc, xm, xn⟩ id = ((0, false, 16), last, M) := by unfold joinA; rw [if_neg hid1, if_pos han]
    have HJ := Lib.hid hj; have HWI := Lib.hid hwi
    clear hj h hu hx h0 hl6 hid1 hi han hwi
    go_enter Try.func25, Try.ntmps25
    go_wp2_with fail
    refine (HWI.out _ E0.out).mono ?_
    rintro e w1 ⟨rfl, e1⟩
    go_wp2_with fail
    refine bodyPost_ret (v := .tuple #[.int .i64 0, .bool false, .int .i64 16]) (by simp [results, Try.results25, go_sem]) rfl ?_
    exact HRET.out 16 _ HJ.out (E0.out.trans e1 (by simp))
  rw [hi] at hwi
  have hco := fun W (hW : Ext [] w W) => sh_count b S last M hx hu W (h.keep0 hW)
  obtain ⟨cn, hcn⟩ : ∃ cn, cn = cntA M := ⟨_, rfl⟩
  rw [← hcn] at hco
  by_cases hfull : 64 ≤ cn
  · have d2 : decide (64 ≤ (cn : Int)) = true := decide_eq_true (by omega)
    have hj : joinA M last ⟨xo, xu, xc, xm, xn⟩ id = ((0, false, 10), last, M) := by unfold joinA; rw [if_neg hid1, if_neg (by rw [han]; decide), if_pos (by rw [← hcn]; exact hfull)]
    have HJ := Lib.hid hj; have HWI := Lib.hid hwi; have HCO := Lib.hid hco
    clear hj h hu hx h0 hl6 hid1 hi han hwi hco hcn
    go_enter Try.func25, Try.ntmps25
    go_wp2_with fail
    refine (HWI.out _ E0.out).mono ?_
    rintro e w1 ⟨rfl, e1⟩
    have x1 := E0.out.trans e1 (by simp)
    go_wp2_with fail
    refine (HCO.out _ x1).mono ?_
    rintro e w2 ⟨rfl, e2⟩
    go_wp2_with fail
    refine bodyPost_ret (v := .tuple #[.int .i64 0, .bool false, .int .i64 10]) (by simp [results, Try.results25, go_sem]) rfl ?_
    exact HRET.out 10 _ HJ.out (x1.trans e2 (by simp))
  have d2 : decide (64 ≤ (cn : Int)) = false := decide_eq_false (by omega)
  obtain ⟨v, L, h, hS, rfl⟩ := h
  have hjg : joinA (absH L) last ⟨xo, xu, xc, xm, xn⟩ id = match (absH L).findIdx? (wantIsA ⟨xo, xu, xc, xm, xn⟩) with
      | some i => match (absH L)[i]? with
        | some s => ((s.num, false, 0), last, (absH L).set i ⟨s.num, s.want, s.ids ++ [id]⟩)
        | none => ((0, false, 0), last, absH L)
      | none => ((last + 1, true, 0), last + 1, absH L ++ [⟨last + 1, ⟨xo, xu, xc, xm, xn⟩, [id]⟩]) := by
    unfold joinA; rw [if_neg hid1, if_neg (by rw [han]; decide), if_neg (by rw [← hcn]; exact hfull)]
  rw [absH_len] at hx
  obtain ⟨va, cap, rfl⟩ := h.ob.row.val
  have eg := enters_of Try.func62 (by kernel_rfl) rfl
  have hXlt : ∀ y ∈ (b :: (Value.slice va L.length cap).ownBlock.toList) ++ mOwn L, y ≠ w.heap.size := fun y hy => by have := h.lt y hy; omega
  have hif := fun W (hW : Ext [] w W) (hb : Blk W w.heap.size #[.string xo, .string xu, .bool xc, .string xm, .string xn] 44) => sh_indexFunc encSh encSh_ok.len (wantIs ⟨xo, xu, xc, xm, xn⟩) _ #[.pointer (some ⟨w.heap.size, 0, none⟩)] eg _ L (by omega) W ((h.ob.row).keep hW (by simp)) (isWant w.heap.size ⟨xo, xu, xc, xm, xn⟩ W hb)
  have HIF := Lib.hid hif; have HWI := Lib.hid hwi; have HCO := Lib.hid hco; have HJG := Lib.hid hjg; have HT := Lib.hid h; have HS := Lib.hid hS; have HU := Lib.hid hu; have HXLT := Lib.hid hXlt
  have hbl := h.ob.blk.lt
  clear hif hwi hco hjg h hS hu hid1 hi han hcn hfull eg HRET HH hXlt
  obtain ⟨n, hn⟩ : ∃ n, n = L.length := ⟨_, rfl⟩
  rw [← hn] at HT HIF HS HXLT hx
  go_enter Try.func25, Try.ntmps25
  go_wp2_with fail
  refine (HWI.out _ E0.out).mono ?_
  rintro e w1 ⟨rfl, e1⟩
  have x1 := E0.out.trans e1 (by simp)
  go_wp2_with fail
  refine (HCO.out _ x1).mono ?_
  rintro e w2 ⟨rfl, e2⟩
  have x2 := x1.trans e2 (by simp)
  have hT2 := HT.out.keep0 x2
  have hB2 := (HB.out.keep e1 (by simp)).keep e2 (by simp)
  have hcv2 : w2.cell? ⟨b, 0, none⟩ = some (.slice va n cap) := hT2.ob.blk.cell 0
  have hif2 := HIF.out w2 x2 hB2
  obtain ⟨X, hXe⟩ : ∃ X, w.heap.size = X := ⟨_, rfl⟩
  rw [hXe] at hB2 hif2
  have hXge : w.heap.size ≤ X := by omega
  have HN := Lib.hid hn
  rw [hXe] at HXLT
  have HT2 := Lib.hid hT2; have HB2 := Lib.hid hB2; have X2 := Lib.hid x2
  clear hT2 hB2 x1 x2 e1 e2 HIF HWI HCO HB E0 hn
  rcases idxI_spec (wantIs ⟨xo, xu, xc, xm, xn⟩) L with ⟨h1, h2⟩ | ⟨i, s, h1, h2, h3, h4⟩
  · rw [h1] at hif2
    have hf : (absH L).findIdx? (wantIsA ⟨xo, xu, xc, xm, xn⟩) = none := by
      rw [List.findIdx?_eq_none_iff]
      intro y hy
      obtain ⟨z, hz, rfl⟩ := List.mem_map.1 hy
      exact h2 z hz
    have hj := HJG.out
    rw [hf] at hj
    have HJ := Lib.hid hj; have HIF2 := Lib.hid hif2
    clear h1 h2 hf hj hif2 HJG
    go_wp2_with fail
    clear hXe
    refine HIF2.out.mono ?_
    rintro e w3 ⟨rfl, e3⟩
    have hT3 := HT2.out.keep0 e3
    have x3 := X2.out.trans e3 (by simp)
    have hB3 := HB2.out.keep e3 (by simp)
    have hcv3 : w3.cell? ⟨b, 0, none⟩ = some (.slice va n cap) := hT3.ob.blk.cell 0
    have hc1 : w3.cell? ⟨b, 1, none⟩ = some (.int .i64 last) := hT3.ob.blk.cell 1
    have hf1 := hT3.ob.blk.free 1
    have hadd := add_any b last h0 hl6 w3 hc1 hf1
    have hbX : b ≠ X := HXLT.out b (by simp)
    obtain ⟨hT4, e4⟩ := hT3.bump (last + 1)
    have hB4 := hB3.keep e4 (by simp; exact fun e => hbX e.symm)
    have x4 : Ext (b :: (Value.slice va n cap).ownBlock.toList) w (w3.setCell ⟨b, 1, none⟩ (.int .i64 (last + 1))) := (x3.mono (by simp)).trans e4 (by simp)
    have HT4 := Lib.hid hT4; have HB4 := Lib.hid hB4; have X4 := Lib.hid x4; have HADD := Lib.hid hadd
    clear hT3 hB3 x3 e3 hadd hT4 hB4 x4 e4 hcv3 hc1 hf1
    go_wp2_with fail
    refine HADD.out.mono ?_
    rintro e w4 ⟨rfl, hw4⟩
    have hT := HT4.out; have hBq := HB4.out; have hE := X4.out
    rw [← hw4] at hT hBq hE
    clear hw4 HT4 HB4 X4 HADD
    generalize w4 = wq at hT hBq hE ⊢
    have hcv : wq.drew.cell? ⟨b, 0, none⟩ = some (.slice va n cap) := hT.ob.blk.cell 0
    have k0 : wq.drew.cell? ⟨X, 0, none⟩ = some (.string xo) := hBq.cell 0
    have k1 : wq.drew.cell? ⟨X, 1, none⟩ = some (.string xu) := hBq.cell 1
    have k2 : wq.drew.cell? ⟨X, 2, none⟩ = some (.bool xc) := hBq.cell 2
    have k3 : wq.drew.cell? ⟨X, 3, none⟩ = some (.string xm) := hBq.cell 3
    have k4 : wq.drew.cell? ⟨X, 4, none⟩ = some (.string xn) := hBq.cell 4
    have kk : ∀ W, Ext (Value.slice va n cap).ownBlock.toList wq W → W.cell? ⟨b, 0, none⟩ = some (.slice va n cap) ∧ W.frozen? ⟨b, 0, none⟩ = false ∧ W.cell? ⟨X, 0, none⟩ = some (.string xo) ∧ W.cell? ⟨X, 1, none⟩ = some (.string xu) ∧ W.cell? ⟨X, 2, none⟩ = some (.bool xc) ∧ W.cell? ⟨X, 3, none⟩ = some (.string xm) ∧ W.cell? ⟨X, 4, none⟩ = some (.string xn) := fun W hW => by
      have hb9 := hT.ob.blk.keep hW (by intro hm; exact hT.ob.ne (by simpa using hm))
      have hx9 := hBq.keep hW (fun hm => HXLT.out X (List.mem_append_left _ (List.mem_cons_of_mem _ hm)) rfl)
      exact ⟨hb9.cell 0, hb9.free 0, hx9.cell 0, hx9.cell 1, hx9.cell 2, hx9.cell 3, hx9.cell 4⟩
    obtain ⟨nw, hnw⟩ : ∃ nw : Sh, nw = ⟨last + 1, ⟨xo, xu, xc, xm, xn⟩, some ⟨wq.heap.size, 0, none⟩, 1, [id]⟩ := ⟨_, rfl⟩
    have eA : Ext [] wq (wq.drew.alloc (.cells #[.int .i64 id] 3 (0, 0))) := ((Ext.refl _ _).drew).alloc _
    have eB : Ext [] wq ((wq.drew.alloc (.cells #[.int .i64 id] 3 (0, 0))).alloc (.cells (encSh nw).toArray 105 (0, 0))) := eA.alloc _
    have hrw := (hT.ob.row).keep eB (by simp)
    have hsl := Sl.new (enc := encSh) (wq.drew.alloc (.cells #[.int .i64 id] 3 (0, 0))) nw 105
    have hsz : (wq.drew.alloc (.cells #[.int .i64 id] 3 (0, 0))).heap.size = wq.heap.size + 1 := by rw [World.size_alloc]; rfl
    rw [hsz] at hsl
    have hri := (RI.new1 wq.drew id).alloc (.cells (encSh nw).toArray 105 (0, 0))
    have h63 : n + 1 ≤ 1000000 := by omega
    have hlen : LenIs L [nw] (n + 1) := by unfold LenIs; rw [← HN.out]; rfl
    have hgeq := hE.size
    have hownlt : ∀ y, (Value.slice va n cap).ownBlock = some y → y < wq.heap.size := fun y hy => hT.ob.row.lt y hy
    have HKK := Lib.hid kk; have HRW := Lib.hid hrw; have HSL := Lib.hid hsl; have HT9 := Lib.hid hT; have HE9 := Lib.hid hE; have HRI := Lib.hid hri; have HNW := Lib.hid hnw; have EA := Lib.hid eA; have EB := Lib.hid eB
    have HOWL := Lib.hid hownlt
    have hencnw : encSh nw = [.int .i64 (last + 1), .string xo, .string xu, .bool xc, .string xm, .string xn, .slice (some ⟨wq.heap.size, 0, none⟩) 1 1] := by rw [hnw]; rfl
    rw [hencnw] at HRW HSL EB HRI
    have hltb := hT.ob.blk.lt
    have hltX := hBq.lt
    clear kk hrw hsl hT hE hBq hri hnw eA eB hsz hownlt hencnw
    go_wp2_with fail
    refine start_ (n := 15) (S := fun w' => w'.cell? ⟨b, 0, none⟩ = some (.slice va n cap) ∧ w'.cell? ⟨X, 0, none⟩ = some (.string xo) ∧ w'.cell? ⟨X, 1, none⟩ = some (.string xu) ∧ w'.cell? ⟨X, 2, none⟩ = some (.bool xc) ∧ w'.cell? ⟨X, 3, none⟩ = some (.string xm) ∧ w'.cell? ⟨X, 4, none⟩ = some (.string xn)) (ds := [14]) #[false, false, false, false, false, false, false, false, false, false, false, false, false, false, false] (by kernel_rfl) rfl rfl ⟨hcv, k0, k1, k2, k3, k4⟩ (fun hHeld => ?_)
    refine pure_ (i := 0) (N := some 64) (v := ?_) (a' := ?_) #[true, false, false, false, false, false, false, false, false, false, false, false, false, false, false] rfl rfl (by kernel_rfl) (fun _ _ _ h => h) (Or.inl ⟨by rfl, ?_⟩) ?_ ?_
    rotate_left
    · intro w'
      go_simp
      with_reducible rfl
    rotate_left
    · simp only [Act.put, List.setIfInBounds_toArray, List.set_cons_zero, List.set_cons_succ, i64_w, i32_w]
      rfl
    refine pure_ (i := 1) (N := some 65) (v := ?_) (a' := ?_) #[true, true, false, false, false, false, false, false, false, false, false, false, false, false, false] rfl rfl (by kernel_rfl) (fun _ _ _ h => h) (Or.inl ⟨by rfl, ?_⟩) ?_ ?_
    rotate_left
    · intro w'
      go_simp
      with_reducible rfl
    rotate_left
    · simp only [Act.put, List.setIfInBounds_toArray, List.set_cons_zero, List.set_cons_succ, i64_w, i32_w]
      rfl
    refine pure_ (i := 2) (N := some 66) (v := ?_) (a' := ?_) #[true, true, true, false, false, false, false, false, false, false, false, false, false, false, false] rfl rfl (by kernel_rfl) (fun _ _ _ h => h) (Or.inl ⟨by rfl, ?_⟩) ?_ ?_
    rotate_left
    · intro w'
      go_simp
      with_reducible rfl
    rotate_left
    · simp only [Act.put, List.setIfInBounds_toArray, List.set_cons_zero, List.set_cons_succ, i64_w, i32_w]
      rfl
    refine pure_ (i := 3) (N := some 67) (v := ?_) (a' := ?_) #[true, true, true, true, false, false, false, false, false, false, false, false, false, false, false] rfl rfl (by kernel_rfl) (fun _ _ _ h => h) (Or.inl ⟨by rfl, ?_⟩) ?_ ?_
    rotate_left
    · intro w'
      go_simp
      with_reducible rfl
    rotate_left
    · simp only [Act.put, List.setIfInBounds_toArray, List.set_cons_zero, List.set_cons_succ, i64_w, i32_w]
      rfl
    refine pure_ (i := 5) (N := some 69) (v := ?_) (a' := ?_) #[true, true, true, true, false, true, false, false, false, false, false, false, false, false, false] rfl rfl (by kernel_rfl) (fun _ _ _ h => h) (Or.inl ⟨by rfl, ?_⟩) ?_ ?_
    rotate_left
    · intro w'
      go_simp
      with_reducible rfl
    rotate_left
    · simp only [Act.put, List.setIfInBounds_toArray, List.set_cons_zero, List.set_cons_succ, i64_w, i32_w]
      rfl
    refine pure_ (i := 7) (N := some 71) (v := ?_) (a' := ?_) #[true, true, true, true, false, true, false, true, false, false, false, false, false, false, false] rfl rfl (by kernel_rfl) (fun _ _ _ h => h) (Or.inl ⟨by rfl, ?_⟩) ?_ ?_
    rotate_left
    · intro w'
      go_simp
      with_reducible rfl
    rotate_left
    · simp only [Act.put, List.setIfInBounds_toArray, List.set_cons_zero, List.set_cons_succ, i64_w, i32_w]
      rfl
    refine take_ (i := 4) (N := some 68) (v := ?_) (a' := ?_) #[true, true, true, true, true, true, false, true, false, false, false, false, false, false, false] rfl rfl (by kernel_rfl) (fun _ _ _ h => h) (Or.inl ⟨by rfl, ?_⟩) hHeld ?_ ?_
    rotate_left
    · rintro w' ⟨s0, s1, s2, s3, s4, s5⟩
      go_simp
      with_reducible rfl
    rotate_left
    · simp only [Act.put, List.setIfInBounds_toArray, List.set_cons_zero, List.set_cons_succ, i64_w, i32_w]
      rfl
    refine take_ (i := 6) (N := some 70) (v := ?_) (a' := ?_) #[true, true, true, true, true, true, true, true, false, false, false, false, false, false, false] rfl rfl (by kernel_rfl) (fun _ _ _ h => h) (Or.inl ⟨by rfl, ?_⟩) hHeld ?_ ?_
    rotate_left
    · rintro w' ⟨s0, s1, s2, s3, s4, s5⟩
      go_simp
      with_reducible rfl
    rotate_left
    · simp only [Act.put, List.setIfInBounds_toArray, List.set_cons_zero, List.set_cons_succ, i64_w, i32_w]
      rfl
    refine one_ (i := 8) (N := some 72) #[true, true, true, true, true, true, true, true, true, false, false, false, false, false, false] rfl rfl (by kernel_rfl) (by decide) (fun K hK => ?_)
    refine value_ (w1 := ?_) (v := ?_) (by rfl) rfl ?_ ?_
    rotate_left 2
    · go_simp
      constructor
      · rfl
      · rfl
    refine hK.out _ _ ⟨(HKK.out _ (EA.out.mono (by simp))).1, (HKK.out _ (EA.out.mono (by simp))).2.2.1, (HKK.out _ (EA.out.mono (by simp))).2.2.2.1, (HKK.out _ (EA.out.mono (by simp))).2.2.2.2.1, (HKK.out _ (EA.out.mono (by simp))).2.2.2.2.2.1, (HKK.out _ (EA.out.mono (by simp))).2.2.2.2.2.2⟩ (fun hHeld => ?_)
    clear hK K
    refine norm_ (a' := ?_) ?_ ?_
    rotate_left
    · show Act.put _ (some 72) _ = _
      simp only [Act.put, List.setIfInBounds_toArray, List.set_cons_zero, List.set_cons_succ, i64_w, i32_w]
      rfl
    refine pure_ (i := 9) (N := some 73) (v := ?_) (a' := ?_) #[true, true, true, true, true, true, true, true, true, true, false, false, false, false, false] rfl rfl (by kernel_rfl) (fun _ _ _ h => h) (Or.inl ⟨by rfl, ?_⟩) ?_ ?_
    rotate_left
    · intro w'
      go_simp
      with_reducible rfl
    rotate_left
    · simp only [Act.put, List.setIfInBounds_toArray, List.set_cons_zero, List.set_cons_succ, i64_w, i32_w]
      rfl
    refine one_ (i := 10) (N := some 74) #[true, true, true, true, true, true, true, true, true, true, true, false, false, false, false] rfl rfl (by kernel_rfl) (by decide) (fun K hK => ?_)
    refine value_ (w1 := ?_) (v := ?_) (by rfl) rfl ?_ ?_
    rotate_left 2
    · go_simp
      constructor
      · rfl
      · rfl
    refine hK.out _ _ ⟨(HKK.out _ (EB.out.mono (by simp))).1, (HKK.out _ (EB.out.mono (by simp))).2.2.1, (HKK.out _ (EB.out.mono (by simp))).2.2.2.1, (HKK.out _ (EB.out.mono (by simp))).2.2.2.2.1, (HKK.out _ (EB.out.mono (by simp))).2.2.2.2.2.1, (HKK.out _ (EB.out.mono (by simp))).2.2.2.2.2.2⟩ (fun hHeld => ?_)
    clear hK K
    refine norm_ (a' := ?_) ?_ ?_
    rotate_left
    · show Act.put _ (some 74) _ = _
      simp only [Act.put, List.setIfInBounds_toArray, List.set_cons_zero, List.set_cons_succ, i64_w, i32_w]
      rfl
    refine one_ (i := 11) (N := some 75) #[true, true, true, true, true, true, true, true, true, true, true, true, false, false, false] rfl rfl (by kernel_rfl) (by decide) (fun K hK => ?_)
    refine step_appN tySh encSh_ok (by rfl) _ _ (by rfl) HRW.out (by rfl) HSL.out (by rfl) hlen h63 ?_
    intro a4 c4 w7 hr7 hS7 hg7
    have e7 : Ext (Value.slice va n cap).ownBlock.toList wq w7 := (EB.out.mono (by simp)).trans (hS7 (Value.slice va n cap).ownBlock.toList (by simp +contextual)) (fun y hy => .inl hy)
    have hfz := (HKK.out _ e7).2.1
    refine hK.out _ _ ⟨(HKK.out _ e7).1, (HKK.out _ e7).2.2.1, (HKK.out _ e7).2.2.2.1, (HKK.out _ e7).2.2.2.2.1, (HKK.out _ e7).2.2.2.2.2.1, (HKK.out _ e7).2.2.2.2.2.2⟩ (fun hHeld => ?_)
    clear hK K
    refine norm_ (a' := ?_) ?_ ?_
    rotate_left
    · show Act.put _ (some 75) _ = _
      simp only [Act.put, List.setIfInBounds_toArray, List.set_cons_zero, List.set_cons_succ, i64_w, i32_w]
      rfl
    refine pure_ (i := 12) (N := some 76) (v := ?_) (a' := ?_) #[true, true, true, true, true, true, true, true, true, true, true, true, true, false, false] rfl rfl (by kernel_rfl) (fun _ _ _ h => h) (Or.inl ⟨by rfl, ?_⟩) ?_ ?_
    rotate_left
    · intro w'
      go_simp
      with_reducible rfl
    rotate_left
    · simp only [Act.put, List.setIfInBounds_toArray, List.set_cons_zero, List.set_cons_succ, i64_w, i32_w]
      rfl
    refine pure_ (i := 13) (N := some 77) (v := ?_) (a' := ?_) #[true, true, true, true, true, true, true, true, true, true, true, true, true, true, false] rfl rfl (by kernel_rfl) (fun _ _ _ h => h) (Or.inl ⟨by rfl, ?_⟩) ?_ ?_
    rotate_left
    · intro w'
      go_simp
      with_reducible rfl
    rotate_left
    · simp only [Act.put, List.setIfInBounds_toArray, List.set_cons_zero, List.set_cons_succ, i64_w, i32_w]
      rfl
    refine last_ (i := 14) (N := none) #[true, true, true, true, true, true, true, true, true, true, true, true, true, true, true] rfl rfl (by kernel_rfl) (by decide) (fun K hK => ?_)
    refine skip_ (w1 := ?_) (by rfl) rfl ?_ ?_
    rotate_left
    · go_simp
      rfl
    refine hK.out _ _ ?_
    clear hK K
    refine done_ (by kernel_rfl) ?_
    have hszB := EB.out.size
    have hfin := HT9.out.ob.appended EB.out hr7 hS7 (fun y hy => (hg7 y hy).imp_right (fun h => Nat.le_trans hszB h)) 0 (by simp)
    have hri7 := HRI.out.keep (hS7 (Value.slice va n cap).ownBlock.toList (by simp +contextual)) (fun y hy hm => by
      have h8 : wq.heap.size = y := by simpa [Value.ownBlock] using hy
      have h9 := HOWL.out y (by simpa using hm)
      omega)
    have HF := Lib.hid hfin; have HRI7 := Lib.hid hri7
    clear hr7 hS7 hg7 e7 hfz hfin hri7
    go_wp2_with fail
    refine bodyPost_ret (v := .tuple #[.int .i64 (last + 1), .bool true, .int .i64 0]) (by simp [results, Try.results25, go_sem]) rfl ?_
    rw [HJ.out]
    have hnwrow : nw.row = .slice (some ⟨wq.heap.size, 0, none⟩) 1 1 := by rw [HNW.out]; rfl
    have hmo : mOwn (L ++ [nw]) = mOwn L ++ [wq.heap.size] := by rw [mOwn_append, mOwn_cons, hnwrow]; rfl
    have hTlt := HT9.out.lt
    refine ⟨rfl, (b :: (Value.slice a4 (n + 1) c4).ownBlock.toList) ++ mOwn (L ++ [nw]), ⟨_, L ++ [nw], ⟨HF.out.1, ?_, ?_⟩, rfl, ?_⟩, HE9.out.trans HF.out.2.1 (fun y hy => .inl hy) |>.mono (fun y hy => .inl (by rw [HS.out]; exact List.mem_append_left _ hy)), ?_⟩
    · intro t ht
      rcases List.mem_append.1 ht with ht | ht
      · exact (HT9.out.inn t ht).keep HF.out.2.1 (fun y hy hm => HT9.out.apart y (mem_mOwn ht hy) hm)
      · have : t = nw := by simpa using ht
        subst this
        rw [hnwrow]
        have hids : t.ids = [id] := by rw [HNW.out]
        rw [hids]
        refine HRI7.out.keep ((Ext.refl [b] _).setCell (Or.inl (by simp)) _) (fun y hy hm => ?_)
        have h8 : wq.heap.size = y := by simpa [Value.ownBlock] using hy
        simp at hm
        omega
    · rw [hmo, List.nodup_append]
      refine ⟨HT9.out.dis, by simp, fun y hy z hz e => ?_⟩
      simp at hz
      have := hTlt y (List.mem_append_right _ hy)
      omega
    · unfold absH
      rw [List.map_append, List.map_singleton]
      rw [show nw.abs = (⟨last + 1, ⟨xo, xu, xc, xm, xn⟩, [id]⟩ : Sk) by rw [HNW.out]; rfl]
    · intro y hy
      rw [hmo] at hy
      rcases List.mem_append.1 hy with hy | hy
      · rcases HF.out.2.2 y hy with h8 | h8
        · exact .inl (by rw [HS.out]; exact List.mem_append_left _ h8)
        · exact .inr (by omega)
      · rcases List.mem_append.1 hy with hy | hy
        · exact .inl (by rw [HS.out]; exact List.mem_append_right _ hy)
        · simp at hy
          exact .inr (by omega)
  · rw [h4] at hif2
    have hf : (absH L).findIdx? (wantIsA ⟨xo, xu, xc, xm, xn⟩) = some i := by
      refine find_of (absH_at h1) h2 (fun j y hj hy => ?_)
      unfold absH at hy
      rw [List.getElem?_map] at hy
      obtain ⟨z, hz, rfl⟩ := Option.map_eq_some_iff.1 hy
      exact h3 j z hj hz
    have hj := HJG.out
    rw [hf] at hj
    simp only [absH_at h1] at hj
    have hil := (List.getElem?_eq_some_iff.1 h1).1
    have HJ := Lib.hid hj; have HIF2 := Lib.hid hif2; have H1 := Lib.hid h1
    have hin : i < n := by rw [HN.out]; exact hil
    clear h1 h2 h3 h4 hf hj hif2 HJG hil
    go_wp2_with fail
    clear hXe
    refine HIF2.out.mono ?_
    rintro e w3 ⟨rfl, e3⟩
    have hT3 := HT2.out.keep0 e3
    obtain ⟨g, rfl, hgl⟩ := hT3.ob.row.addr (by omega)
    have hsm := List.mem_of_getElem? H1.out
    have x3 := X2.out.trans e3 (by simp)
    obtain ⟨l, hl⟩ : ∃ l, l = s.ids.length := ⟨_, rfl⟩
    have hl5 : l < 100000 := by rw [hl]; exact HU.out.L s hsm
    have hcv3 : w3.cell? ⟨b, 0, none⟩ = some (.slice (some ⟨g, 0, none⟩) n cap) := hT3.ob.blk.cell 0
    have c6 := hT3.ob.row.cell encSh_ok.len H1.out 6 (by omega)
    simp only [encSh, Sh.row, List.getElem?_cons_zero, List.getElem?_cons_succ] at c6
    rw [← hl] at c6
    have b3 : (0 : Int) ≤ (i : Int) := by omega
    have b4 : (i : Int) < (n : Int) := by omega
    have hapg : ∀ y, s.row.ownBlock = some y → y ∉ b :: (Value.slice (some ⟨g, 0, none⟩) n cap).ownBlock.toList := fun y hy => hT3.apart y (mem_mOwn hsm hy)
    have kk : ∀ W, Ext s.row.ownBlock.toList w3 W → W.cell? ⟨b, 0, none⟩ = some (.slice (some ⟨g, 0, none⟩) n cap) ∧ W.cell? ⟨g, i * 7 + 6, none⟩ = some (.slice s.ma l s.mc) ∧ W.frozen? ⟨g, i * 7 + 6, none⟩ = false := fun W hW => by
      have ho := hT3.ob.keep hW (fun y hy hm => hapg y (by simpa using hm) hy)
      have h6 := ho.row.cell encSh_ok.len H1.out 6 (by omega)
      simp only [encSh, Sh.row, List.getElem?_cons_zero, List.getElem?_cons_succ] at h6
      rw [← hl] at h6
      exact ⟨ho.blk.cell 0, h6, ho.row.free _⟩
    have hri := hT3.inn s hsm
    unfold Sh.row at hri
    rw [← hl] at hri
    have h63 : l + 1 ≤ 1000000 := by omega
    have hlen : LenIs s.ids [id] (l + 1) := by unfold LenIs; rw [← hl]; rfl
    have hsl := Sl.new (enc := encI .i64) w3.drew id 3
    have hrw := (hri.drew).alloc (.cells (encI .i64 id).toArray 3 (0, 0))
    have hl2 : (s.ids ++ [id]).length = l + 1 := by rw [List.length_append, ← hl]; rfl
    have hown : (Value.slice s.ma l s.mc).ownBlock = s.row.ownBlock := by rw [hl]; rfl
    have HOWN := Lib.hid hown
    clear hown
    have KK := Lib.hid kk; have HRW := Lib.hid hrw; have HSL := Lib.hid hsl; have HT3 := Lib.hid hT3; have X3 := Lib.hid x3; have HL2 := Lib.hid hl2; have HL := Lib.hid hl
    have e48 : Ext s.row.ownBlock.toList w3 (w3.drew.alloc (.cells (encI .i64 id).toArray 3 (0, 0))) := ((Ext.refl _ _).drew).alloc _
    have E48 := Lib.hid e48
    clear kk hrw hsl hT3 x3 e3 hri hapg hsm hl2 hl e48
    go_wp2_with fail
    refine start_ (n := 19) (S := fun w' => w'.cell? ⟨b, 0, none⟩ = some (.slice (some ⟨g, 0, none⟩) n cap) ∧ w'.cell? ⟨g, i * 7 + 6, none⟩ = some (.slice s.ma l s.mc) ∧ (0 : Int) ≤ (i : Int) ∧ (i : Int) < (n : Int)) (ds := [18]) #[false, false, false, false, false, false, false, false, false, false, false, false, false, false, false, false, false, false, false] (by kernel_rfl) rfl rfl ⟨hcv3, c6, b3, b4⟩ (fun hHeld => ?_)
    refine pure_ (i := 0) (N := some 34) (v := ?_) (a' := ?_) #[true, false, false, false, false, false, false, false, false, false, false, false, false, false, false, false, false, false, false] rfl rfl (by kernel_rfl) (fun _ _ _ h => h) (Or.inl ⟨by rfl, ?_⟩) ?_ ?_
    rotate_left
    · intro w'
      go_simp
      with_reducible rfl
    rotate_left
    · simp only [Act.put, List.setIfInBounds_toArray, List.set_cons_zero, List.set_cons_succ, i64_w, i32_w]
      rfl
    refine pure_ (i := 1) (N := some 35) (v := ?_) (a' := ?_) #[true, true, false, false, false, false, false, false, false, false, false, false, false, false, false, false, false, false, false] rfl rfl (by kernel_rfl) (fun _ _ _ h => h) (Or.inl ⟨by rfl, ?_⟩) ?_ ?_
    rotate_left
    · intro w'
      go_simp
      with_reducible rfl
    rotate_left
    · simp only [Act.put, List.setIfInBounds_toArray, List.set_cons_zero, List.set_cons_succ, i64_w, i32_w]
      rfl
    refine pure_ (i := 2) (N := some 36) (v := ?_) (a' := ?_) #[true, true, true, false, false, false, false, false, false, false, false, false, false, false, false, false, false, false, false] rfl rfl (by kernel_rfl) (fun _ _ _ h => h) (Or.inl ⟨by rfl, ?_⟩) ?_ ?_
    rotate_left
    · intro w'
      go_simp
      with_reducible rfl
    rotate_left
    · simp only [Act.put, List.setIfInBounds_toArray, List.set_cons_zero, List.set_cons_succ, i64_w, i32_w]
      rfl
    refine pure_ (i := 4) (N := some 38) (v := ?_) (a' := ?_) #[true, true, true, false, true, false, false, false, false, false, false, false, false, false, false, false, false, false, false] rfl rfl (by kernel_rfl) (fun _ _ _ h => h) (Or.inl ⟨by rfl, ?_⟩) ?_ ?_
    rotate_left
    · intro w'
      go_simp
      with_reducible rfl
    rotate_left
    · simp only [Act.put, List.setIfInBounds_toArray, List.set_cons_zero, List.set_cons_succ, i64_w, i32_w]
      rfl
    refine pure_ (i := 5) (N := some 39) (v := ?_) (a' := ?_) #[true, true, true, false, true, true, false, false, false, false, false, false, false, false, false, false, false, false, false] rfl rfl (by kernel_rfl) (fun _ _ _ h => h) (Or.inl ⟨by rfl, ?_⟩) ?_ ?_
    rotate_left
    · intro w'
      go_simp
      with_reducible rfl
    rotate_left
    · simp only [Act.put, List.setIfInBounds_toArray, List.set_cons_zero, List.set_cons_succ, i64_w, i32_w]
      rfl
    refine pure_ (i := 6) (N := some 40) (v := ?_) (a' := ?_) #[true, true, true, false, true, true, true, false, false, false, false, false, false, false, false, false, false, false, false] rfl rfl (by kernel_rfl) (fun _ _ _ h => h) (Or.inl ⟨by rfl, ?_⟩) ?_ ?_
    rotate_left
    · intro w'
      go_simp
      with_reducible rfl
    rotate_left
    · simp only [Act.put, List.setIfInBounds_toArray, List.set_cons_zero, List.set_cons_succ, i64_w, i32_w]
      rfl
    refine pure_ (i := 7) (N := some 41) (v := ?_) (a' := ?_) #[true, true, true, false, true, true, true, true, false, false, false, false, false, false, false, false, false, false, false] rfl rfl (by kernel_rfl) (fun _ _ _ h => h) (Or.inl ⟨by rfl, ?_⟩) ?_ ?_
    rotate_left
    · intro w'
      go_simp
      with_reducible rfl
    rotate_left
    · simp only [Act.put, List.setIfInBounds_toArray, List.set_cons_zero, List.set_cons_succ, i64_w, i32_w]
      rfl
    refine pure_ (i := 9) (N := some 43) (v := ?_) (a' := ?_) #[true, true, true, false, true, true, true, true, false, true, false, false, false, false, false, false, false, false, false] rfl rfl (by kernel_rfl) (fun _ _ _ h => h) (Or.inl ⟨by rfl, ?_⟩) ?_ ?_
    rotate_left
    · intro w'
      go_simp
      with_reducible rfl
    rotate_left
    · simp only [Act.put, List.setIfInBounds_toArray, List.set_cons_zero, List.set_cons_succ, i64_w, i32_w]
      rfl
    refine pure_ (i := 13) (N := some 47) (v := ?_) (a' := ?_) #[true, true, true, false, true, true, true, true, false, true, false, false, false, true, false, false, false, false, false] rfl rfl (by kernel_rfl) (fun _ _ _ h => h) (Or.inl ⟨by rfl, ?_⟩) ?_ ?_
    rotate_left
    · intro w'
      go_simp
      with_reducible rfl
    rotate_left
    · simp only [Act.put, List.setIfInBounds_toArray, List.set_cons_zero, List.set_cons_succ, i64_w, i32_w]
      rfl
    refine take_ (i := 3) (N := some 37) (v := ?_) (a' := ?_) #[true, true, true, true, true, true, true, true, false, true, false, false, false, true, false, false, false, false, false] rfl rfl (by kernel_rfl) (fun _ _ _ h => h) (Or.inl ⟨by rfl, ?_⟩) hHeld ?_ ?_
    rotate_left
    · rintro w' ⟨s0, s1, s2, s3⟩
      go_simp
      with_reducible rfl
    rotate_left
    · simp only [Act.put, List.setIfInBounds_toArray, List.set_cons_zero, List.set_cons_succ, i64_w, i32_w]
      rfl
    refine take_ (i := 8) (N := some 42) (v := ?_) (a' := ?_) #[true, true, true, true, true, true, true, true, true, true, false, false, false, true, false, false, false, false, false] rfl rfl (by kernel_rfl) (fun _ _ _ h => h) (Or.inl ⟨by rfl, ?_⟩) hHeld ?_ ?_
    rotate_left
    · rintro w' ⟨s0, s1, s2, s3⟩
      go_simp
      with_reducible rfl
    rotate_left
    · simp only [Act.put, List.setIfInBounds_toArray, List.set_cons_zero, List.set_cons_succ, i64_w, i32_w]
      rfl
    refine pure_ (i := 10) (N := some 44) (v := ?_) (a' := ?_) #[true, true, true, true, true, true, true, true, true, true, true, false, false, true, false, false, false, false, false] rfl rfl (by kernel_rfl) (fun _ _ _ h => h) (Or.inl ⟨by rfl, ?_⟩) ?_ ?_
    rotate_left
    · intro w'
      go_simp
      with_reducible rfl
    rotate_left
    · simp only [Act.put, List.setIfInBounds_toArray, List.set_cons_zero, List.set_cons_succ, i64_w, i32_w]
      rfl
    refine pure_ (i := 11) (N := some 45) (v := ?_) (a' := ?_) #[true, true, true, true, true, true, true, true, true, true, true, true, false, true, false, false, false, false, false] rfl rfl (by kernel_rfl) (fun _ _ _ h => h) (Or.inl ⟨by rfl, ?_⟩) ?_ ?_
    rotate_left
    · intro w'
      go_simp
      with_reducible rfl
    rotate_left
    · simp only [Act.put, List.setIfInBounds_toArray, List.set_cons_zero, List.set_cons_succ, i64_w, i32_w]
      rfl
    refine take_ (i := 12) (N := some 46) (v := ?_) (a' := ?_) #[true, true, true, true, true, true, true, true, true, true, true, true, true, true, false, false, false, false, false] rfl rfl (by kernel_rfl) (fun _ _ _ h => h) (Or.inl ⟨by rfl, ?_⟩) hHeld ?_ ?_
    rotate_left
    · rintro w' ⟨s0, s1, s2, s3⟩
      go_simp
      with_reducible rfl
    rotate_left
    · simp only [Act.put, List.setIfInBounds_toArray, List.set_cons_zero, List.set_cons_succ, i64_w, i32_w]
      rfl
    refine one_ (i := 14) (N := some 48) #[true, true, true, true, true, true, true, true, true, true, true, true, true, true, true, false, false, false, false] rfl rfl (by kernel_rfl) (by decide) (fun K hK => ?_)
    refine value_ (w1 := ?_) (v := ?_) (by rfl) rfl ?_ ?_
    rotate_left 2
    · go_simp
      constructor
      · rfl
      · rfl
    refine hK.out _ _ ⟨(KK.out _ E48.out).1, (KK.out _ E48.out).2.1, b3, b4⟩ (fun hHeld => ?_)
    clear hK K
    refine norm_ (a' := ?_) ?_ ?_
    rotate_left
    · show Act.put _ (some 48) _ = _
      simp only [Act.put, List.setIfInBounds_toArray, List.set_cons_zero, List.set_cons_succ, i64_w, i32_w]
      rfl
    refine one_ (i := 15) (N := some 49) #[true, true, true, true, true, true, true, true, true, true, true, true, true, true, true, true, false, false, false] rfl rfl (by kernel_rfl) (by decide) (fun K hK => ?_)
    refine step_appN tyI encI_ok (by rfl) _ _ (by rfl) HRW.out (by rfl) HSL.out (by rfl) hlen h63 ?_
    intro a4 c4 w7 hr7 hS7 hg7
    have e7 : Ext s.row.ownBlock.toList w3 w7 := E48.out.trans (hS7 s.row.ownBlock.toList (by intro y hy; rw [HOWN.out] at hy; simp [hy])) (fun y hy => .inl hy)
    have hfz := (KK.out _ e7).2.2
    refine hK.out _ _ ⟨(KK.out _ e7).1, (KK.out _ e7).2.1, b3, b4⟩ (fun hHeld => ?_)
    clear hK K
    refine norm_ (a' := ?_) ?_ ?_
    rotate_left
    · show Act.put _ (some 49) _ = _
      simp only [Act.put, List.setIfInBounds_toArray, List.set_cons_zero, List.set_cons_succ, i64_w, i32_w]
      rfl
    refine pure_ (i := 16) (N := some 50) (v := ?_) (a' := ?_) #[true, true, true, true, true, true, true, true, true, true, true, true, true, true, true, true, true, false, false] rfl rfl (by kernel_rfl) (fun _ _ _ h => h) (Or.inl ⟨by rfl, ?_⟩) ?_ ?_
    rotate_left
    · intro w'
      go_simp
      with_reducible rfl
    rotate_left
    · simp only [Act.put, List.setIfInBounds_toArray, List.set_cons_zero, List.set_cons_succ, i64_w, i32_w]
      rfl
    refine pure_ (i := 17) (N := some 51) (v := ?_) (a' := ?_) #[true, true, true, true, true, true, true, true, true, true, true, true, true, true, true, true, true, true, false] rfl rfl (by kernel_rfl) (fun _ _ _ h => h) (Or.inl ⟨by rfl, ?_⟩) ?_ ?_
    rotate_left
    · intro w'
      go_simp
      with_reducible rfl
    rotate_left
    · simp only [Act.put, List.setIfInBounds_toArray, List.set_cons_zero, List.set_cons_succ, i64_w, i32_w]
      rfl
    refine last_ (i := 18) (N := none) #[true, true, true, true, true, true, true, true, true, true, true, true, true, true, true, true, true, true, true] rfl rfl (by kernel_rfl) (by decide) (fun K hK => ?_)
    refine skip_ (w1 := ?_) (by rfl) rfl ?_ ?_
    rotate_left
    · go_simp
      rfl
    refine hK.out _ _ ?_
    clear hK K
    refine done_ (by kernel_rfl) ?_
    have hset := HT3.out.set_row H1.out a4 c4 (s.ids ++ [id]) e7 (by rw [HL2.out]; exact hr7) (fun y hy => (hg7 y (by rw [HL2.out] at hy; exact hy)).imp (fun h => by rw [HOWN.out] at h; exact h) (fun h => by
      exact Nat.le_trans E48.out.size h))
    rw [HL2.out] at hset
    obtain ⟨hT8, hE8, hO8⟩ := hset
    have hL8 : (L.set i ⟨s.num, s.want, a4, c4, s.ids ++ [id]⟩)[i]? = some ⟨s.num, s.want, a4, c4, s.ids ++ [id]⟩ := by
      rw [List.getElem?_set, if_pos rfl, if_pos (List.getElem?_eq_some_iff.1 H1.out).1]
    generalize w7.setCell ⟨g, i * 7 + 6, none⟩ (.slice a4 (l + 1) c4) = w8 at hT8 hE8 ⊢
    have hcv8 : w8.cell? ⟨b, 0, none⟩ = some (.slice (some ⟨g, 0, none⟩) n cap) := hT8.ob.blk.cell 0
    have c08 := hT8.ob.row.cell encSh_ok.len hL8 0 (by omega)
    simp only [encSh, Nat.add_zero, List.getElem?_cons_zero] at c08
    have HT8 := Lib.hid hT8; have HE8 := Lib.hid hE8; have HO8 := Lib.hid hO8
    clear hr7 hS7 hg7 e7 hfz hT8 hE8 hO8 hL8
    go_wp2_with fail
    refine bodyPost_ret (v := .tuple #[.int .i64 s.num, .bool false, .int .i64 0]) (by simp [results, Try.results25, go_sem]) rfl ?_
    have hSS : ∀ y, y ∈ (b :: [g]) ++ mOwn L → y ∈ S := fun y hy => by rw [HS.out]; exact hy
    rw [HJ.out]
    refine ⟨rfl, _, ⟨_, _, HT8.out, rfl, by rw [absH_set]; rfl⟩, (X3.out.mono (by simp)).trans HE8.out (fun y hy => .inl (hSS y hy)), ?_⟩
    intro y hy
    rcases List.mem_append.1 hy with hy | hy
    · exact .inl (hSS y (List.mem_append_left _ hy))
    · exact (HO8.out y hy).imp (fun h => hSS y (List.mem_append_right _ h)) (fun h => Nat.le_trans X3.out.size h)
end Go.Proofs.Ytkbjpackijdnkaa
