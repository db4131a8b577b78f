/- The library's functions at the cache's row; entries compared. -/
import Derived.Test.YtkbjpackijdnkaaOb
namespace Go.Proofs.Ytkbjpackijdnkaa
open Go.RowKit
set_option linter.unusedVariables false
set_option linter.unusedSimpArgs false

/-- An entry. -/
structure Ent where
  org : ByteArray
  url : ByteArray
  creds : Bool
  meth : ByteArray
  head : ByteArray
  til : Int

def encE (e : Ent) : List Value := [.string e.org, .string e.url, .bool e.creds, .string e.meth, .string e.head, .int .u64 e.til]
theorem encE_ok : EncOk encE 6 := ⟨fun _ => rfl, fun o u hu => by simp [encE] at hu; rcases hu with rfl | rfl | rfl | rfl | rfl | rfl <;> rfl⟩
theorem tyE : ETy Try.prog 29 35 6 := ⟨by kernel_rfl, ⟨Try.t35, _, by kernel_rfl, by rfl, by rfl, by decide, by rfl⟩, by decide⟩

/-- Are two entries one but for their time? -/
def sameE (a b : Ent) : Bool := (decide (a.org = b.org) && decide (a.url = b.url) && (a.creds == b.creds)) && decide (a.meth = b.meth) && decide (a.head = b.head)

set_option maxHeartbeats 1600000 in
theorem same_any (a b : Ent) (w : World) :
    Calls Try.prog 52 #[.agg (encE a).toArray, .agg (encE b).toArray] w fun e w' => e = .returned (.bool (sameE a b)) ∧ Ext [] w w' := by
  have hs : sameE a b = ((a.org.toList == b.org.toList && a.url.toList == b.url.toList && (a.creds == b.creds)) && (a.meth.toList == b.meth.toList) && (a.head.toList == b.head.toList)) := by
    unfold sameE; simp only [bytes_beq]
  have HS := Lib.hid hs
  clear hs
  unfold encE
  go_enter Try.func52, Try.ntmps52
  go_wp2_with fail
  all_goals
    go_ret
    exact ⟨ret_bool (by rw [HS.out]; simp_all), ((Ext.refl _ _).alloc _).alloc _⟩

/-- Is it good still? Is it of this cell? -/
def lateE (now : Int) (e : Ent) : Bool := decide (e.til ≤ now)
structure Cel where
  org : ByteArray
  url : ByteArray
  creds : Bool
def encC (c : Cel) : List Value := [.string c.org, .string c.url, .bool c.creds]
def ofCell (c : Cel) (e : Ent) : Bool := decide (e.org = c.org) && decide (e.url = c.url) && (e.creds == c.creds)
def goodE (a : Ent) (now : Int) (e : Ent) : Bool := sameE e a && decide (now < e.til)

set_option maxHeartbeats 1600000 in
theorem isSame (B : Nat) (a : Ent) (w : World) (hb : Blk w B (encE a).toArray 35) : PredE Try.prog 51 #[.pointer (some ⟨B, 0, none⟩)] encE (fun x => sameE x a) w := by
  intro W x he
  have hb := hb.keep he (by simp)
  have hsm := same_any x a (W.alloc (.cells (encE x).toArray 35 (0, 0)))
  have hl : ∀ j v, (encE a)[j]? = some v → W.cell? ⟨B, j, none⟩ = some v := fun j v hv => by
    have := hb.cell j
    rw [this]; simpa using hv
  have h0 := hl 0 _ rfl; have h1 := hl 1 _ rfl; have h2 := hl 2 _ rfl; have h3 := hl 3 _ rfl; have h4 := hl 4 _ rfl; have h5 := hl 5 _ rfl
  have HSM := Lib.hid hsm
  have hlt := hb.lt
  clear hl hsm hb he
  unfold encE
  go_enter Try.func51, Try.ntmps51
  go_wp2_with fail
  refine HSM.out.mono ?_
  rintro e w1 ⟨rfl, e1⟩
  go_wp2_with fail
  go_ret
  exact ⟨rfl, ((Ext.refl _ _).alloc _).trans e1 (by simp)⟩

set_option maxHeartbeats 1600000 in
theorem isGood (B C : Nat) (a : Ent) (now : Int) (w : World) (hb : Blk w B (encE a).toArray 35) (hc : w.cell? ⟨C, 0, none⟩ = some (.int .u64 now)) : PredE Try.prog 76 #[.pointer (some ⟨B, 0, none⟩), .pointer (some ⟨C, 0, none⟩)] encE (goodE a now) w := by
  intro W x he
  have hb := hb.keep he (by simp)
  have hc := (he.cell (p := ⟨C, 0, none⟩) (lt_of_cell hc) (by simp)).trans hc
  have hsm := same_any x a (W.alloc (.cells (encE x).toArray 35 (0, 0)))
  have hl : ∀ j v, (encE a)[j]? = some v → W.cell? ⟨B, j, none⟩ = some v := fun j v hv => by
    have := hb.cell j
    rw [this]; simpa using hv
  have h0 := hl 0 _ rfl; have h1 := hl 1 _ rfl; have h2 := hl 2 _ rfl; have h3 := hl 3 _ rfl; have h4 := hl 4 _ rfl; have h5 := hl 5 _ rfl
  have hg : goodE a now x = (sameE x a && decide (now < x.til)) := rfl
  have HG := Lib.hid hg
  have hx5 : ∀ w1, Ext [] (W.alloc (.cells (encE x).toArray 35 (0, 0))) w1 → w1.cell? ⟨W.heap.size, 3 + 2, none⟩ = some (.int .u64 x.til) := fun w1 h => ((Blk.new W (encE x).toArray 35).keep h (by simp)).cell 5
  have hc5 : ∀ w1, Ext [] (W.alloc (.cells (encE x).toArray 35 (0, 0))) w1 → w1.cell? ⟨C, 0, none⟩ = some (.int .u64 now) := fun w1 h => (((Ext.refl [] W).alloc _).trans h (by simp)).cell (p := ⟨C, 0, none⟩) (lt_of_cell hc) (by simp) |>.trans hc
  have HX5 := Lib.hid hx5; have HC5 := Lib.hid hc5
  have hlt := hb.lt
  clear hl hb he hg hx5 hc5
  cases hq : sameE x a with
  | false =>
    rw [hq] at hsm HG
    have HSM := Lib.hid hsm
    clear hsm hq
    unfold encE
    go_enter Try.func76, Try.ntmps76
    go_wp2_with fail
    refine HSM.out.mono ?_
    rintro e w1 ⟨rfl, e1⟩
    go_wp2_with fail
    go_ret
    exact ⟨ret_bool HG.out, ((Ext.refl _ _).alloc _).trans e1 (by simp)⟩
  | true =>
    rw [hq] at hsm HG
    have HSM := Lib.hid hsm
    clear hsm hq
    unfold encE
    go_enter Try.func76, Try.ntmps76
    go_wp2_with fail
    refine HSM.out.mono ?_
    rintro e w1 ⟨rfl, e1⟩
    have hx6 := HX5.out w1 e1
    have hc6 := HC5.out w1 e1
    go_wp2_with fail
    go_ret
    exact ⟨ret_bool HG.out, ((Ext.refl _ _).alloc _).trans e1 (by simp)⟩

set_option maxHeartbeats 1600000 in
theorem isLate (C : Nat) (now : Int) (w : World) (hc : w.cell? ⟨C, 0, none⟩ = some (.int .u64 now)) : PredE Try.prog 68 #[.pointer (some ⟨C, 0, none⟩)] encE (lateE now) w := by
  intro W x he
  have hC : C < w.heap.size := lt_of_cell hc
  have hc' := (he.cell (p := ⟨C, 0, none⟩) hC (by simp)).trans hc
  have hCW := Nat.lt_of_lt_of_le hC he.size
  have hg : lateE now x = decide (x.til ≤ now) := rfl
  have HG := Lib.hid hg
  clear hc he hg
  unfold encE
  go_enter Try.func68, Try.ntmps68
  go_wp2_with fail
  go_ret
  exact ⟨ret_bool HG.out, (Ext.refl _ _).alloc _⟩

set_option maxHeartbeats 1600000 in
theorem isCell (B : Nat) (c : Cel) (w : World) (hb : Blk w B (encC c).toArray 33) : PredE Try.prog 56 #[.pointer (some ⟨B, 0, none⟩)] encE (ofCell c) w := by
  intro W x he
  have hb := hb.keep he (by simp)
  have hl : ∀ j v, (encC c)[j]? = some v → W.cell? ⟨B, j, none⟩ = some v := fun j v hv => by
    have := hb.cell j
    rw [this]; simpa using hv
  have h0 := hl 0 _ rfl; have h1 := hl 1 _ rfl; have h2 := hl 2 _ rfl
  have hlt := hb.lt
  have hg : ofCell c x = ((x.org.toList == c.org.toList) && (x.url.toList == c.url.toList) && (x.creds == c.creds)) := by unfold ofCell; simp only [bytes_beq]
  have HG := Lib.hid hg
  clear hl hb he hg
  unfold encE
  go_enter Try.func56, Try.ntmps56
  go_wp2_with fail
  all_goals
    go_ret
    exact ⟨ret_bool (by rw [HG.out]; simp_all), (Ext.refl _ _).alloc _⟩

set_option maxHeartbeats 3200000
/-- slices.IndexFunc at this row. -/
theorem ent_indexFunc0 (K : Nat) (zE : ∀ w, (Go.sizeOf 35).run Try.prog w = .ok K w) {α : Type} (enc : α → List Value) (hk : ∀ x, (enc x).length = K) (p : α → Bool) (g : Nat) (lb : Array Value) (eg : ∀ args w, (callFunc g args).run Try.prog w = .ok (.enter g args) w)
    (v : Value) (xs : List α) (hx : xs.length < 1000000) (w : World) (h : Rw enc K 35 w v xs) (hp : PredE Try.prog g lb enc p w) :
    Calls Try.prog 50 #[v, .func (.func g) #[] lb] w fun e w' => e = .returned (.int .i64 (idxI p xs)) ∧ Ext [] w w' := by
  obtain ⟨a, cap, rfl⟩ := h.val
  obtain ⟨n, hn⟩ : ∃ n, n = xs.length := ⟨_, rfl⟩
  rw [← hn] at h ⊢
  have HX := Lib.hid hx
  have HN := Lib.hid hn
  have hn1 : n < 1000000 := by omega
  clear hn hx
  have aE : ∀ w, (isAgg 35).run Try.prog w = .ok true w := Try.isAgg35
  go_enter Try.func50, Try.ntmps50
  go_wp2_with fail
  go_loopw [5, 8] (fun _ iv wr => ∃ (k : Nat), k ≤ n ∧ iv = .int .i64 k ∧ Hid (∀ (j : Nat) x, j < k → xs[j]? = some x → p x = false) ∧ Ext [] w wr) (fun _ iv _ => n - (intOf iv).toNat)
  case atStart => exact ⟨0, Nat.zero_le _, rfl, fun j x hj => absurd hj (Nat.not_lt_zero _), Ext.refl _ _⟩
  case round =>
    obtain ⟨k, hkn, rfl, hall, her⟩ := hrel
    by_cases hlt : k < n
    · obtain ⟨x, hxk⟩ : ∃ x, xs[k]? = some x := ⟨_, List.getElem?_eq_getElem (by rw [← HN.out]; exact hlt)⟩
      have d1 : decide (k < n) = true := decide_eq_true hlt
      have hr := h.keep her (by simp)
      obtain ⟨gb, rfl, hgl⟩ := hr.addr (by omega)
      have l2 := hr.loads (P := Try.prog) hk hxk
      have hcall := hp wr x her
      have b1 : (0 : Int) ≤ (k : Int) := by omega
      have b2 : (k : Int) < (n : Int) := by omega
      clear hr hp h
      have HXK := Lib.hid hxk
      clear hxk
      cases hq : p x with
      | true =>
        rw [hq] at hcall
        go_wp2_with (go_at_fn g; refine hcall.mono ?_; rintro e w' ⟨rfl, hb'⟩)
        go_ret
        refine ⟨ret_int ?_, her.trans hb' (by simp)⟩
        exact idxI_some HXK.out hq (fun j y hj hy => hall.out j y hj hy)
      | false =>
        rw [hq] at hcall
        go_wp2_with (go_at_fn g; refine hcall.mono ?_; rintro e w' ⟨rfl, hb'⟩)
        refine ⟨⟨k + 1, by omega, rfl, ?_, her.trans hb' (by simp)⟩, by simp [intOf]; omega⟩
        intro j y hj hy
        rcases Nat.lt_or_ge j k with h1 | h1
        · exact hall.out j y h1 hy
        · have : j = k := by omega
          rw [this, HXK.out] at hy
          injection hy with hy
          rw [← hy]; exact hq
    · have d1 : decide (k < n) = false := decide_eq_false hlt
      go_wp2_with fail
      go_ret
      refine ⟨ret_int ?_, her⟩
      exact idxI_none (fun j y hy => hall.out j y (by have := (List.getElem?_eq_some_iff.1 hy).1; have := HN.out; omega) hy)

theorem ent_indexFunc {α : Type} (enc : α → List Value) (hk : ∀ x, (enc x).length = 6) (p : α → Bool) (g : Nat) (lb : Array Value) (eg : ∀ args w, (callFunc g args).run Try.prog w = .ok (.enter g args) w)
    (v : Value) (xs : List α) (hx : xs.length < 1000000) (w : World) (h : Rw enc 6 35 w v xs) (hp : PredE Try.prog g lb enc p w) :
    Calls Try.prog 50 #[v, .func (.func g) #[] lb] w fun e w' => e = .returned (.int .i64 (idxI p xs)) ∧ Ext [] w w' :=
  ent_indexFunc0 6 Try.sizeOf35 enc hk p g lb eg v xs hx w h hp

/-- slices.Delete of one element of this row. -/
theorem ent_delete {α : Type} (enc : α → List Value) (N : EncOk enc 6) (g n cap i : Nat) (xs : List α) (hi : i < n) (hn : n < 1000000) (w : World) (h : Rw enc 6 35 w (.slice (some ⟨g, 0, none⟩) n cap) xs) :
    Calls Try.prog 54 #[.slice (some ⟨g, 0, none⟩) n cap, .int .i64 i, .int .i64 ((i : Int) + 1)] w fun e w' => e = .returned (.slice (some ⟨g, 0, none⟩) (n - 1) cap) ∧ Rw enc 6 35 w' (.slice (some ⟨g, 0, none⟩) (n - 1) cap) (xs.eraseIdx i) ∧ Ext [g] w w' := by
  have hlen : n = xs.length := by
    obtain ⟨a, c, hv⟩ := h.val
    injection hv
  obtain ⟨hnc, hcm⟩ : n ≤ cap ∧ cap ≤ maxLen := by
    rcases h.2 with ⟨hv, _⟩ | ⟨g', cap', cur, hv, _, _, h1, h2, _⟩
    · cases hv
    · injection hv with _ _ hv3
      subst hv3
      rw [← hlen] at h1
      exact ⟨h1, h2⟩
  unfold maxLen at hcm
  obtain ⟨m, hm⟩ : ∃ m, n = i + 1 + m := ⟨n - (i + 1), by omega⟩
  obtain ⟨news, hnews⟩ : ∃ news, news = (xs.drop (i + 1)).flatMap enc := ⟨_, rfl⟩
  have hnl : news.length = m * 6 := by rw [hnews, flat_len N.len, List.length_drop, ← hlen, hm]; congr 1; omega
  obtain ⟨A, hA, hsrc⟩ : ∃ A : Addr, (if cap = i + 1 then some (⟨g, 0, none⟩ : Addr) else some ⟨g, (i + 1) * 6, none⟩) = some A ∧ Hid (∀ t u, news[t]? = some u → w.drew.cell? (A.add t) = some u) := by
    by_cases hc : cap = i + 1
    · refine ⟨⟨g, 0, none⟩, by simp [hc], fun t u hu => ?_⟩
      have h0 : news.length = 0 := by rw [hnl]; have : m = 0 := by omega
                                      rw [this, Nat.zero_mul]
      rw [List.length_eq_zero_iff.1 h0] at hu
      simp at hu
    · refine ⟨⟨g, (i + 1) * 6, none⟩, by simp [hc], fun t u hu => ?_⟩
      rw [hnews, flat_drop N.len, List.getElem?_drop] at hu
      have := World.ownsRow.cells h rfl _ _ hu
      rw [Addr.add_mk, Nat.zero_add] at this
      rw [Addr.add_mk]; exact this
  have s1 : Hid (news.length = m * 6) := hnl
  have s2 : Hid (∀ u ∈ news, u.oneCell' = true) := by
    intro u hu
    rw [hnews] at hu
    obtain ⟨x, _, hx⟩ := List.mem_flatMap.1 hu
    exact N.one x u hx
  have hcells : ∀ t, t < n * 6 → (w.cell? ⟨g, t, none⟩).isSome = true ∧ w.frozen? ⟨g, t, none⟩ = false := by
    intro t ht
    refine ⟨?_, h.free t⟩
    have : (xs.flatMap enc).length = n * 6 := by rw [flat_len N.len, hlen]
    have h' := h
    rw [hlen] at h'
    rw [World.ownsRow.cellAt h' t (by rw [← hlen]; exact ht), List.getElem?_eq_getElem (by omega)]; rfl
  have s3 : Hid (∀ t, t < news.length → (w.drew.cell? ⟨g, 0 + i * 6 + t, none⟩).isSome = true ∧ w.drew.frozen? ⟨g, 0 + i * 6 + t, none⟩ = false) := by
    intro t ht
    rw [hnl] at ht
    have hlt : 0 + i * 6 + t < n * 6 := by rw [hm]; omega
    exact hcells _ hlt
  obtain ⟨W1, hW1⟩ : ∃ W1, W1 = w.drew.setCells g (0 + i * 6) news := ⟨_, rfl⟩
  have hd : Rw enc 6 35 w.drew (.slice (some ⟨g, 0, none⟩) n cap) xs := h
  have hR1 : Rw enc 6 35 W1 (.slice (some ⟨g, 0, none⟩) (n - 1) cap) (xs.eraseIdx i) := by
    have := hd.cut N.len hi
    rw [hW1, hnews, Nat.zero_add]; exact this
  have hE1 : Ext [g] w W1 := by rw [hW1]; exact Ext.of_drew (Ext.setCells (Or.inl (by simp)) _ _ _ (Ext.refl _ _))
  have hcell1 : ∀ t, t < n * 6 → (W1.cell? ⟨g, t, none⟩).isSome = true ∧ W1.frozen? ⟨g, t, none⟩ = false := by
    intro t ht
    have h0 := hcells t ht
    have : W1 = (w.drew.setCells g (0 + i * 6) news) := hW1
    rw [this]
    refine ⟨?_, by rw [World.frozen?_setCells]; exact h0.2⟩
    by_cases hin : 0 + i * 6 ≤ t ∧ t < 0 + i * 6 + news.length
    · have := World.cell?_setCells_in g news (0 + i * 6) w.drew (fun j hj => (s3.out j hj).1) (t - (0 + i * 6)) (by omega)
      rw [show 0 + i * 6 + (t - (0 + i * 6)) = t by omega] at this
      rw [this]; rfl
    · rw [World.cell?_setCells_out g news (0 + i * 6) w.drew ⟨g, t, none⟩ (fun _ _ => by simp; omega)]
      exact h0.1
  obtain ⟨i0, hi0, hi1⟩ : ∃ i0, Try.prog.info? 35 = some i0 ∧ i0.size = 6 := ⟨Try.t35, by kernel_rfl, by rfl⟩
  obtain ⟨zv, hz0, hz1, hz2⟩ : ∃ zv, (∀ w, (zeroValue 35).run Try.prog w = .ok zv w) ∧ zv.cells.size = 6 ∧ ∀ u ∈ zv.cells, u.oneCell' = true := ⟨_, Try.zeroValue35, by rfl, by simp [Value.cells, Value.oneCell']⟩
  have t22 : Try.prog.underlying 29 = some (.slice 35) := Try.underlying29
  obtain ⟨W2, hW2⟩ : ∃ W2, W2 = W1.setCells g ((n - 1) * 6) (Builtin.zeroCells zv.cells 1).toList := ⟨_, rfl⟩
  have hcl : ∀ ty c, (Builtin.clear_ #[29] ty #[.slice (some ⟨g, (i + m) * 6, none⟩) (n - (i + m)) c]).run Try.prog W1 = .ok (.tuple #[]) W2 := by
    intro ty c
    have := run_clear_k (P := Try.prog) W1 29 35 ty zv 6 t22 hz0 hz1 hz2 g ((n - 1) * 6) 1 c (by omega) (fun j hj => (hcell1 _ (by omega)).1) (fun j hj => (hcell1 _ (by omega)).2)
    rw [hW2, ← this]
    have e1 : n - 1 = i + m := by omega
    have e2 : n - (i + m) = 1 := by omega
    rw [e2, e1]
  have hR2 : Rw enc 6 35 W2 (.slice (some ⟨g, 0, none⟩) (n - 1) cap) (xs.eraseIdx i) := by rw [hW2]; exact hR1.spoilt N.len _ _ (Nat.le_refl _)
  have hE2 : Ext [g] w W2 := by rw [hW2]; exact Ext.setCells (Or.inl (by simp)) _ _ _ hE1
  have HR2 := Lib.hid hR2; have HE2 := Lib.hid hE2; have HW1 := Lib.hid hW1; have HL := Lib.hid hlen
  have hm1 : n - 1 = i + m := by omega
  have HM1 := Lib.hid hm1
  clear hR2 hE2 hW1 hW2 hR1 hE1 hcell1 hcells hd hnl hnews h hlen hm1
  obtain ⟨j, hj⟩ : ∃ j : Nat, j = i + 1 := ⟨_, rfl⟩
  rw [← hj] at hA
  rw [show ((i : Int) + 1) = (j : Int) by omega]
  have b0 : i < j := by omega
  have b1 : j ≤ cap := by omega
  have b2 : i ≤ cap := by omega
  have b3 : j ≤ n := by omega
  have b4 : ((i : Int) == (j : Int)) = false := by simp; omega
  have b5 : n - j = m := by omega
  have b6 : i ≤ n := by omega
  clear hm hj
  go_enter Try.func54, Try.ntmps54
  go_wp2_with fail
  go_region_law (refine step_append_room rfl (.tmp 22) (.tmp 25) 29 rfl 35 i0 6 t22 hi0 hi1 g 0 i cap (by simp [Act.eval, Act.put]) A m (cap - j) news (by simp [Act.eval, Act.put]) s1.out hsrc.out s2.out (by omega) s3.out ?_; rw [← HW1.out])
  go_wp2_with fail
  go_ret
  rw [HM1.out]
  exact ⟨rfl, by have := HR2.out; rwa [HM1.out] at this, HE2.out⟩

end Go.Proofs.Ytkbjpackijdnkaa
