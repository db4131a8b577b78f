/- The library's functions at []int that a group calls: BinarySearch, Insert of one. -/
import Derived.Test.YtlagogjnoibkcaaIntRows
import Derived.Test.YtlagogjnoibkcaaGrShelf
import Derived.Shelf.Slices.Empties
namespace Go.Proofs.Ytlagogjnoibkcaa
open Go.RowKit Go.Shelf
set_option linter.unusedVariables false
set_option linter.unusedSimpArgs false

theorem flatI (xs : List Int) : xs.flatMap (encI .i64) = xs.map (Value.int .i64) := by
  induction xs with
  | nil => rfl
  | cons x r ih => rw [List.flatMap_cons, ih]; rfl

theorem search_any (v : Value) (xs : List Int) (x : Int) (hx : xs.length < 1000000) (hs : xs.Pairwise (· ≤ ·)) (w : World) (h : RI w v xs) :
    Calls Try.prog 50 #[v, .int .i64 x] w fun e w' => e = .returned (.tuple #[.int .i64 (xs.countP (· < x) : Nat), .bool (xs.contains x)]) ∧ Ext [] w w' := by
  obtain ⟨a, cap, rfl⟩ := h.val
  rcases Nat.eq_zero_or_pos xs.length with h0 | h0
  · have he : xs = [] := List.length_eq_zero_iff.1 h0
    subst he
    exact (Any.slices_BinarySearch_int_empty laySearch a cap x w).mono fun _ _ ⟨h1, h2⟩ => ⟨h1, h2 ▸ Ext.refl _ _⟩
  · obtain ⟨g, rfl, hg⟩ := h.addr h0
    have hc : ∀ j, j < xs.length → w.cell? ⟨g, 0 + j, none⟩ = some (.int .i64 (xs.getD j 0)) := fun j hj => by
      have := h.cell encI_ok.len (List.getElem?_eq_getElem hj) 0 (by omega)
      simp only [encI, Nat.add_zero, Nat.mul_one, List.getElem?_cons_zero] at this
      rw [Nat.zero_add, this, List.getD_eq_getElem?_getD, List.getElem?_eq_getElem hj]; rfl
    have := Any.slices_BinarySearch_int laySearch g 0 xs.length cap xs x w (Nat.le_refl _) (by omega) hc (by rw [List.take_length]; exact hs)
    rw [List.take_length] at this
    exact this.mono fun _ _ ⟨h1, q, h2⟩ => ⟨h1, h2 ▸ (Ext.refl _ _).drewN _⟩

/-- A row is written on, up to its capacity. -/
theorem Rw.rewrite {α : Type} {enc : α → List Value} {k : Nat} {E : TypeId} {w W : World} {g n cap m : Nat} {xs ys : List α} (h : Rw enc k E w (.slice (some ⟨g, 0, none⟩) n cap) xs) (F : List Value → List Value)
    (hW : ∀ cs, w.ownsRow 0 E k (.slice (some ⟨g, 0, none⟩) cap cap) cap cs → W.ownsRow 0 E k (.slice (some ⟨g, 0, none⟩) cap cap) cap (F cs)) (hm : m ≤ cap) (hy : ys.length = m)
    (hF : ∀ cs, cs.length = cap * k → cs.take (n * k) = xs.flatMap enc → (F cs).take (m * k) = ys.flatMap enc) (hyl : (ys.flatMap enc).length = m * k) : Rw enc k E W (.slice (some ⟨g, 0, none⟩) m cap) ys := by
  have hn := h.len
  rcases h.2 with ⟨h', _⟩ | ⟨g', cap', cur, h', hb, hg, hnc, hcm, hcs, htake⟩
  · simp at h'
  · simp only [Value.slice.injEq, Option.some.injEq, Addr.mk.injEq, and_true, true_and] at h'
    obtain ⟨rfl, -, rfl⟩ := h'
    have hcl : cur.toList.length = cap * k := by rw [Array.length_toList]; exact hcs
    have hfull : w.ownsRow 0 E k (.slice (some ⟨g, 0, none⟩) cap cap) cap cur.toList := ⟨hcl, .inr ⟨g, cap, cur, rfl, hb, hg, Nat.le_refl _, hcm, hcs, by rw [← hcl, List.take_length]⟩⟩
    have hw := hW _ hfull
    rcases hw.2 with ⟨h', _⟩ | ⟨g', cap', cur', h', hb', hg', hnc', hcm', hcs', htake'⟩
    · simp at h'
    · simp only [Value.slice.injEq, Option.some.injEq, Addr.mk.injEq, and_true, true_and] at h'
      obtain ⟨rfl, rfl⟩ := h'
      have hcl' : cur'.toList.length = cap * k := by rw [Array.length_toList]; exact hcs'
      have e2 : F cur.toList = cur'.toList := by rw [← htake', ← hcl', List.take_length]
      have := hF cur.toList hcl (by rw [hn]; exact htake)
      refine ⟨by rw [hy]; exact hyl, .inr ⟨g, cap, cur', by rw [hy], hb', hg', by rw [hy]; exact hm, hcm', hcs', ?_⟩⟩
      rw [hy, ← this, e2]

theorem shift_take {cs : List Value} {xs : List Int} {n i : Nat} {z : Int} (hl : n + 1 ≤ cs.length) (hx : xs.length = n) (hi : i ≤ n) (ht : cs.take n = xs.map (Value.int .i64)) :
    (putL (putL cs (i + 1) ((xs.map (Value.int .i64)).drop i)) i [.int .i64 z]).take (n + 1) = (xs.take i ++ z :: xs.drop i).map (Value.int .i64) := by
  have hdl : ((xs.map (Value.int .i64)).drop i).length = n - i := by rw [List.length_drop, List.length_map, hx]
  have hpl := putL_len ((xs.map (Value.int .i64)).drop i) cs (i + 1)
  apply List.ext_getElem?
  intro j
  have hcs : j < n → cs[j]? = (xs.map (Value.int .i64))[j]? := fun hj => by
    rw [← ht, List.getElem?_take, if_pos hj]
  rw [List.getElem?_take]
  by_cases hj : j < n + 1
  · rw [if_pos hj, putL_get _ _ _ _ (by rw [hpl]; simp; omega)]
    rw [List.map_append, List.map_cons]
    by_cases h1 : j < i
    · rw [if_neg (by simp; omega), putL_get _ _ _ _ (by rw [hdl]; omega), if_neg (by omega), hcs (by omega), List.getElem?_append_left (by simp; omega), List.map_take, List.getElem?_take, if_pos h1]
    · by_cases h2 : j = i
      · subst h2
        rw [if_pos ⟨Nat.le_refl _, by simp⟩, List.getElem?_append_right (by simp only [List.length_map, List.length_take]; omega), List.length_map, List.length_take, Nat.min_eq_left (by omega), Nat.sub_self]
        rfl
      · rw [if_neg (by simp; omega), putL_get _ _ _ _ (by rw [hdl]; omega), if_pos (by rw [hdl]; omega), List.getElem?_drop, List.getElem?_append_right (by simp; omega), List.length_map, List.length_take, Nat.min_eq_left (by omega)]
        obtain ⟨t, rfl⟩ : ∃ t, j = i + 1 + t := ⟨j - (i + 1), by omega⟩
        rw [show i + 1 + t - i = t + 1 by omega, List.getElem?_cons_succ, List.map_drop, List.getElem?_drop]
        congr 1
        omega
  · rw [if_neg hj, List.getElem?_eq_none]
    simp; omega

/-- What an Insert of one leaves. -/
def InsP (v : Value) (xs : List Int) (i : Nat) (z : Int) (w : World) (e : Ending) (w' : World) : Prop :=
  ∃ (a : Option Addr) (c : Nat), e = .returned (.slice a (xs.length + 1) c) ∧ RI w' (.slice a (xs.length + 1) c) (xs.take i ++ z :: xs.drop i) ∧ Ext v.ownBlock.toList w w' ∧ (∀ g, (Value.slice a (xs.length + 1) c).ownBlock = some g → v.ownBlock = some g ∨ w.heap.size ≤ g)

theorem own_cap (a : Option Addr) (n c c' : Nat) : (Value.slice a n c).ownBlock = (Value.slice a n c').ownBlock := by cases a <;> rfl
set_option maxHeartbeats 1600000 in
theorem insert_end (v : Value) (xs : List Int) (z : Int) (vb : Nat) (hx : xs.length < 100000) (w : World) (h : RI w v xs) (hb : Blk w vb #[.int .i64 z] 3) :
    Calls Try.prog 51 #[v, .int .i64 xs.length, .slice (some ⟨vb, 0, none⟩) 1 1] w (InsP v xs xs.length z w) := by
  obtain ⟨a, cap, rfl⟩ := h.val
  unfold InsP
  rw [List.take_length, List.drop_length]
  obtain ⟨n, hn⟩ : ∃ n, n = xs.length := ⟨_, rfl⟩
  rw [← hn] at h hx ⊢
  have hcap := h.cap_le
  have hlen : LenIs xs [z] (n + 1) := by unfold LenIs; rw [← hn]; rfl
  have hri : RI w (.slice (some ⟨vb, 0, none⟩) 1 1) [z] := ⟨rfl, .inr ⟨vb, 1, #[.int .i64 z], rfl, Nat.zero_le _, hb, Nat.le_refl _, by unfold maxLen; decide, rfl, rfl⟩⟩
  have hsl := hri.sl
  have h63 : n + 1 ≤ 1000000 := by omega
  have HN := Lib.hid hn
  have f1 : (n : Int) ≤ (cap : Int) := by omega
  clear hn hb hri
  go_enter Try.func51, Try.ntmps51
  go_wp2_with (at_builtin; refine wpList_appN tyI encI_ok (by rfl) _ _ (by rfl) h (by rfl) hsl (by rfl) hlen h63 ?_)
  all_goals
    intro a5 c5 w5 hr5 hS5 hg5
    have HR5 := Lib.hid hr5; have HS5 := Lib.hid (hS5 (Value.slice a n cap).ownBlock.toList (by intro b hb; first | (simpa using hb) | (simpa using ((own_cap a n cap n).trans hb)))); have HG5 := Lib.hid hg5
    clear hr5 hS5 hg5 hsl hlen h
    go_wp2_with fail
    refine bodyPost_ret (v := .slice a5 (n + 1) c5) (by simp [results, Try.results51, go_sem]) rfl ?_
    exact ⟨a5, c5, rfl, HR5.out, HS5.out, fun g hg => (HG5.out g hg).imp_left (fun h => by first | exact h | exact (own_cap a n cap n).trans h)⟩

theorem insert_mid (v : Value) (xs : List Int) (i : Nat) (z : Int) (vb : Nat) (hi : i < xs.length) (hx : xs.length < 100000) (w : World) (h : RI w v xs) (hb : Blk w vb #[.int .i64 z] 3) (hne : v.ownBlock ≠ some vb) :
    Calls Try.prog 51 #[v, .int .i64 i, .slice (some ⟨vb, 0, none⟩) 1 1] w (InsP v xs i z w) := by
  obtain ⟨a, cap, rfl⟩ := h.val
  obtain ⟨g, rfl, hg⟩ := h.addr (by omega)
  have hnc := h.cap_le
  have hcs : ∀ j v, (xs.map (Value.int .i64))[j]? = some v → w.cell? ⟨g, 0 + j, none⟩ = some v := fun j v hv => by
    rw [List.getElem?_map] at hv
    obtain ⟨y, hy, rfl⟩ := Option.map_eq_some_iff.1 hv
    have := h.cell encI_ok.len hy 0 (by omega)
    simp only [encI, Nat.add_zero, Nat.mul_one, List.getElem?_cons_zero] at this
    rw [Nat.zero_add, this]
  have hvs : ∀ j v, [Value.int .i64 z][j]? = some v → w.cell? ⟨vb, 0 + j, none⟩ = some v := fun j v hv => by
    match j, hv with
    | 0, hv => have e : Value.int .i64 z = v := by simpa using hv
               rw [← e]; exact hb.cell 0
  have h1c : ∀ v ∈ xs.map (Value.int .i64), v.oneCell' = true := fun v hv => by obtain ⟨y, _, rfl⟩ := List.mem_map.1 hv; rfl
  have h1v : ∀ v ∈ [Value.int .i64 z], v.oneCell' = true := fun v hv => by simp at hv; subst hv; rfl
  have hl : (xs.take i ++ z :: xs.drop i).length = xs.length + 1 := by rw [List.length_append, List.length_cons, List.length_take, List.length_drop]; omega
  have hyl : ((xs.take i ++ z :: xs.drop i).flatMap (encI .i64)).length = (xs.length + 1) * 1 := by rw [flatI, List.length_map, hl, Nat.mul_one]
  by_cases hroom : xs.length + 1 ≤ cap
  · obtain ⟨cur, hcur, hcsz, hcm⟩ : ∃ cur, w.heap[g]? = some (.cells cur 3 (0, 0)) ∧ cur.size = cap * 1 ∧ cap ≤ maxLen := by
      rcases h.2 with ⟨h', _⟩ | ⟨g', cap', cur, h', hb', hg', hnc', hcm, hcs', _⟩
      · simp at h'
      · simp only [Value.slice.injEq, Option.some.injEq, Addr.mk.injEq, and_true, true_and] at h'
        obtain ⟨rfl, rfl⟩ := h'
        exact ⟨cur, hg', hcs', hcm⟩
    have hblk : Blk w g cur 3 := hcur
    unfold maxLen at hcm
    refine (Any2.slices_Insert_int_shift layInsert g 0 xs.length cap i vb 0 1 1 (xs.map (Value.int .i64)) [.int .i64 z] w hi (by omega) hroom (by omega) (fun e => hne (by rw [e]; rfl)) (by rw [List.length_map]) rfl hcs ?_ ?_ hvs h1c h1v 3 3 1 cur.size ?_ ?_ ?_ ?_ ?_).mono ?_
    · intro j hj
      rw [Nat.zero_add, hblk.cell, Array.getElem?_eq_getElem (by omega)]; rfl
    · intro j hj; exact hblk.free _
    · unfold Blk at hb; simp [World.shape?, hb]
    · simp [World.shape?, hcur]
    · omega
    · exact hb.free _
    · exact hb.free _
    · rintro e w' ⟨rfl, rfl⟩
      refine ⟨_, _, rfl, ?_, ?_, fun q hq => .inl hq⟩
      · refine h.rewrite (fun cs => putL (putL cs (0 + (i + 1)) ((xs.map (Value.int .i64)).drop i)) (0 + i) [.int .i64 z]) (fun cs hw => stored_cells _ _ _ _ (stored_cells _ _ _ _ hw)) hroom hl (fun cs hc ht => ?_) hyl
        rw [Nat.mul_one] at hc ht ⊢
        rw [flatI] at ht ⊢
        rw [Nat.zero_add, Nat.zero_add]
        exact shift_take (by omega) rfl (by omega) ht
      · exact Ext.setCells (Or.inl (by simp [Value.ownBlock])) _ _ _ (Ext.setCells (Or.inl (by simp [Value.ownBlock])) _ _ _ (Ext.refl _ _).drew)
  · refine (Any2.slices_Insert_int_grow layInsert g 0 xs.length cap i vb 0 1 1 (xs.map (Value.int .i64)) [.int .i64 z] w hi (by omega) hnc (by omega) (by omega) (by rw [List.length_map]) rfl hcs hvs h1c h1v).mono ?_
    rintro e w' ⟨rfl, rfl⟩
    have hcap1 := grownCap_ge w (xs.length + 1) cap (ren.t 3)
    have hcap2 := grownCap_le_maxLen w (xs.length + 1) cap (ren.t 3) (by unfold maxLen; omega)
    generalize grownCap w (xs.length + 1) cap (ren.t 3) = C at hcap1 hcap2 ⊢
    have hown : ∀ q, (Value.slice (some ⟨w.heap.size, 0, none⟩) (xs.length + 1) C).ownBlock = some q → w.heap.size ≤ q := fun q hq => by
      have : w.heap.size = q := by simpa [Value.ownBlock] using hq
      omega
    refine ⟨_, _, rfl, ?_, ?_, fun q hq => .inr (hown q hq)⟩
    · obtain ⟨arr, harr⟩ : ∃ arr, arr = ((xs.map (Value.int .i64)).take i).toArray ++ Builtin.zeroCells (Value.int .i64 0).cells (xs.length + 1 - i) ++ Builtin.zeroCells (Value.int .i64 0).cells (C - (xs.length + 1)) := ⟨_, rfl⟩
      rw [← harr]
      have hz1 : (Value.int .i64 0).cells.size = 1 := rfl
      have hasz : arr.size = C := by
        rw [harr]
        simp only [Array.size_append, size_zeroCells, hz1, Nat.mul_one, List.size_toArray, List.length_take, List.length_map]
        omega
      have hal : arr.toList.length = C * 1 := by rw [Array.length_toList, hasz, Nat.mul_one]
      have hfull : (w.alloc (.cells arr (ren.t 3))).ownsRow 0 3 1 (.slice (some ⟨w.heap.size, 0, none⟩) C C) C arr.toList :=
        ⟨hal, .inr ⟨w.heap.size, C, arr, rfl, Nat.zero_le _, Blk.new w arr 3, Nat.le_refl _, hcap2, by rw [hasz, Nat.mul_one], by rw [← hal, List.take_length]⟩⟩
      have g1 : ((w.alloc (.cells arr (ren.t 3))).drew).ownsRow 0 3 1 (.slice (some ⟨w.heap.size, 0, none⟩) C C) C arr.toList := hfull
      have g2 := stored_cells [Value.int .i64 z] i _ _ g1
      have g3 : (((w.alloc (.cells arr (ren.t 3))).drew.setCells w.heap.size i [Value.int .i64 z]).drew).ownsRow 0 3 1 (.slice (some ⟨w.heap.size, 0, none⟩) C C) C (putL arr.toList i [Value.int .i64 z]) := g2
      have h2 := stored_cells ((xs.map (Value.int .i64)).drop i) (i + 1) _ _ g3
      rcases h2.2 with ⟨h', _⟩ | ⟨g', cap', cur', h', hb', hg', hnc', hcm', hcs', htake'⟩
      · simp at h'
      · simp only [Value.slice.injEq, Option.some.injEq, Addr.mk.injEq, and_true, true_and] at h'
        obtain ⟨rfl, rfl⟩ := h'
        refine ⟨by rw [hl]; exact hyl, .inr ⟨w.heap.size, C, cur', by rw [hl], hb', hg', by rw [hl]; exact hcap1, hcm', hcs', ?_⟩⟩
        have hcl' : cur'.toList.length = C * 1 := by rw [Array.length_toList]; exact hcs'
        have e2 : putL (putL arr.toList i [Value.int .i64 z]) (i + 1) ((xs.map (Value.int .i64)).drop i) = cur'.toList := by rw [← htake', ← hcl', List.take_length]
        rw [hl, flatI, ← e2, Nat.mul_one]
        have hda : arr.toList.take i = (xs.map (Value.int .i64)).take i := by
          rw [harr]
          simp only [Array.toList_append, List.append_assoc]
          rw [List.take_append_of_le_length (by rw [List.length_take, List.length_map]; omega), List.take_take, Nat.min_self]
        have hdl : ((xs.map (Value.int .i64)).drop i).length = xs.length - i := by rw [List.length_drop, List.length_map]
        have hpl := putL_len [Value.int .i64 z] arr.toList i
        apply List.ext_getElem?
        intro j
        rw [List.getElem?_take]
        by_cases hj : j < xs.length + 1
        · rw [if_pos hj, putL_get _ _ _ _ (by rw [hpl, hdl]; omega), List.map_append, List.map_cons]
          by_cases h1 : j < i
          · have e3 : arr.toList[j]? = (xs.map (Value.int .i64))[j]? := by
              have := congrArg (·[j]?) hda
              simpa [List.getElem?_take, h1] using this
            rw [if_neg (by omega), putL_get _ _ _ _ (by simp; omega), if_neg (by omega), e3, List.getElem?_append_left (by simp; omega), List.map_take, List.getElem?_take, if_pos h1]
          · by_cases h3 : j = i
            · subst h3
              rw [if_neg (by omega), putL_get _ _ _ _ (by simp; omega), if_pos ⟨Nat.le_refl _, by simp⟩, List.getElem?_append_right (by simp only [List.length_map, List.length_take]; omega), List.length_map, List.length_take, Nat.min_eq_left (by omega), Nat.sub_self]
              rfl
            · rw [if_pos (by rw [hdl]; omega), List.getElem?_drop, List.getElem?_append_right (by simp; omega), List.length_map, List.length_take, Nat.min_eq_left (by omega)]
              obtain ⟨t, rfl⟩ : ∃ t, j = i + 1 + t := ⟨j - (i + 1), by omega⟩
              rw [show i + 1 + t - i = t + 1 by omega, List.getElem?_cons_succ, List.map_drop, List.getElem?_drop]
              congr 1
              omega
        · rw [if_neg hj, List.getElem?_eq_none]
          simp; omega
    · exact Ext.setCells (Or.inr (Nat.le_refl _)) _ _ _ ((Ext.setCells (Or.inr (Nat.le_refl _)) _ _ _ (((Ext.refl _ _).alloc _).drew)).drew)

theorem insert_any (v : Value) (xs : List Int) (i : Nat) (z : Int) (vb : Nat) (hi : i ≤ xs.length) (hx : xs.length < 100000) (w : World) (h : RI w v xs) (hb : Blk w vb #[.int .i64 z] 3) (hne : v.ownBlock ≠ some vb) :
    Calls Try.prog 51 #[v, .int .i64 i, .slice (some ⟨vb, 0, none⟩) 1 1] w (InsP v xs i z w) := by
  rcases Nat.lt_or_ge i xs.length with h1 | h1
  · exact insert_mid v xs i z vb h1 hx w h hb hne
  · have : i = xs.length := by omega
    subst this
    exact insert_end v xs z vb hx w h hb
end Go.Proofs.Ytlagogjnoibkcaa
