/- Slices of the program's own, whose elements are told by a list: small lemmas, for the walks of this seat. -/
import Derived.Test.YtlnablnnnnkeaaaCore
import Derived.Deep.AppendLies
import Derived.Laws.IdiomCopy
import Derived.Deep.MidRow
namespace Go.Proofs.Ytlnablnnnnkeaaa
open Go.RowKit
set_option linter.unusedVariables false
set_option linter.unusedSimpArgs false

section
variable {α : Type} {enc : α → List Value} {k : Nat}

theorem flat_len (hk : ∀ x, (enc x).length = k) (xs : List α) : (xs.flatMap enc).length = xs.length * k := by
  induction xs with
  | nil => simp
  | cons x xs ih => rw [List.flatMap_cons, List.length_append, ih, hk, List.length_cons, Nat.add_mul]; omega

theorem flat_get (hk : ∀ x, (enc x).length = k) : ∀ (xs : List α) (i : Nat) (x : α), xs[i]? = some x → ∀ j, j < k → (xs.flatMap enc)[i * k + j]? = (enc x)[j]?
  | [], i, x, h, _, _ => by simp at h
  | y :: xs, 0, x, h, j, hj => by
    simp at h; subst h
    rw [List.flatMap_cons, List.getElem?_append_left (by rw [hk]; omega)]
    congr 1; omega
  | y :: xs, i + 1, x, h, j, hj => by
    rw [List.flatMap_cons, List.getElem?_append_right (by rw [hk, Nat.add_mul]; omega), hk]
    have := flat_get hk xs i x (by simpa using h) j hj
    rw [← this]
    congr 1
    rw [Nat.add_mul]; omega

theorem flat_take (hk : ∀ x, (enc x).length = k) : ∀ (xs : List α) (m : Nat), (xs.take m).flatMap enc = (xs.flatMap enc).take (m * k)
  | [], m => by simp
  | x :: xs, 0 => by simp
  | x :: xs, m + 1 => by
    rw [List.take_succ_cons, List.flatMap_cons, List.flatMap_cons, flat_take hk xs m, List.take_append, hk]
    rw [List.take_of_length_le (l := enc x) (by rw [hk, Nat.add_mul]; omega)]
    congr 2
    rw [Nat.add_mul]; omega

theorem flat_drop (hk : ∀ x, (enc x).length = k) : ∀ (xs : List α) (m : Nat), (xs.drop m).flatMap enc = (xs.flatMap enc).drop (m * k)
  | [], m => by simp
  | x :: xs, 0 => by simp
  | x :: xs, m + 1 => by
    rw [List.drop_succ_cons, List.flatMap_cons, flat_drop hk xs m, List.drop_append, hk]
    have hz : (enc x).drop ((m + 1) * k) = [] := List.drop_eq_nil_of_le (by rw [hk, Nat.add_mul]; omega)
    rw [hz, List.nil_append]
    congr 1
    rw [Nat.add_mul]; omega

/-- Cells written one behind the other. -/
def putL : List Value → Nat → List Value → List Value
  | cs, _, [] => cs
  | cs, o, v :: r => putL (cs.set o v) (o + 1) r

theorem putL_len : ∀ (vs cs : List Value) (o : Nat), (putL cs o vs).length = cs.length
  | [], _, _ => rfl
  | v :: r, cs, o => by rw [putL, putL_len r, List.length_set]

theorem putL_get : ∀ (vs cs : List Value) (o j : Nat), o + vs.length ≤ cs.length → (putL cs o vs)[j]? = if o ≤ j ∧ j < o + vs.length then vs[j - o]? else cs[j]?
  | [], cs, o, j, _ => by rw [putL, if_neg (by simp)]
  | v :: r, cs, o, j, h => by
    rw [putL, putL_get r _ _ _ (by simp at h ⊢; omega)]
    simp only [List.length_cons] at h ⊢
    by_cases h1 : o + 1 ≤ j ∧ j < o + 1 + r.length
    · rw [if_pos h1, if_pos (by omega), show j - o = (j - (o + 1)) + 1 by omega, List.getElem?_cons_succ]
    · rw [if_neg h1]
      by_cases h2 : j = o
      · subst h2
        rw [if_pos (by omega), List.getElem?_set_self (by omega)]
        simp
      · rw [if_neg (by omega), List.getElem?_set_ne (by omega)]

theorem flat_set (hk : ∀ x, (enc x).length = k) (xs : List α) (i : Nat) (y : α) (hi : i < xs.length) : (xs.set i y).flatMap enc = putL (xs.flatMap enc) (i * k) (enc y) := by
  have hlen : i * k + k ≤ xs.length * k := by
    have := Nat.mul_le_mul_right k (show i + 1 ≤ xs.length by omega)
    rw [Nat.add_mul] at this; omega
  refine List.ext_getElem? fun j => ?_
  rw [putL_get _ _ _ _ (by rw [flat_len hk, hk]; omega), hk]
  by_cases hj : j < xs.length * k
  · have hk0 : 0 < k := by rcases Nat.eq_zero_or_pos k with h | h
                           · subst h; omega
                           · exact h
    have hq : j / k < xs.length := Nat.div_lt_of_lt_mul (by rw [Nat.mul_comm]; exact hj)
    have hr : j % k < k := Nat.mod_lt _ hk0
    have hdm : j / k * k + j % k = j := Nat.div_add_mod' j k
    have hx := List.getElem?_eq_getElem hq
    by_cases hjk : j / k = i
    · have h1 := flat_get hk (xs.set i y) i y (by rw [List.getElem?_set_self hi]) (j % k) hr
      rw [hjk] at hdm
      rw [if_pos (by omega), ← hdm, h1]
      congr 1; omega
    · have h1 := flat_get hk (xs.set i y) (j / k) _ (by rw [List.getElem?_set_ne (Ne.symm hjk)]; exact hx) (j % k) hr
      have h2 := flat_get hk xs (j / k) _ hx (j % k) hr
      rw [hdm] at h1 h2
      rw [h1, ← h2, if_neg]
      intro hh
      rcases Nat.lt_or_gt_of_ne hjk with h | h
      · have := Nat.mul_le_mul_right k (show j / k + 1 ≤ i by omega)
        rw [Nat.add_mul] at this; omega
      · have := Nat.mul_le_mul_right k (show i + 1 ≤ j / k by omega)
        rw [Nat.add_mul] at this; omega
  · rw [if_neg (by omega), List.getElem?_eq_none (by rw [flat_len hk, List.length_set]; omega), List.getElem?_eq_none (by rw [flat_len hk]; omega)]

/-- The slice v is a row of elements of type E (k cells each), the elements told by xs. -/
def Rw (enc : α → List Value) (k : Nat) (E : TypeId) (w : World) (v : Value) (xs : List α) : Prop := w.ownsRow 0 E k v xs.length (xs.flatMap enc)

variable {E : TypeId} {w w' : World} {v : Value} {xs : List α}

theorem Rw.nil (w : World) : Rw enc k E w (.slice none 0 0) [] := World.ownsRow_nil w 0 E k

theorem Rw.form (h : Rw enc k E w v xs) (hn : 0 < xs.length) : ∃ g cap, v = .slice (some ⟨g, 0, none⟩) xs.length cap ∧ g < w.heap.size ∧ xs.length ≤ cap := by
  rcases h.2 with ⟨_, h0⟩ | ⟨g, cap, cur, hv, hb, hg, hnc, hcm, _⟩
  · omega
  · refine ⟨g, cap, hv, ?_, hnc⟩
    rcases Nat.lt_or_ge g w.heap.size with hlt | hge
    · exact hlt
    · rw [Array.getElem?_eq_none hge] at hg; cases hg

theorem Rw.val (h : Rw enc k E w v xs) : ∃ a cap, v = .slice a xs.length cap := by
  rcases h.2 with ⟨hv, h0⟩ | ⟨g, cap, cur, hv, _⟩
  · exact ⟨none, 0, by rw [hv, h0]⟩
  · exact ⟨_, cap, hv⟩

theorem Rw.lt (h : Rw enc k E w v xs) : ∀ g, v.ownBlock = some g → g < w.heap.size := fun g hg => (World.ownsRow.lt h g hg).2

theorem Rw.cell (hk : ∀ x, (enc x).length = k) {g n cap : Nat} (h : Rw enc k E w (.slice (some ⟨g, 0, none⟩) n cap) xs) {i : Nat} {x : α} (hx : xs[i]? = some x) (j : Nat) (hj : j < k) :
    w.cell? ⟨g, i * k + j, none⟩ = (enc x)[j]? := by
  have hi : i < xs.length := (List.getElem?_eq_some_iff.1 hx).1
  have hn : n = xs.length := by
    obtain ⟨a, c, hv⟩ := h.val
    injection hv
  subst hn
  have hlen : i * k + j < xs.length * k := by
    have := Nat.mul_le_mul_right k (show i + 1 ≤ xs.length by omega)
    rw [Nat.add_mul] at this; omega
  rw [World.ownsRow.cellAt h (i * k + j) hlen, flat_get hk xs i x hx j hj]

theorem Rw.free {g n cap : Nat} (h : Rw enc k E w (.slice (some ⟨g, 0, none⟩) n cap) xs) (j : Nat) : w.frozen? ⟨g, j, none⟩ = false := by
  have hn : n = xs.length := by
    obtain ⟨a, c, hv⟩ := h.val
    injection hv
  subst hn
  exact World.ownsRow.frozenAt h j

theorem Rw.keep {S : List Nat} (h : Rw enc k E w v xs) (he : Ext S w w') (hS : ∀ g, v.ownBlock = some g → g ∉ S) : Rw enc k E w' v xs := by
  refine ⟨h.1, ?_⟩
  rcases h.2 with hn | ⟨g, cap, cur, rfl, hb, hg, rest⟩
  · exact .inl hn
  · have hlt : g < w.heap.size := h.lt g rfl
    exact .inr ⟨g, cap, cur, rfl, hb, by rw [he.block g hlt (hS g rfl)]; exact hg, rest⟩

theorem stored_cells {g cap n : Nat} : ∀ (vs : List Value) (o : Nat) (w : World) (cs : List Value), w.ownsRow 0 E k (.slice (some ⟨g, 0, none⟩) n cap) n cs →
    (w.setCells g o vs).ownsRow 0 E k (.slice (some ⟨g, 0, none⟩) n cap) n (putL cs o vs)
  | [], _, _, _, h => h
  | v :: r, o, w, cs, h => stored_cells r (o + 1) _ _ (World.ownsRow.stored h o v).1

theorem Ext.setCells {S : List Nat} {a : World} {g : Nat} (hg : g ∈ S ∨ a.heap.size ≤ g) : ∀ (vs : List Value) (o : Nat) (w : World), Ext S a w → Ext S a (w.setCells g o vs)
  | [], _, _, h => h
  | v :: r, o, w, h => Ext.setCells hg r (o + 1) _ (h.setCell (p := ⟨g, o, none⟩) hg v)

theorem Rw.put (hk : ∀ x, (enc x).length = k) {g n cap : Nat} (h : Rw enc k E w (.slice (some ⟨g, 0, none⟩) n cap) xs) {i : Nat} (hi : i < xs.length) (y : α) :
    Rw enc k E (w.setCells g (i * k) (enc y)) (.slice (some ⟨g, 0, none⟩) n cap) (xs.set i y) := by
  have hn : n = xs.length := by
    obtain ⟨a, c, hv⟩ := h.val
    injection hv
  subst hn
  unfold Rw
  rw [List.length_set, flat_set hk xs i y hi]
  exact stored_cells _ _ _ _ h

theorem Rw.there (hk : ∀ x, (enc x).length = k) {g n cap : Nat} (h : Rw enc k E w (.slice (some ⟨g, 0, none⟩) n cap) xs) {i : Nat} (hi : i < xs.length) : w.there g (i * k) k := by
  intro j hj
  have hx := List.getElem?_eq_getElem hi
  refine ⟨?_, h.free _⟩
  rw [h.cell hk hx j hj, List.getElem?_eq_getElem (by rw [hk]; exact hj)]
  rfl

theorem Rw.take (hk : ∀ x, (enc x).length = k) {g n cap m : Nat} (h : Rw enc k E w (.slice (some ⟨g, 0, none⟩) n cap) xs) (hm : m ≤ xs.length) :
    Rw enc k E w (.slice (some ⟨g, 0, none⟩) m cap) (xs.take m) := by
  have hl : (xs.take m).length = m := by rw [List.length_take]; omega
  have hf := flat_len hk (xs.take m)
  unfold Rw
  rw [hl] at hf ⊢
  refine ⟨hf, ?_⟩
  rcases h.2 with ⟨h', _⟩ | ⟨g', cap', cur, h', hb, hg, hnc, hcm, hcs, htake⟩
  · simp at h'
  · simp only [Value.slice.injEq, Option.some.injEq, Addr.mk.injEq, and_true, true_and] at h'
    obtain ⟨rfl, hn, rfl⟩ := h'
    refine .inr ⟨g, cap, cur, rfl, hb, hg, by omega, hcm, hcs, ?_⟩
    rw [flat_take hk, ← htake, List.take_take]
    congr 1
    have := Nat.mul_le_mul_right k hm
    omega

theorem Rw.ne_blk {b : Nat} {cs : Array Value} {T : TypeId} (h : Rw enc k E w v xs) (hb : Blk w b cs T) (hT : E ≠ T) : v.ownBlock ≠ some b := by
  rcases h.2 with ⟨rfl, _⟩ | ⟨g, cap, cur, rfl, _, hh, _⟩
  · simp [Value.ownBlock]
  · intro he
    have hgb : g = b := by simpa [Value.ownBlock] using he
    subst hgb
    unfold Blk at hb
    rw [hh] at hb
    injection hb with hb
    injection hb with _ ht
    exact hT ht
end

/-- A store of a struct into the midst of a block, as an arm of a region that draws its order. -/
theorem store_arm {P : Program} {ops : Array Oper} {oi : Oper} {a : Act} {w : World} {K : Act → World → Prop} {Q : Exit → Act → World → Prop} (hw : Region.wanted oi (yielded ops a.tmps) = true) (hN : oi.dst = none)
    (ty : TypeId) (x y : Operand) (ho : oi.op = .store ty x y) (b o : Nat) (cells : Array Value) (hx : a.eval x = .pointer (some ⟨b, o, none⟩)) (hy : a.eval y = .agg cells)
    (ht : w.there b o cells.size) (hi : (P.info? ty).map (·.size) = some cells.size) (h1 : cells.all (·.oneCell') = true)
    (h : K a (w.setCells b o cells.toList)) : if Region.wanted oi (yielded ops a.tmps) = true then Oper.wp P oi a w K Q else K (a.put none undef) w := by
  rw [if_pos hw]
  refine wp_store_mid ty x y ho b o cells hx hy ht hi h1 ?_
  rw [hN]
  exact h

end Go.Proofs.Ytlnablnnnnkeaaa
