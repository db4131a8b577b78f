/- Append of a list of elements to a row of the program's own, and pieces of such rows: small lemmas, for the walks of this seat. -/
import Derived.Test.YtlnablnnnnkeaaaApp
import Derived.Maps.AppendAt
import Derived.Laws.OwnMore
import Derived.Lib.SliceRun
namespace Go.Proofs.Ytlnablnnnnkeaaa
open Go.RowKit
set_option linter.unusedVariables false
set_option linter.unusedSimpArgs false

/-- t is the type of slices of e, whose elements take k cells. -/
structure ETy (P : Program) (t e : TypeId) (k : Nat) : Prop where
  und : P.underlying t = some (.slice e)
  info : ∃ i z, P.info? e = some i ∧ i.zero = some z ∧ i.size = k ∧ i.bytes ≤ 1000000 ∧ z.cells.size = k
  pos : 0 < k

/-- An encoding of elements by k cells each. -/
structure EncOk {α : Type} (enc : α → List Value) (k : Nat) : Prop where
  len : ∀ x, (enc x).length = k
  one : ∀ x, ∀ u ∈ enc x, u.oneCell' = true

section
variable {α : Type} {enc : α → List Value} {k : Nat} {E : TypeId} {P : Program} {w w' : World} {v sv : Value} {xs ys : List α}

/-- The value sv is a slice whose elements are told by ys, wherever they lie. -/
def Sl (enc : α → List Value) (w : World) (sv : Value) (ys : List α) : Prop :=
  ∃ a c, sv = .slice a ys.length c ∧ ((a = none ∧ ys = [] ∧ c = 0) ∨ ∃ ad, a = some ad ∧ (ys ≠ [] → ad.block < w.heap.size) ∧ ∀ j u, (ys.flatMap enc)[j]? = some u → w.cell? (ad.add j) = some u)

theorem Sl.nil (w : World) : Sl enc w (.slice none 0 0) [] := ⟨none, 0, rfl, .inl ⟨rfl, rfl, rfl⟩⟩

theorem Sl.keep {S : List Nat} (h : Sl enc w sv ys) (he : Ext S w w') (hS : ∀ g, sv.ownBlock = some g → g ∉ S) : Sl enc w' sv ys := by
  obtain ⟨a, c, rfl, h⟩ := h
  refine ⟨a, c, rfl, ?_⟩
  rcases h with h | ⟨ad, rfl, hb, hc⟩
  · exact .inl h
  · refine .inr ⟨ad, rfl, fun hn => Nat.lt_of_lt_of_le (hb hn) he.size, fun j u hu => ?_⟩
    rw [← hc j u hu]
    refine he.cell ?_ ?_
    · have : (ad.add j).block = ad.block := by unfold Addr.add; split <;> rfl
      rw [this]; exact hb (fun h0 => by rw [h0] at hu; simp at hu)
    · have : (ad.add j).block = ad.block := by unfold Addr.add; split <;> rfl
      rw [this]; exact hS _ rfl

theorem Rw.sl (h : Rw enc k E w v xs) : Sl enc w v xs := by
  rcases h.2 with ⟨rfl, h0⟩ | ⟨g, cap, cur, rfl, hb, hg, hnc, hcm, hcs, ht⟩
  · have : xs = [] := List.length_eq_zero_iff.1 h0
    subst this
    exact ⟨none, 0, rfl, .inl ⟨rfl, rfl, rfl⟩⟩
  · refine ⟨some ⟨g, 0, none⟩, cap, rfl, .inr ⟨_, rfl, fun _ => h.lt g rfl, fun j u hu => ?_⟩⟩
    exact World.ownsRow.cells h rfl j u hu

theorem Addr.add_mk (b o j : Nat) : (⟨b, o, none⟩ : Addr).add j = ⟨b, o + j, none⟩ := by unfold Addr.add; split <;> simp_all

/-- A piece of a row, from element i on. -/
theorem Rw.dropSl (hk : ∀ x, (enc x).length = k) {g n cap i : Nat} (h : Rw enc k E w (.slice (some ⟨g, 0, none⟩) n cap) xs) (hi : i ≤ n) (c : Nat) :
    Sl enc w (.slice (some ⟨g, i * k, none⟩) (n - i) c) (xs.drop i) := by
  have hn : n = xs.length := by
    obtain ⟨a, c, hv⟩ := h.val
    injection hv
  subst hn
  refine ⟨_, c, by rw [List.length_drop], .inr ⟨_, rfl, fun _ => h.lt g rfl, fun j u hu => ?_⟩⟩
  rw [flat_drop hk, List.getElem?_drop] at hu
  rw [Addr.add_mk]
  have := World.ownsRow.cells h rfl _ _ hu
  rwa [Addr.add_mk, Nat.zero_add] at this

theorem Rw.endSl {g n cap i : Nat} (h : Rw enc k E w (.slice (some ⟨g, 0, none⟩) n cap) xs) (hi : n ≤ i) (o c : Nat) :
    Sl enc w (.slice (some ⟨g, o, none⟩) 0 c) (xs.drop i) := by
  have hn : n = xs.length := by
    obtain ⟨a, c, hv⟩ := h.val
    injection hv
  subst hn
  rw [List.drop_eq_nil_of_le hi]
  exact ⟨_, c, rfl, .inr ⟨_, rfl, fun _ => h.lt g rfl, fun j u hu => by simp at hu⟩⟩

/-- A piece of a row, up to element i. -/
theorem Rw.takeSl (hk : ∀ x, (enc x).length = k) {g n cap i : Nat} (h : Rw enc k E w (.slice (some ⟨g, 0, none⟩) n cap) xs) (hi : i ≤ n) (c : Nat) :
    Sl enc w (.slice (some ⟨g, 0, none⟩) i c) (xs.take i) := by
  have hn : n = xs.length := by
    obtain ⟨a, c, hv⟩ := h.val
    injection hv
  subst hn
  refine ⟨_, c, by rw [List.length_take, Nat.min_eq_left hi], .inr ⟨_, rfl, fun _ => h.lt g rfl, fun j u hu => ?_⟩⟩
  rw [flat_take hk, List.getElem?_take] at hu
  split at hu
  · exact World.ownsRow.cells h rfl _ _ hu
  · cases hu

/-- How long both are together (a definition of its own: the walk does not turn it). -/
def LenIs (xs ys : List α) (m : Nat) : Prop := xs.length + ys.length = m

/-- append of a list. -/
theorem run_app {t ty e : TypeId} (T : ETy P t e k) (N : EncOk enc k) (hrow : Rw enc k e w v xs) (hsrc : Sl enc w sv ys) (h63 : xs.length + ys.length ≤ 1000000) :
    ∃ a' c' w', (Builtin.append_ #[t, t] ty #[v, sv]).run P w = .ok (.slice a' (xs.length + ys.length) c') w' ∧ Rw enc k e w' (.slice a' (xs.length + ys.length) c') (xs ++ ys) ∧
      (∀ S : List Nat, (∀ b, v.ownBlock = some b → b ∈ S) → Ext S w w') ∧ (∀ g, (Value.slice a' (xs.length + ys.length) c').ownBlock = some g → v.ownBlock = some g ∨ w.heap.size ≤ g) := by
  obtain ⟨i, z, hi, hz, hs, hby, hzs⟩ := T.info
  obtain ⟨a, c, rfl, hsrc⟩ := hsrc
  have fin : ∀ v' w', (Builtin.append_ #[t, t] ty #[v, .slice a ys.length c]).run P w = .ok v' w' → w'.ownsRow 0 e k v' (xs.length + ys.length) (xs.flatMap enc ++ ys.flatMap enc) → w.grownBy w' v.ownBlock → (v'.ownBlock = v.ownBlock ∨ v'.ownBlock = some w.heap.size) →
      ∃ a' c' w', (Builtin.append_ #[t, t] ty #[v, .slice a ys.length c]).run P w = .ok (.slice a' (xs.length + ys.length) c') w' ∧ Rw enc k e w' (.slice a' (xs.length + ys.length) c') (xs ++ ys) ∧
      (∀ S : List Nat, (∀ b, v.ownBlock = some b → b ∈ S) → Ext S w w') ∧ (∀ g, (Value.slice a' (xs.length + ys.length) c').ownBlock = some g → v.ownBlock = some g ∨ w.heap.size ≤ g) := by
    intro v' w' hr ho hg hb
    have hR : Rw enc k e w' v' (xs ++ ys) := by
      unfold Rw
      rw [List.length_append, List.flatMap_append]
      exact ho
    obtain ⟨a', c', hv⟩ := hR.val
    rw [List.length_append] at hv
    subst hv
    refine ⟨a', c', w', hr, hR, fun S hS => Ext.grown (Ext.refl _ _) hg (fun b hb => Or.inl (hS b hb)), fun g hg' => ?_⟩
    rcases hb with hb | hb
    · left; rw [← hb]; exact hg'
    · right
      rw [hb] at hg'
      injection hg' with hg'
      omega
  rcases hsrc with ⟨rfl, rfl, rfl⟩ | ⟨ad, rfl, hlt, hc⟩
  · have := run_append_owned_none (P := P) (w := w) 0 t ty e i k T.und hi v xs.length _ hrow
    exact fin v w this (by unfold Rw at hrow; simpa using hrow) (World.grownBy.refl _ _) (.inl rfl)
  · have hb := Nat.mul_le_mul h63 hby
    obtain ⟨v', w', hr, ho, hg, _, hb'⟩ := run_append_own_at (P := P) w 0 t ty e i z k i.bytes T.und hi hz hs rfl hzs T.pos v xs.length _ hrow ad ys.length c (ys.flatMap enc) (flat_len N.len ys) hc
      (by intro u hu; obtain ⟨x, _, hx⟩ := List.mem_flatMap.1 hu; exact N.one x u hx) (by unfold maxLen; omega) (by omega) (Nat.zero_le _)
    exact fin v' w' hr ho hg hb'

/-- At the list of a plain region's operations. -/
theorem wpList_appN {ops : Array Oper} {rest : List Oper} {o : Oper} {a : Act} {Q : Exit → Act → World → Prop} {t e : TypeId} (T : ETy P t e k) (N : EncOk enc k) (hgd : o.guard = none) (s x : Operand)
    (ho : o.op = .call { callee := .builtin .append, args := #[s, x], argTypes := #[t, t] })
    (hrow : Rw enc k e w v xs) (hs : a.eval s = v) (hsrc : Sl enc w sv ys) (hx : a.eval x = sv) {m : Nat} (hm : LenIs xs ys m) (h63 : m ≤ 1000000)
    (h : ∀ a' c' w', Rw enc k e w' (.slice a' m c') (xs ++ ys) → (∀ S : List Nat, (∀ b, v.ownBlock = some b → b ∈ S) → Ext S w w') → (∀ g, (Value.slice a' m c').ownBlock = some g → v.ownBlock = some g ∨ w.heap.size ≤ g) →
      wpList P ops Q rest (a.put o.dst (.slice a' m c')) w') :
    wpList P ops Q (o :: rest) a w := by
  unfold LenIs at hm
  subst hm
  refine wpList_plain hgd fun K hK => ?_
  obtain ⟨a', c', w', hr, h1, h2, h3⟩ := run_app (P := P) (ty := o.type) T N hrow hsrc h63
  unfold Oper.wp execOp
  simp only [ho, resolve, invoke, builtin, Sem.run_bind, Sem.run_pure, Result.andThen_ok, List.map_toArray, List.map_cons, List.map_nil, hs, hx, hr]
  exact hK _ _ (h a' c' w' h1 h2 h3)

/-- At a step of a region that draws its order. -/
theorem step_appN {ops : Array Oper} {o : Oper} {a : Act} {K : Act → World → Prop} {Q : Exit → Act → World → Prop} {F : Prop} {t e : TypeId} (T : ETy P t e k) (N : EncOk enc k) (hgd : o.guard = none) (s x : Operand)
    (ho : o.op = .call { callee := .builtin .append, args := #[s, x], argTypes := #[t, t] })
    (hrow : Rw enc k e w v xs) (hs : a.eval s = v) (hsrc : Sl enc w sv ys) (hx : a.eval x = sv) {m : Nat} (hm : LenIs xs ys m) (h63 : m ≤ 1000000)
    (h : ∀ a' c' w', Rw enc k e w' (.slice a' m c') (xs ++ ys) → (∀ S : List Nat, (∀ b, v.ownBlock = some b → b ∈ S) → Ext S w w') → (∀ g, (Value.slice a' m c').ownBlock = some g → v.ownBlock = some g ∨ w.heap.size ≤ g) →
      K (a.put o.dst (.slice a' m c')) w') :
    if Region.wanted o (yielded ops a.tmps) = true then Oper.wp P o a w K Q else F := by
  unfold LenIs at hm
  subst hm
  have hw : Region.wanted o (yielded ops a.tmps) = true := by simp [Region.wanted, hgd]
  rw [if_pos hw]
  obtain ⟨a', c', w', hr, h1, h2, h3⟩ := run_app (P := P) (ty := o.type) T N hrow hsrc h63
  unfold Oper.wp execOp
  simp only [ho, resolve, invoke, builtin, Sem.run_bind, Sem.run_pure, Result.andThen_ok, List.map_toArray, List.map_cons, List.map_nil, hs, hx, hr]
  exact h a' c' w' h1 h2 h3

/-- The cells of one element, laid in a block of their own ahead of an append. -/
theorem Sl.new (w : World) (y : α) (T : TypeId) : Sl enc (w.alloc (.cells (enc y).toArray T (0, 0))) (.slice (some ⟨w.heap.size, 0, none⟩) 1 1) [y] :=
  ⟨_, 1, rfl, .inr ⟨_, rfl, fun _ => by simp, fun j u hu => by rw [new_cells]; simpa using hu⟩⟩
end

/-! ### a row whose cells are moved -/
section
variable {α : Type} {enc : α → List Value} {k : Nat} {E : TypeId} {w w' : World}

theorem putL_beyond : ∀ (vs cs : List Value) (o : Nat), cs.length ≤ o → putL cs o vs = cs
  | [], _, _, _ => rfl
  | v :: r, cs, o, h => by rw [putL, List.set_eq_of_length_le h, putL_beyond r cs (o + 1) (by omega)]

/-- Cells written into a row, within what it holds. -/
theorem Rw.stored {g n cap : Nat} {xs : List α} (h : Rw enc k E w (.slice (some ⟨g, 0, none⟩) n cap) xs) (o : Nat) (vs : List Value) (ys : List α) (hl : ys.length = n)
    (hy : ys.flatMap enc = putL (xs.flatMap enc) o vs) : Rw enc k E (w.setCells g o vs) (.slice (some ⟨g, 0, none⟩) n cap) ys := by
  have hn : n = xs.length := by
    obtain ⟨a, c, hv⟩ := h.val
    injection hv
  unfold Rw
  rw [hl, hy]
  subst hn
  exact stored_cells _ _ _ _ h

/-- Cells written behind a row. -/
theorem Rw.spoilt (hk : ∀ x, (enc x).length = k) {g n cap : Nat} {xs : List α} (h : Rw enc k E w (.slice (some ⟨g, 0, none⟩) n cap) xs) (o : Nat) (vs : List Value) (ho : n * k ≤ o) :
    Rw enc k E (w.setCells g o vs) (.slice (some ⟨g, 0, none⟩) n cap) xs := by
  have hn : n = xs.length := by
    obtain ⟨a, c, hv⟩ := h.val
    injection hv
  exact h.stored o vs xs hn.symm (by rw [putL_beyond]; rw [flat_len hk]; subst hn; exact ho)

/-- One element less: what stands behind it is moved ahead by one. -/
theorem Rw.cut (hk : ∀ x, (enc x).length = k) {g n cap i : Nat} {xs : List α} (h : Rw enc k E w (.slice (some ⟨g, 0, none⟩) n cap) xs) (hi : i < n) :
    Rw enc k E (w.setCells g (i * k) ((xs.drop (i + 1)).flatMap enc)) (.slice (some ⟨g, 0, none⟩) (n - 1) cap) (xs.eraseIdx i) := by
  have hn : n = xs.length := by
    obtain ⟨a, c, hv⟩ := h.val
    injection hv
  subst hn
  obtain ⟨y, hy⟩ : ∃ y, xs.getLast? = some y := by
    cases hq : xs.getLast? with
    | none => rw [List.getLast?_eq_none_iff] at hq; subst hq; simp at hi
    | some y => exact ⟨y, rfl⟩
  have hlen : (xs.eraseIdx i ++ [y]).length = xs.length := by rw [List.length_append, List.length_eraseIdx_of_lt hi]; simp; omega
  have hkey : (xs.eraseIdx i ++ [y]).flatMap enc = putL (xs.flatMap enc) (i * k) ((xs.drop (i + 1)).flatMap enc) := by
    refine List.ext_getElem? fun j => ?_
    have hfl : ((xs.drop (i + 1)).flatMap enc).length = (xs.length - (i + 1)) * k := by rw [flat_len hk, List.length_drop]
    have hsum : i * k + (xs.length - (i + 1)) * k + k = xs.length * k := by
      have : (i + (xs.length - (i + 1)) + 1) * k = xs.length * k := by congr 1; omega
      rw [Nat.add_mul, Nat.add_mul] at this; omega
    rw [putL_get _ _ _ _ (by rw [hfl, flat_len hk]; omega), hfl]
    have hdrop : xs.eraseIdx i = xs.take i ++ xs.drop (i + 1) := List.eraseIdx_eq_take_drop_succ xs i
    rw [hdrop, List.append_assoc, List.flatMap_append, List.flatMap_append]
    have htl : ((xs.take i).flatMap enc).length = i * k := by rw [flat_len hk, List.length_take, Nat.min_eq_left (by omega)]
    by_cases h1 : j < i * k
    · rw [List.getElem?_append_left (by rw [htl]; exact h1), if_neg (by omega), flat_take hk, List.getElem?_take, if_pos h1]
    · rw [List.getElem?_append_right (by rw [htl]; omega), htl]
      by_cases h2 : j < i * k + (xs.length - (i + 1)) * k
      · rw [if_pos ⟨by omega, h2⟩, List.getElem?_append_left (by rw [hfl]; omega)]
      · rw [if_neg (by omega), List.getElem?_append_right (by rw [hfl]; omega), hfl]
        -- the last one stands where it stood
        have hx : xs[xs.length - 1]? = some y := by rw [← List.getLast?_eq_getElem?]; exact hy
        by_cases h3 : j < xs.length * k
        · have := flat_get hk xs (xs.length - 1) y hx (j - (xs.length - 1) * k) (by
            have : (xs.length - 1) * k + k = xs.length * k := by
              have : (xs.length - 1 + 1) * k = xs.length * k := by congr 1; omega
              rw [Nat.add_mul] at this; omega
            omega)
          have he : (xs.length - 1) * k = i * k + (xs.length - (i + 1)) * k := by rw [← Nat.add_mul]; congr 1; omega
          rw [he] at this
          rw [show i * k + (xs.length - (i + 1)) * k + (j - (i * k + (xs.length - (i + 1)) * k)) = j by omega] at this
          rw [this]
          simp only [List.flatMap_cons, List.flatMap_nil, List.append_nil]
          congr 1; omega
        · rw [List.getElem?_eq_none (by simp [hk]; omega), List.getElem?_eq_none (by rw [flat_len hk]; omega)]
  have h1 := h.stored (i * k) _ _ hlen hkey
  have h2 := h1.take hk (m := xs.length - 1) (by rw [hlen]; omega)
  rwa [List.take_append_of_le_length (by rw [List.length_eraseIdx_of_lt hi]; omega), List.take_of_length_le (by rw [List.length_eraseIdx_of_lt hi]; omega)] at h2
end

end Go.Proofs.Ytlnablnnnnkeaaa
