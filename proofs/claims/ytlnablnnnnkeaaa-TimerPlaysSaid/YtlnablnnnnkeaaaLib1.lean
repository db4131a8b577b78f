/- What the library's functions over rows are told by: small lemmas, for the walks of this seat. -/
import Derived.Test.YtlnablnnnnkeaaaRows4
import Derived.Shelf.SlicesQ.Load
import Derived.Lib.Walk
namespace Go.Proofs.Ytlnablnnnnkeaaa
open Go.RowKit
set_option linter.unusedVariables false
set_option linter.unusedSimpArgs false

theorem bytes_inj {a b : ByteArray} : a.toList = b.toList ↔ a = b := by
  rw [ByteArray.toList_eq, ByteArray.toList_eq]
  constructor
  · intro h
    cases a; cases b
    simp at h
    rw [h]
  · intro h; rw [h]
theorem bytes_beq (a b : ByteArray) : (a.toList == b.toList) = decide (a = b) := by
  rw [Bool.eq_iff_iff, beq_iff_eq, decide_eq_true_iff]; exact bytes_inj

/-- What a function value that is a predicate does, behind w. -/
def PredE {α : Type} (P : Program) (g : Nat) (lb : Array Value) (enc : α → List Value) (p : α → Bool) (w : World) : Prop :=
  ∀ (W : World) (x : α), Ext [] w W → Calls P g (#[.agg (enc x).toArray] ++ lb) W fun e w' => e = .returned (.bool (p x)) ∧ Ext [] W w'

/-- Where the first one is of which it is so; -1: there is none. -/
def idxI {α : Type} (p : α → Bool) (xs : List α) : Int := match xs.findIdx? p with | some i => (i : Int) | none => -1

theorem idxI_none {α : Type} {p : α → Bool} {xs : List α} (h : ∀ (j : Nat) x, xs[j]? = some x → p x = false) : idxI p xs = -1 := by
  have : xs.findIdx? p = none := by
    rw [List.findIdx?_eq_none_iff]
    intro x hx
    obtain ⟨j, hj, rfl⟩ := List.mem_iff_getElem.1 hx
    exact h j _ (List.getElem?_eq_getElem hj)
  unfold idxI; rw [this]

theorem idxI_some {α : Type} {p : α → Bool} {xs : List α} {i : Nat} {x : α} (hx : xs[i]? = some x) (hp : p x = true) (h : ∀ (j : Nat) y, j < i → xs[j]? = some y → p y = false) : idxI p xs = i := by
  have hi := (List.getElem?_eq_some_iff.1 hx).1
  have : xs.findIdx? p = some i := by
    rw [List.findIdx?_eq_some_iff_getElem]
    refine ⟨hi, ?_, ?_⟩
    · rw [List.getElem?_eq_getElem hi] at hx; injection hx with hx; rw [hx]; exact hp
    · intro j hj
      rw [h j _ hj (List.getElem?_eq_getElem (by omega))]; simp
  unfold idxI; rw [this]

theorem idxI_spec {α : Type} (p : α → Bool) (xs : List α) : (idxI p xs = -1 ∧ ∀ x ∈ xs, p x = false) ∨ (∃ (i : Nat) (x : α), xs[i]? = some x ∧ p x = true ∧ (∀ (j : Nat) y, j < i → xs[j]? = some y → p y = false) ∧ idxI p xs = (i : Int)) := by
  cases h : xs.findIdx? p with
  | none =>
    left
    refine ⟨by unfold idxI; rw [h], ?_⟩
    rw [List.findIdx?_eq_none_iff] at h
    exact h
  | some i =>
    right
    have h' := h
    rw [List.findIdx?_eq_some_iff_getElem] at h
    obtain ⟨hi, hp, hj⟩ := h
    refine ⟨i, xs[i], List.getElem?_eq_getElem hi, hp, ?_, by unfold idxI; rw [h']⟩
    intro j y hji hy
    have hjl : j < xs.length := by omega
    rw [List.getElem?_eq_getElem hjl] at hy
    injection hy with hy
    have := hj j hji
    rw [hy] at this
    simpa using this

theorem Rw.addr {α : Type} {enc : α → List Value} {k : Nat} {E : TypeId} {w : World} {a : Option Addr} {n cap : Nat} {xs : List α} (h : Rw enc k E w (.slice a n cap) xs) (hn : 0 < n) : ∃ g, a = some ⟨g, 0, none⟩ ∧ g < w.heap.size := by
  obtain ⟨a', c', hv⟩ := h.val
  injection hv with _ hv2 _
  obtain ⟨g, c, hv, hg, _⟩ := h.form (by omega)
  injection hv with hv _ _
  exact ⟨g, hv, hg⟩
theorem Rw.cap_le {α : Type} {enc : α → List Value} {k : Nat} {E : TypeId} {w : World} {a : Option Addr} {n cap : Nat} {xs : List α} (h : Rw enc k E w (.slice a n cap) xs) : n ≤ cap := by
  rcases h.2 with ⟨hv, h0⟩ | ⟨g', cap', cur, hv, _, _, h1, h2, _⟩
  · injection hv with _ h1 _; omega
  · injection hv with _ h3 h4; omega
theorem Rw.len {α : Type} {enc : α → List Value} {k : Nat} {E : TypeId} {w : World} {a : Option Addr} {n cap : Nat} {xs : List α} (h : Rw enc k E w (.slice a n cap) xs) : n = xs.length := by
  obtain ⟨a', c', hv⟩ := h.val
  injection hv

theorem Rw.alloc {α : Type} {enc : α → List Value} {k : Nat} {E : TypeId} {w : World} {v : Value} {xs : List α} (h : Rw enc k E w v xs) (o : Obj) : Rw enc k E (w.alloc o) v xs := h.keep ((Ext.refl [] _).alloc o) (by simp)
theorem Rw.drew {α : Type} {enc : α → List Value} {k : Nat} {E : TypeId} {w : World} {v : Value} {xs : List α} (h : Rw enc k E w v xs) : Rw enc k E w.drew v xs := h
theorem Rw.drewN {α : Type} {enc : α → List Value} {k : Nat} {E : TypeId} {w : World} {v : Value} {xs : List α} (h : Rw enc k E w v xs) (n : Nat) : Rw enc k E (w.drewN n) v xs := h

/-- What 's[i:]' gives. -/
theorem Rw.tailSl {α : Type} {enc : α → List Value} {k : Nat} {E : TypeId} {w : World} {xs : List α} (hk : ∀ x, (enc x).length = k) {g n cap i : Nat} (h : Rw enc k E w (.slice (some ⟨g, 0, none⟩) n cap) xs) (hi : i ≤ n) :
    Sl enc w (.slice (if cap = i then some ⟨g, 0, none⟩ else some ⟨g, i * k, none⟩) (n - i) (cap - i)) (xs.drop i) := by
  by_cases hc : cap = i
  · have := h.cap_le
    rw [if_pos hc, show n - i = 0 by omega]
    exact h.endSl (by omega) 0 _
  · rw [if_neg hc]
    exact h.dropSl hk hi _

/-- The cells of an element, as a load of the whole takes them. -/
theorem Rw.loads {α : Type} {enc : α → List Value} {k : Nat} {E : TypeId} {P : Program} {w : World} {xs : List α} (hk : ∀ x, (enc x).length = k) {g n cap : Nat} (h : Rw enc k E w (.slice (some ⟨g, 0, none⟩) n cap) xs) {i : Nat} {x : α} (hx : xs[i]? = some x) :
    Sem.run P (loadCellsFrom ⟨g, i * k, none⟩ 0 k #[]) w = .ok (enc x).toArray w :=
  Go.Proofs.run_loadCellsFrom_list P _ _ (enc x) k (hk _) (fun j v hj => by
    rw [Addr.add_mk]
    have hjk : j < k := by have := (List.getElem?_eq_some_iff.1 hj).1; rwa [hk] at this
    rw [h.cell hk hx j hjk, hj])

/-- All cells of a whole slice behind 'clear': k cells an element. -/
theorem run_clear_k {P : Program} (w : World) (t e ty : TypeId) (z : Value) (k : Nat) (ht : P.underlying t = some (.slice e)) (hv : ∀ w, (zeroValue e).run P w = .ok z w) (hz : z.cells.size = k) (h1 : ∀ u ∈ z.cells, u.oneCell' = true) (b o n c : Nat) (hn : 0 < n)
    (hc : ∀ j, j < n * k → (w.cell? ⟨b, o + j, none⟩).isSome = true) (hf : ∀ j, j < n * k → w.frozen? ⟨b, o + j, none⟩ = false) :
    (Builtin.clear_ #[t] ty #[.slice (some ⟨b, o, none⟩) n c]).run P w = .ok (.tuple #[]) (w.setCells b o (Builtin.zeroCells z.cells n).toList) := by
  have hsz : (Builtin.zeroCells z.cells n).toList.length = n * k := by rw [Array.length_toList, size_zeroCells, hz]
  have hone : ∀ u ∈ (Builtin.zeroCells z.cells n).toList, u.oneCell' = true := by
    intro u hu
    simp [Builtin.zeroCells] at hu
    obtain ⟨a, ha, rfl⟩ := hu
    by_cases hk : 0 < z.cells.size
    · have hm := Nat.mod_lt a hk
      exact h1 _ (by rw [getElem!_pos z.cells _ hm]; exact Array.getElem_mem hm)
    · have : z.cells.size = 0 := by omega
      rw [this] at ha
      omega
  have hst := run_storeCells_cells (P := P) b o (Builtin.zeroCells z.cells n).toList 0 w (by intro j hj; rw [hsz] at hj; simpa using hc j hj) (by intro j hj; rw [hsz] at hj; simpa using hf j hj) hone
  simp only [Nat.add_zero] at hst
  obtain ⟨m, rfl⟩ : ∃ m, n = m + 1 := ⟨n - 1, by omega⟩
  simp [Builtin.clear_, run_underlying ht, hv, hst]

/-- An element of an array by value, of one cell each. -/
theorem run_index_arr {P : Program} (w : World) (t e : TypeId) (n : Nat) (cs : Array Value) (k : IntKind) (i : Int) (v : Value) (h : P.underlying t = some (.array n e)) (aE : ∀ w, (isAgg e).run P w = .ok false w) (zE : ∀ w, (Go.sizeOf e).run P w = .ok 1 w)
    (h0 : 0 ≤ i) (hi : i < n) (hv : cs[i.toNat]? = some v) : (Instr.index t (.agg cs) (.int k i)).run P w = .ok v w := by
  have hn : 0 ≤ i ∧ i < (n : Int) := ⟨h0, hi⟩
  simp [Instr.index, run_underlying h, asIntOf, hn, go_sem, part, aE, zE, hv]

theorem flat_set1 {α : Type} {enc : α → List Value} {k : Nat} (hk : ∀ x, (enc x).length = k) {j : Nat} (hj : j < k) (u : Value) (y : α) : ∀ (xs : List α) (i : Nat) (x : α), xs[i]? = some x → enc y = (enc x).set j u → (xs.set i y).flatMap enc = (xs.flatMap enc).set (i * k + j) u
  | [], i, x, h, _ => by simp at h
  | z :: xs, 0, x, h, hy => by
    simp at h; subst h
    rw [List.set_cons_zero, List.flatMap_cons, List.flatMap_cons, hy, Nat.zero_mul, Nat.zero_add, List.set_append_left _ _ (by rw [hk]; exact hj)]
  | z :: xs, i + 1, x, h, hy => by
    rw [List.set_cons_succ, List.flatMap_cons, List.flatMap_cons, flat_set1 hk hj u y xs i x (by simpa using h) hy, List.set_append_right _ _ (by rw [hk, Nat.add_mul]; omega), hk]
    congr 2
    rw [Nat.add_mul]; omega

/-- One cell of one element is written. -/
theorem Rw.put1 {α : Type} {enc : α → List Value} {k : Nat} {E : TypeId} {w : World} {xs : List α} (hk : ∀ x, (enc x).length = k) {g n cap : Nat} (h : Rw enc k E w (.slice (some ⟨g, 0, none⟩) n cap) xs) {i j : Nat} (hj : j < k) {x : α} (hx : xs[i]? = some x) (u : Value) (y : α) (hy : enc y = (enc x).set j u) :
    Rw enc k E (w.setCell ⟨g, i * k + j, none⟩ u) (.slice (some ⟨g, 0, none⟩) n cap) (xs.set i y) :=
  h.stored (i * k + j) [u] _ (by rw [List.length_set, h.len]) (by rw [flat_set1 hk hj u y xs i x hx hy]; rfl)
end Go.Proofs.Ytlnablnnnnkeaaa
