/- Worlds that differ in a list of blocks alone, and blocks that are known whole: small lemmas, for the walks of this seat. -/
import Derived.Test.YtlnablnnnnkeaaaRows
import Derived.WalkKit
import Derived.WalkLawsBesides
import Derived.WalkSpells
import Derived.Lib.Hide
import Derived.Outline
import Derived.Deep.QuietTactic
import Derived.BigQuiet
import Derived.Deep.RegionHeld3
import Derived.ProofKit
import Derived.OpenShut
import Derived.ChangeOld
import Derived.SizedLaws
namespace Go.Proofs.Ytlnablnnnnkeaaa
open Go.RowKit

/-- Of what was there, the blocks of S alone may have changed; no block has gone. -/
structure Ext (S : List Nat) (w w' : World) : Prop where
  os : w'.os = w.os
  tape : w'.tape = w.tape
  output : w'.output = w.output
  size : w.heap.size ≤ w'.heap.size
  block : ∀ k, k < w.heap.size → k ∉ S → w'.heap[k]? = w.heap[k]?

theorem Ext.refl (S : List Nat) (w : World) : Ext S w w := ⟨rfl, rfl, rfl, Nat.le_refl _, fun _ _ _ => rfl⟩

theorem Ext.trans {S T : List Nat} {a b c : World} (h : Ext S a b) (k : Ext T b c) (hT : ∀ x ∈ T, x ∈ S ∨ a.heap.size ≤ x) : Ext S a c :=
  ⟨k.os.trans h.os, k.tape.trans h.tape, k.output.trans h.output, Nat.le_trans h.size k.size, fun i hi hn =>
    (k.block i (Nat.lt_of_lt_of_le hi h.size) (fun hm => (hT i hm).elim hn (fun hle => by omega))).trans (h.block i hi hn)⟩

theorem Ext.mono {S T : List Nat} {a b : World} (h : Ext S a b) (hS : ∀ x ∈ S, x ∈ T ∨ a.heap.size ≤ x) : Ext T a b :=
  ⟨h.os, h.tape, h.output, h.size, fun i hi hn => h.block i hi (fun hm => (hS i hm).elim hn (fun hle => by omega))⟩

theorem Ext.drew {S : List Nat} {a w : World} (h : Ext S a w) : Ext S a w.drew := ⟨h.os, h.tape, h.output, h.size, h.block⟩

theorem Ext.of_drew {S : List Nat} {a w : World} (h : Ext S a.drew w) : Ext S a w := ⟨h.os, h.tape, h.output, h.size, h.block⟩
theorem Ext.of_drew_left {S : List Nat} {a w : World} (h : Ext S a w) : Ext S a.drew w := ⟨h.os, h.tape, h.output, h.size, h.block⟩
theorem Ext.of_drewN {S : List Nat} {a w : World} {n : Nat} (h : Ext S (a.drewN n) w) : Ext S a w := ⟨h.os, h.tape, h.output, h.size, h.block⟩

theorem Ext.drewN {S : List Nat} {a w : World} (h : Ext S a w) (n : Nat) : Ext S a (w.drewN n) := ⟨h.os, h.tape, h.output, h.size, h.block⟩

theorem Ext.alloc {S : List Nat} {a w : World} (h : Ext S a w) (o : Obj) : Ext S a (w.alloc o) :=
  ⟨h.os, h.tape, h.output, Nat.le_trans h.size (by simp), fun i hi hn =>
    (Below.heap_alloc w o i (Nat.lt_of_lt_of_le hi h.size)).trans (h.block i hi hn)⟩

theorem Ext.setCell {S : List Nat} {a w : World} (h : Ext S a w) {p : Addr} (hp : p.block ∈ S ∨ a.heap.size ≤ p.block) (u : Value) : Ext S a (w.setCell p u) :=
  ⟨h.os, h.tape, h.output, Nat.le_trans h.size (by simp [World.setCell]), fun i hi hn =>
    (Below.heap_setCell w p u i (fun e => by subst e; exact hp.elim hn (fun hle => by omega))).trans (h.block i hi hn)⟩

theorem Ext.grown {S : List Nat} {a w w' : World} {row : Option Nat} (h : Ext S a w) (hg : w.grownBy w' row) (hr : ∀ k, row = some k → k ∈ S ∨ a.heap.size ≤ k) : Ext S a w' :=
  ⟨hg.os.trans h.os, hg.tape.trans h.tape, hg.output.trans h.output, Nat.le_trans h.size hg.size, fun i hi hn =>
    (hg.block i (Nat.lt_of_lt_of_le hi h.size) (fun e => (hr i e.symm).elim hn (fun hle => by omega))).trans (h.block i hi hn)⟩

theorem Ext.of_below {a w : World} (h : Below a.heap.size a w) : Ext [] a w := ⟨h.os, h.tape, h.output, h.size, fun i hi _ => h.block i hi⟩

theorem Ext.below {S : List Nat} {B : Nat} {a w : World} (h : Ext S a w) (hB : B ≤ a.heap.size) (hS : ∀ x ∈ S, B ≤ x) : Below B a w :=
  ⟨h.os, h.tape, h.output, h.size, fun i hi => h.block i (by omega) (fun hm => by have := hS i hm; omega)⟩

theorem Ext.cell {S : List Nat} {w w' : World} (h : Ext S w w') {p : Addr} (hp : p.block < w.heap.size) (hS : p.block ∉ S) : w'.cell? p = w.cell? p :=
  World.cell?_of_block (w := w) (h.block p.block hp hS)

theorem Ext.frozen {S : List Nat} {w w' : World} (h : Ext S w w') {p : Addr} (hp : p.block < w.heap.size) (hS : p.block ∉ S) : w'.frozen? p = w.frozen? p :=
  World.frozen?_of_block (w := w) (h.block p.block hp hS)

theorem ret_bool {a b : Bool} (h : b = a) : Ending.returned (.bool a) = .returned (.bool b) := by rw [h]
theorem ret_int {k : IntKind} {a b : Int} (h : b = a) : Ending.returned (.int k a) = .returned (.int k b) := by rw [h]
theorem ret_str {a b : ByteArray} (h : b = a) : Ending.returned (.string a) = .returned (.string b) := by rw [h]

/-- Block b is just the cells cs, of type T, none of them frozen. -/
def Blk (w : World) (b : Nat) (cs : Array Value) (T : TypeId) : Prop := w.heap[b]? = some (.cells cs T (0, 0))

theorem Blk.lt {w : World} {b : Nat} {cs : Array Value} {T : TypeId} (h : Blk w b cs T) : b < w.heap.size := by
  rcases Nat.lt_or_ge b w.heap.size with h' | h'
  · exact h'
  · unfold Blk at h; rw [Array.getElem?_eq_none h'] at h; cases h

theorem Blk.cell {w : World} {b : Nat} {cs : Array Value} {T : TypeId} (h : Blk w b cs T) (i : Nat) : w.cell? ⟨b, i, none⟩ = cs[i]? := by
  unfold Blk at h; simp [World.cell?, h]

theorem Blk.free {w : World} {b : Nat} {cs : Array Value} {T : TypeId} (h : Blk w b cs T) (i : Nat) : w.frozen? ⟨b, i, none⟩ = false := by
  unfold Blk at h; simp [World.frozen?, h]

theorem Blk.keep {S : List Nat} {w w' : World} {b : Nat} {cs : Array Value} {T : TypeId} (h : Blk w b cs T) (he : Ext S w w') (hS : b ∉ S) : Blk w' b cs T :=
  (he.block b h.lt hS).trans h

theorem Blk.set {w : World} {b : Nat} {cs : Array Value} {T : TypeId} (h : Blk w b cs T) (i : Nat) (v : Value) : Blk (w.setCell ⟨b, i, none⟩ v) b (cs.setIfInBounds i v) T := by
  have h' := h.lt
  unfold Blk at *
  simp [World.setCell, Array.getElem?_modify, h]

theorem Blk.set_ne {w : World} {b : Nat} {cs : Array Value} {T : TypeId} (h : Blk w b cs T) {p : Addr} (hp : p.block ≠ b) (v : Value) : Blk (w.setCell p v) b cs T := by
  unfold Blk at *
  rw [Below.heap_setCell w p v b (Ne.symm hp)]; exact h

theorem Blk.alloc {w : World} {b : Nat} {cs : Array Value} {T : TypeId} (h : Blk w b cs T) (o : Obj) : Blk (w.alloc o) b cs T := by
  have h' := h.lt
  unfold Blk at *
  rw [Below.heap_alloc w o b h']; exact h

theorem Blk.drew {w : World} {b : Nat} {cs : Array Value} {T : TypeId} (h : Blk w b cs T) : Blk w.drew b cs T := h

theorem Blk.drewN {w : World} {b : Nat} {cs : Array Value} {T : TypeId} (h : Blk w b cs T) (n : Nat) : Blk (w.drewN n) b cs T := h

theorem Blk.new (w : World) (cs : Array Value) (T : TypeId) : Blk (w.alloc (.cells cs T (0, 0))) w.heap.size cs T := by
  show (w.heap.push _)[w.heap.size]? = _
  simp

/-- A slice with n elements of k cells each, the elements told by xs. -/
def Slc {α : Type} (enc : α → List Value) (k : Nat) (w : World) (a : Option Addr) (n : Nat) (xs : List α) : Prop :=
  xs.length = n ∧ (0 < n → ∃ b off, a = some ⟨b, off, none⟩ ∧ b < w.heap.size ∧
    ∀ (i : Nat) (x : α), xs[i]? = some x → ∀ (j : Nat) (v : Value), (enc x)[j]? = some v → w.cell? ⟨b, off + (i * k + j), none⟩ = some v)

theorem Slc.keep {α : Type} {enc : α → List Value} {k : Nat} {w w' : World} {a : Option Addr} {n : Nat} {xs : List α} (h : Slc enc k w a n xs) (he : Ext [] w w') : Slc enc k w' a n xs := by
  refine ⟨h.1, fun hn => ?_⟩
  obtain ⟨b, off, ha, hb, hc⟩ := h.2 hn
  exact ⟨b, off, ha, Nat.lt_of_lt_of_le hb he.size, fun i x hx j v hv => (he.cell (p := ⟨b, off + (i * k + j), none⟩) hb (by simp)).trans (hc i x hx j v hv)⟩

def encI (k : IntKind) (z : Int) : List Value := [.int k z]

/-- An element of a slice of whole numbers: where it lies. -/
theorem Slc.int {k : IntKind} {w : World} {a : Option Addr} {n : Nat} {xs : List Int} (h : Slc (encI k) 1 w a n xs) :
    0 < n → ∃ b off, a = some ⟨b, off, none⟩ ∧ b < w.heap.size ∧ ∀ i z, xs[i]? = some z → w.cell? ⟨b, off + i, none⟩ = some (.int k z) := by
  intro hn
  obtain ⟨b, off, ha, hb, hc⟩ := h.2 hn
  exact ⟨b, off, ha, hb, fun i z hz => by have := hc i z hz 0 (.int k z) rfl; simpa using this⟩

theorem Slc.int_at {k : IntKind} {w : World} {a : Option Addr} {n : Nat} {xs : List Int} (h : Slc (encI k) 1 w a n xs) :
    ∃ b off, ∀ i z, xs[i]? = some z → a = some ⟨b, off, none⟩ ∧ b < w.heap.size ∧ w.cell? ⟨b, off + i, none⟩ = some (.int k z) := by
  by_cases hn : 0 < n
  · obtain ⟨b, off, ha, hb, hc⟩ := h.int hn
    exact ⟨b, off, fun i z hz => ⟨ha, hb, hc i z hz⟩⟩
  · have : xs = [] := List.length_eq_zero_iff.1 (by have := h.1; omega)
    subst this
    exact ⟨0, 0, fun i z hz => by simp at hz⟩

/-! ### What comes in -/
section
open Go.ChangeShapes Go.WideShapes Go.ChangeAt

theorem lt_of_cell {w : World} {p : Addr} {v : Value} (h : w.cell? p = some v) : p.block < w.heap.size := by
  rcases Nat.lt_or_ge p.block w.heap.size with h' | h'
  · exact h'
  · simp [World.cell?, Array.getElem?_eq_none h'] at h

theorem spot_of_cell {w : World} {p : Addr} {v : Value} (h : w.cell? p = some v) : p.spot = none := by
  unfold World.cell? at h
  split at h
  · split at h
    · cases h
    · rename_i hs
      simpa using hs
  · cases h

theorem Slc.open_int {H : Type} {enc : TypeId × Value → H} {P : Program} {W : World} {t e : TypeId} {k : IntKind} {a : Option Addr} {n c : Nat} {d : DataW H} {p : List MemPlace}
    (ht : P.underlying t = some (.slice e)) (he : P.underlying e = some (.int k)) (hc : P.cellsOf e = 1) (h : DataW.Trod enc P W 0 (fun _ => true) true t (.slice a n c) d p) :
    ∃ zs : List Int, Slc (encI k) 1 W a n zs ∧ ∀ z ∈ zs, (Lit.int k z).wf = true := by
  obtain ⟨fuel, hf⟩ := h
  rcases open_ints ht he hc hf with ⟨hcs, _⟩ | ⟨x, l, cp, zs, hcs, _, hl, hm, hz, _, hcell, hwz⟩
  · simp [Value.cells] at hcs
    obtain ⟨rfl, rfl, rfl⟩ := hcs
    exact ⟨[], ⟨rfl, fun h => absurd h (by omega)⟩, by simp⟩
  · simp [Value.cells] at hcs
    obtain ⟨rfl, rfl, rfl⟩ := hcs
    have hz' : zs.length = c := by simpa using hz
    refine ⟨zs.take n, ⟨by simp; omega, fun hn => ?_⟩, fun z hzm => hwz z (List.mem_of_mem_take hzm)⟩
    have h0 := hcell 0 (by omega)
    obtain ⟨b, off, sp⟩ := x
    have hadd : ∀ i, (⟨b, off, sp⟩ : Addr).add i = ⟨b, off + i, sp⟩ := by
      intro i
      have h1 := spot_of_cell h0
      unfold Addr.add at h1 ⊢
      split <;> simp_all
    have hsp : sp = none := by have := spot_of_cell h0; rw [hadd] at this; exact this
    subst hsp
    refine ⟨b, off, rfl, by have := lt_of_cell h0; rw [hadd] at this; exact this, fun i z hi j v hv => ?_⟩
    have hi2 : i < n ∧ zs[i]? = some z := by
      rw [List.getElem?_take] at hi
      split at hi
      · exact ⟨‹_›, hi⟩
      · cases hi
    match j, hv with
    | 0, hv =>
      have hv' : Value.int k z = v := by simpa [encI] using hv
      have := hcell i (by omega)
      rw [hadd] at this
      rw [show off + (i * 1 + 0) = off + i by omega, this, ← hv']
      simp [List.getD_eq_getElem?_getD, hi2.2]

end

end Go.Proofs.Ytlnablnnnnkeaaa
