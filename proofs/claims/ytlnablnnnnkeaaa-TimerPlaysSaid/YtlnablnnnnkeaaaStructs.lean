/- A slice of structs that comes in, opened to its elements: small lemmas, for the walks of this seat. -/
import Derived.Test.YtlnablnnnnkeaaaCore2
namespace Go.Proofs.Ytlnablnnnnkeaaa
open Go.Joins Go.ChangeShapes Go.WideShapes Go.RowKit Go.Deep
set_option linter.unusedVariables false

theorem exists_list {α : Type} (Q : Nat → α → Prop) : ∀ n : Nat, (∀ i, i < n → ∃ x, Q i x) → ∃ xs : List α, xs.length = n ∧ ∀ i x, xs[i]? = some x → Q i x
  | 0, _ => ⟨[], rfl, fun i x h => by simp at h⟩
  | n + 1, h => by
    obtain ⟨xs, hl, hx⟩ := exists_list Q n (fun i hi => h i (by omega))
    obtain ⟨y, hy⟩ := h n (by omega)
    refine ⟨xs ++ [y], by simp [hl], fun i x hi => ?_⟩
    rcases Nat.lt_or_ge i xs.length with h1 | h1
    · rw [List.getElem?_append_left h1] at hi; exact hx i x hi
    · have : i = n := by
        have := (List.getElem?_eq_some_iff.1 hi).1
        simp at this; omega
      subst this
      rw [List.getElem?_append_right (by omega)] at hi
      simp [hl] at hi
      subst hi; exact hy

theorem addr_of_spot {x : Addr} (h : (x.add 0).spot = none) : ∃ b off, x = ⟨b, off, none⟩ := by
  obtain ⟨b, off, sp⟩ := x
  exact ⟨b, off, by have h' : sp = none := h; rw [h']⟩

theorem list_of_cells {Q : Nat → Value → Prop} (k : Nat) (h : ∀ j, j < k → ∃ v, Q j v) : ∃ cs : List Value, cs.length = k ∧ ∀ j v, cs[j]? = some v → Q j v := exists_list Q k h

section
variable {H : Type} {enc : TypeId × Value → H} {P : Program} {W : World}

/-- What the fields of one element are. -/
def FieldsOf (enc : TypeId × Value → H) (P : Program) (W : World) (fs : Array Field) (cs : List Value) : Prop :=
  cs.length = fs.size ∧ ∀ (j : Nat) (f : Field) (v : Value), fs[j]? = some f → cs[j]? = some v → ∃ (n : Nat) (y : DataW H × List MemPlace), DataW.trod enc P W 0 (fun _ => true) true n f.type [v] = some y

theorem Slc.open_structs {α : Type} {E : α → List Value} {good : α → Prop} {t e : TypeId} {fs : Array Field} {a : Option Addr} {n c : Nat} {d : DataW H} {p : List MemPlace} (ht : P.underlying t = some (.slice e)) (he : P.underlying e = some (.struct fs))
    (hone : oneCellFields P fs = true) (hC : P.cellsOf e = fs.size) (hk0 : 0 < fs.size) (hdec : ∀ cs, FieldsOf enc P W fs cs → ∃ x, E x = cs ∧ good x) (h : DataW.Trod enc P W 0 (fun _ => true) true t (.slice a n c) d p) :
    ∃ zs : List α, Slc E fs.size W a n zs ∧ ∀ z ∈ zs, good z := by
  obtain ⟨fuel, hf⟩ := h
  rcases open_slice_fields ht he hone hC hf with ⟨hcs, _⟩ | ⟨x, l, cp, m, D, Pl, hcs, _, hl, hm, hmm, _, hi⟩
  · simp [Value.cells] at hcs
    obtain ⟨rfl, rfl, rfl⟩ := hcs
    exact ⟨[], ⟨rfl, fun h => absurd h (by omega)⟩, by simp⟩
  · simp [Value.cells] at hcs
    obtain ⟨rfl, rfl, rfl⟩ := hcs
    have hmc : m = c := by simpa using hmm
    subst hmc
    obtain ⟨zs, hzl, hz⟩ := exists_list (fun i (z : α) => good z ∧ ∀ (j : Nat) (v : Value), (E z)[j]? = some v → W.cell? (x.add (i * fs.size + j)) = some v) n (fun i hin => by
      obtain ⟨ys, n', _, _, hyl, hfld⟩ := hi i (by omega)
      obtain ⟨cs, hcl, hcv⟩ := list_of_cells (Q := fun j v => W.cell? (x.add (i * fs.size + j)) = some v ∧ ∀ f, fs[j]? = some f → ∃ (n : Nat) (y : DataW H × List MemPlace), DataW.trod enc P W 0 (fun _ => true) true n f.type [v] = some y) fs.size (fun j hj => by
        obtain ⟨v, y, h1, h2, h3⟩ := hfld j fs[j] (Array.getElem?_eq_getElem hj)
        exact ⟨v, h1, fun f hf => by rw [Array.getElem?_eq_getElem hj] at hf; injection hf with hf; subst hf; exact ⟨n', y, h3⟩⟩)
      obtain ⟨z, hzE, hzg⟩ := hdec cs ⟨hcl, fun j f v hjf hjv => (hcv j v hjv).2 f hjf⟩
      exact ⟨z, hzg, fun j v hjv => (hcv j v (by rw [← hzE]; exact hjv)).1⟩)
    refine ⟨zs, ⟨hzl, fun hn => ?_⟩, fun z hzm => ?_⟩
    · obtain ⟨z0, hz0⟩ : ∃ z0, zs[0]? = some z0 := ⟨_, List.getElem?_eq_getElem (by omega)⟩
      obtain ⟨ys, n', _, _, hyl, hfld⟩ := hi 0 (by omega)
      obtain ⟨v, y, h1, _, _⟩ := hfld 0 fs[0] (Array.getElem?_eq_getElem hk0)
      obtain ⟨b, off, rfl⟩ := addr_of_spot (by have := spot_of_cell h1; rwa [Nat.zero_mul] at this)
      have hadd : ∀ i, (⟨b, off, none⟩ : Addr).add i = ⟨b, off + i, none⟩ := fun i => Addr.add_lit _ _ _
      refine ⟨b, off, rfl, by have := lt_of_cell h1; rw [hadd] at this; exact this, fun i z hiz j v hjv => ?_⟩
      have := (hz i z hiz).2 j v hjv
      rwa [hadd] at this
    · obtain ⟨i, hil, rfl⟩ := List.mem_iff_getElem.1 hzm
      exact (hz i _ (List.getElem?_eq_getElem hil)).1

/-- A slice whose elements take one cell each. -/
theorem Slc.open_cells1 {α : Type} {E : α → List Value} {good : α → Prop} {t e : TypeId} {a : Option Addr} {n c : Nat} {d : DataW H} {p : List MemPlace} (ht : P.underlying t = some (.slice e)) (hC : P.cellsOf e = 1)
    (hdec : ∀ cs (m : Nat) (y : DataW H × List MemPlace), DataW.trod enc P W 0 (fun _ => true) true m e cs = some y → ∃ x, E x = cs ∧ good x) (h : DataW.Trod enc P W 0 (fun _ => true) true t (.slice a n c) d p) :
    ∃ zs : List α, Slc E 1 W a n zs ∧ ∀ z ∈ zs, good z := by
  obtain ⟨fuel, hf⟩ := h
  rcases open_slice ht hf with ⟨hcs, _⟩ | ⟨x, l, cp, m, n', D, Pl, hcs, _, hl, hm, hmm, _, hi⟩
  · simp [Value.cells] at hcs
    obtain ⟨rfl, rfl, rfl⟩ := hcs
    exact ⟨[], ⟨rfl, fun h => absurd h (by omega)⟩, by simp⟩
  · simp [Value.cells] at hcs
    obtain ⟨rfl, rfl, rfl⟩ := hcs
    have hmc : m = c := by simpa using hmm
    subst hmc
    obtain ⟨zs, hzl, hz⟩ := exists_list (fun i (z : α) => good z ∧ ∀ (j : Nat) (v : Value), (E z)[j]? = some v → W.cell? ((x.add (i * 1)).add j) = some v) n (fun i hin => by
      obtain ⟨cs', hc, ht'⟩ := hi i (by omega)
      rw [hC] at hc
      obtain ⟨z, hzE, hzg⟩ := hdec cs' _ _ ht'
      obtain ⟨_, hcl, hat⟩ := World.cells?_some hc
      refine ⟨z, hzg, fun j v hjv => ?_⟩
      rw [hzE] at hjv
      have hj : j < 1 := by rw [← hcl]; exact (List.getElem?_eq_some_iff.1 hjv).1
      rw [hat j hj, hjv])
    refine ⟨zs, ⟨hzl, fun hn => ?_⟩, fun z hzm => ?_⟩
    · obtain ⟨cs', hc, _⟩ := hi 0 (by omega)
      rw [hC] at hc
      obtain ⟨_, hcl, hat⟩ := World.cells?_some hc
      have h1 := hat 0 (by omega)
      obtain ⟨v, hv⟩ : ∃ v, cs'[0]? = some v := ⟨_, List.getElem?_eq_getElem (by omega)⟩
      rw [hv] at h1
      obtain ⟨b, off, rfl⟩ := addr_of_spot (x := x) (by have := spot_of_cell h1; rw [Nat.zero_mul] at this; exact this)
      have hadd : ∀ i, (⟨b, off, none⟩ : Addr).add i = ⟨b, off + i, none⟩ := fun i => Addr.add_lit _ _ _
      refine ⟨b, off, rfl, by have := lt_of_cell h1; rw [hadd, Addr.add_lit] at this; exact this, fun i z hiz j v hjv => ?_⟩
      have := (hz i z hiz).2 j v hjv
      rwa [hadd, Addr.add_lit, Nat.add_assoc] at this
    · obtain ⟨i, hil, rfl⟩ := List.mem_iff_getElem.1 hzm
      exact (hz i _ (List.getElem?_eq_getElem hil)).1

def encB (z : Bool) : List Value := [.bool z]
theorem Slc.open_bool {t e : TypeId} {a : Option Addr} {n c : Nat} {d : DataW H} {p : List MemPlace} (ht : P.underlying t = some (.slice e)) (he : P.underlying e = some .bool) (hC : P.cellsOf e = 1) (h : DataW.Trod enc P W 0 (fun _ => true) true t (.slice a n c) d p) :
    ∃ zs : List Bool, Slc encB 1 W a n zs := by
  obtain ⟨zs, h1, _⟩ := Slc.open_cells1 (E := encB) (good := fun _ => True) ht hC (fun cs m y hy => by
    obtain ⟨b, hb, _⟩ := DataW.trod_bool he hy
    exact ⟨b, hb.symm, trivial⟩) h
  exact ⟨zs, h1⟩
theorem Slc.open_string {t e : TypeId} {a : Option Addr} {n c : Nat} {d : DataW H} {p : List MemPlace} (ht : P.underlying t = some (.slice e)) (he : P.underlying e = some .string) (hC : P.cellsOf e = 1) (h : DataW.Trod enc P W 0 (fun _ => true) true t (.slice a n c) d p) :
    ∃ zs : List ByteArray, Slc (fun s => [Value.string s]) 1 W a n zs ∧ ∀ z ∈ zs, True := by
  exact Slc.open_cells1 (E := fun s => [Value.string s]) (good := fun _ => True) ht hC (fun cs m y hy => by
    obtain ⟨b, hb, _⟩ := DataW.trod_string he hy
    exact ⟨b, hb.symm, trivial⟩) h

theorem FieldsOf.int {fs : Array Field} {cs : List Value} (h : FieldsOf enc P W fs cs) (j : Nat) (f : Field) (k : IntKind) (hf : fs[j]? = some f) (ht : P.underlying f.type = some (.int k)) : ∃ z : Int, cs[j]? = some (.int k z) ∧ (Lit.int k z).wf = true := by
  have hj : j < fs.size := (Array.getElem?_eq_some_iff.1 hf).1
  have hc := List.getElem?_eq_getElem (l := cs) (i := j) (by rw [h.1]; exact hj)
  obtain ⟨n, y, hy⟩ := h.2 j f _ hf hc
  obtain ⟨m, e, -, w⟩ := DataW.trod_int ht hy
  simp only [List.cons.injEq, and_true] at e
  exact ⟨m, by rw [hc, e], w⟩

theorem FieldsOf.str {fs : Array Field} {cs : List Value} (h : FieldsOf enc P W fs cs) (j : Nat) (f : Field) (hf : fs[j]? = some f) (ht : P.underlying f.type = some .string) : ∃ z : ByteArray, cs[j]? = some (.string z) := by
  have hj : j < fs.size := (Array.getElem?_eq_some_iff.1 hf).1
  have hc := List.getElem?_eq_getElem (l := cs) (i := j) (by rw [h.1]; exact hj)
  obtain ⟨n, y, hy⟩ := h.2 j f _ hf hc
  obtain ⟨m, e, -⟩ := DataW.trod_string ht hy
  simp only [List.cons.injEq, and_true] at e
  exact ⟨m, by rw [hc, e]⟩
end
end Go.Proofs.Ytlnablnnnnkeaaa
