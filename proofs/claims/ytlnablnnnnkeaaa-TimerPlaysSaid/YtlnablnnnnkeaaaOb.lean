/- A struct of the program's own that holds one row: small lemmas, for the walks of this seat. -/
import Derived.Test.YtlnablnnnnkeaaaLib1
namespace Go.Proofs.Ytlnablnnnnkeaaa
open Go.RowKit
set_option linter.unusedVariables false
set_option linter.unusedSimpArgs false

/-- The struct at b has the cells cs v; v is a row of elements xs. -/
structure Ob {α : Type} (enc : α → List Value) (k : Nat) (E : TypeId) (cs : Value → Array Value) (T : TypeId) (w : World) (b : Nat) (v : Value) (xs : List α) : Prop where
  blk : Blk w b (cs v) T
  row : Rw enc k E w v xs
  ne : v.ownBlock ≠ some b

section
variable {α : Type} {enc : α → List Value} {k : Nat} {E T : TypeId} {cs : Value → Array Value} {w w' : World} {b : Nat} {v v' : Value} {xs ys : List α}

theorem Ob.keep {S : List Nat} (h : Ob enc k E cs T w b v xs) (he : Ext S w w') (hS : ∀ x ∈ b :: v.ownBlock.toList, x ∉ S) : Ob enc k E cs T w' b v xs :=
  ⟨h.blk.keep he (hS b (by simp)), h.row.keep he (fun g hg => hS g (by simp [hg])), h.ne⟩

theorem Ob.lt (h : Ob enc k E cs T w b v xs) : ∀ x ∈ b :: v.ownBlock.toList, x < w.heap.size := by
  intro x hx
  rcases List.mem_cons.1 hx with rfl | hx
  · exact h.blk.lt
  · exact h.row.lt x (by simpa using hx)

/-- The row is set to another value. -/
theorem Ob.put {i : Nat} (hb : Blk w b (cs v) T) (hr : Rw enc k E w v' ys) (hn : v'.ownBlock ≠ some b) (hcs : (cs v).setIfInBounds i v' = cs v') : Ob enc k E cs T (w.setCell ⟨b, i, none⟩ v') b v' ys := by
  refine ⟨?_, hr.keep (Ext.setCell (S := [b]) (Ext.refl _ _) (Or.inl (by simp)) _) (by simp; intro g hg e; exact hn (by rw [hg, e])), hn⟩
  have := hb.set i v'
  rwa [hcs] at this

theorem Ob.blk_of (h : Ob enc k E cs T w b v xs) {w0 w1 : World} (he : Ext [] w w0) (hS : ∀ S : List Nat, (∀ g, v.ownBlock = some g → g ∈ S) → Ext S w0 w1) : Blk w1 b (cs v) T :=
  (h.blk.keep he (by simp)).keep (hS v.ownBlock.toList (by simp +contextual)) (by intro hm; exact h.ne (by simpa using hm))

/-- Behind an append and a store of what it gives. -/
theorem Ob.appended (h : Ob enc k E cs T w b v xs) {w0 w1 : World} (he : Ext [] w w0) (hr : Rw enc k E w1 v' ys) (hS : ∀ S : List Nat, (∀ g, v.ownBlock = some g → g ∈ S) → Ext S w0 w1)
    (hg : ∀ g, v'.ownBlock = some g → v.ownBlock = some g ∨ w.heap.size ≤ g) (i : Nat) (hcs : (cs v).setIfInBounds i v' = cs v') :
    Ob enc k E cs T (w1.setCell ⟨b, i, none⟩ v') b v' ys ∧ Ext (b :: v.ownBlock.toList) w (w1.setCell ⟨b, i, none⟩ v') ∧ (∀ x ∈ b :: v'.ownBlock.toList, x ∈ b :: v.ownBlock.toList ∨ w.heap.size ≤ x) := by
  have hb1 := h.blk_of he hS
  have hlt := h.blk.lt
  have hsz := he.size
  refine ⟨Ob.put hb1 hr ?_ hcs, ?_, ?_⟩
  · intro e
    rcases hg b e with h1 | h1
    · exact h.ne h1
    · omega
  · refine Ext.setCell ?_ (Or.inl (by simp)) _
    exact (he.mono (T := b :: v.ownBlock.toList) (by simp)).trans (hS (b :: v.ownBlock.toList) (by simp +contextual)) (fun _ hq => Or.inl hq)
  · intro x hx
    rcases List.mem_cons.1 hx with rfl | hx
    · exact .inl (by simp)
    · rcases hg x (by simpa using hx) with h1 | h1
      · exact .inl (by simp [h1])
      · exact .inr (by omega)

theorem Ob.blk_at (h : Ob enc k E cs T w b v xs) {w1 : World} {g : Nat} (hvg : v.ownBlock = some g) (he : Ext [g] w w1) : Blk w1 b (cs v) T :=
  h.blk.keep he (by simp; intro e; exact h.ne (by rw [hvg, e]))

/-- Behind a change of the row in its place, and a store of what it gives. -/
theorem Ob.changed (h : Ob enc k E cs T w b v xs) {w1 : World} {g : Nat} (hvg : v.ownBlock = some g) (hvg' : v'.ownBlock = some g) (hr : Rw enc k E w1 v' ys) (he : Ext [g] w w1) (i : Nat) (hcs : (cs v).setIfInBounds i v' = cs v') :
    Ob enc k E cs T (w1.setCell ⟨b, i, none⟩ v') b v' ys ∧ Ext (b :: v.ownBlock.toList) w (w1.setCell ⟨b, i, none⟩ v') := by
  have hgb : g ≠ b := fun e => h.ne (by rw [hvg, e])
  refine ⟨Ob.put (h.blk.keep he (by simp; exact fun e => hgb e.symm)) hr ?_ hcs, ?_⟩
  · rw [hvg']; intro e; injection e with e; exact hgb e
  · refine Ext.setCell ?_ (Or.inl (by simp)) _
    exact he.mono (by simp [hvg])

theorem own_fresh {a b c : World} {S : List Nat} (h : Ext [] a b) (k : Ext S b c) (hS : ∀ x ∈ S, a.heap.size ≤ x) : Ext [] a c := h.trans k (fun x hx => .inr (hS x hx))
theorem Ext.fresh {a b c : World} {S : List Nat} (h : Ext [] a b) (k : Ext S b c) (hS : ∀ x ∈ S, a.heap.size ≤ x) : Ext [] a c := h.trans k (fun x hx => .inr (hS x hx))
theorem own_ge {S S' : List Nat} {N M : Nat} (h : ∀ x ∈ S, N ≤ x) (k : ∀ x ∈ S', x ∈ S ∨ M ≤ x) (hM : N ≤ M) : ∀ x ∈ S', N ≤ x := fun x hx => by
  rcases k x hx with h1 | h1
  · exact h x h1
  · omega
end

/-- The same, its own blocks told as a list. -/
def OO {α : Type} (enc : α → List Value) (k : Nat) (E : TypeId) (cs : Value → Array Value) (T : TypeId) (w : World) (b : Nat) (S : List Nat) (xs : List α) : Prop :=
  ∃ v, Ob enc k E cs T w b v xs ∧ S = b :: v.ownBlock.toList

section
variable {α : Type} {enc : α → List Value} {k : Nat} {E T : TypeId} {cs : Value → Array Value} {w w' : World} {b : Nat} {S R : List Nat} {xs ys : List α}
theorem OO.keep (h : OO enc k E cs T w b S xs) (he : Ext R w w') (hS : ∀ x ∈ S, x ∉ R) : OO enc k E cs T w' b S xs := by
  obtain ⟨v, h, rfl⟩ := h
  exact ⟨v, h.keep he hS, rfl⟩
theorem OO.keep0 (h : OO enc k E cs T w b S xs) (he : Ext [] w w') : OO enc k E cs T w' b S xs := h.keep he (by simp)
theorem OO.lt (h : OO enc k E cs T w b S xs) : ∀ x ∈ S, x < w.heap.size := by
  obtain ⟨v, h, rfl⟩ := h
  exact h.lt
theorem OO.drew (h : OO enc k E cs T w b S xs) : OO enc k E cs T w.drew b S xs := h.keep0 (Ext.refl [] w).drew
/-- What lies apart stays. -/
theorem OO.keep_ge (h : OO enc k E cs T w b S xs) (he : Ext R w w') {N : Nat} (hS : ∀ x ∈ S, x < N) (hR : ∀ x ∈ R, N ≤ x) : OO enc k E cs T w' b S xs :=
  h.keep he (fun x hx hr => by have := hS x hx; have := hR x hr; omega)
end

theorem fresh_app {w w1 w2 : World} {v1 : Value} (e1 : Ext [] w w1) (hg1 : ∀ g, v1.ownBlock = some g → w.heap.size ≤ g) (hS2 : ∀ S : List Nat, (∀ g, v1.ownBlock = some g → g ∈ S) → Ext S w1 w2) : Ext [] w w2 :=
  e1.fresh (hS2 v1.ownBlock.toList (by simp +contextual)) (by intro x hx; exact hg1 x (by simpa using hx))

/-- The row is set to a new one. -/
theorem Ob.replaced {α : Type} {enc : α → List Value} {k : Nat} {E T : TypeId} {cs : Value → Array Value} {w w2 : World} {b : Nat} {v v' : Value} {xs ys : List α} (h : Ob enc k E cs T w b v xs) (he : Ext [] w w2) (hr : Rw enc k E w2 v' ys)
    (hg : ∀ g, v'.ownBlock = some g → w.heap.size ≤ g) (i : Nat) (hcs : (cs v).setIfInBounds i v' = cs v') :
    Ob enc k E cs T (w2.setCell ⟨b, i, none⟩ v') b v' ys ∧ Ext [b] w (w2.setCell ⟨b, i, none⟩ v') ∧ (∀ x ∈ b :: v'.ownBlock.toList, x ∈ b :: v.ownBlock.toList ∨ w.heap.size ≤ x) := by
  have hlt := h.blk.lt
  refine ⟨Ob.put (h.blk.keep he (by simp)) hr ?_ hcs, (he.mono (T := [b]) (by simp)).setCell (Or.inl (by simp)) _, ?_⟩
  · intro e; have := hg b e; omega
  · intro x hx
    rcases List.mem_cons.1 hx with rfl | hx
    · exact .inl (by simp)
    · exact .inr (hg x (by simpa using hx))

/-- The object whose own blocks were S is changed; Q tells what it is now (a definition of its own: the walk does not turn it). -/
def Chg (Q : World → List Nat → Prop) (S : List Nat) (w w' : World) : Prop := ∃ S', Q w' S' ∧ Ext S w w' ∧ (∀ x ∈ S', x ∈ S ∨ w.heap.size ≤ x)

/-- Since w0 only new blocks were made or written; S are some of them. -/
structure Own (w0 w : World) (S : List Nat) : Prop where
  ext : Ext [] w0 w
  ge : ∀ x ∈ S, w0.heap.size ≤ x

theorem Own.start {w0 w : World} {S : List Nat} (h : Ext [] w0 w) (hS : ∀ x ∈ S, w0.heap.size ≤ x) : Own w0 w S := ⟨h, hS⟩
theorem Own.step {w0 w w' : World} {S S' : List Nat} (h : Own w0 w S) (he : Ext S w w') (k : ∀ x ∈ S', x ∈ S ∨ w.heap.size ≤ x) : Own w0 w' S' := ⟨h.ext.fresh he h.ge, own_ge h.ge k h.ext.size⟩
theorem Own.quiet {w0 w w' : World} {S : List Nat} (h : Own w0 w S) (he : Ext [] w w') : Own w0 w' S := ⟨h.ext.trans he (by simp), h.ge⟩
theorem Own.same {w0 w w' : World} {S : List Nat} (h : Own w0 w S) (he : Ext S w w') : Own w0 w' S := h.step he (fun _ h => .inl h)

/-- The same for two objects, which have nothing in common. -/
structure Own2 (w0 w : World) (S R : List Nat) : Prop where
  ext : Ext [] w0 w
  ges : ∀ x ∈ S, w0.heap.size ≤ x
  ger : ∀ x ∈ R, w0.heap.size ≤ x
  ne : ∀ x ∈ S, x ∉ R

theorem Own2.start {w0 w w' : World} {S R : List Nat} (h : Own w0 w S) (hS : ∀ x ∈ S, x < w.heap.size) (he : Ext [] w w') (hR : ∀ x ∈ R, w.heap.size ≤ x) : Own2 w0 w' S R :=
  ⟨h.ext.trans he (by simp), h.ge, fun x hx => Nat.le_trans h.ext.size (hR x hx), fun x hx hr => by have := hS x hx; have := hR x hr; omega⟩
theorem Own2.quiet {w0 w w' : World} {S R : List Nat} (h : Own2 w0 w S R) (he : Ext [] w w') : Own2 w0 w' S R := ⟨h.ext.trans he (by simp), h.ges, h.ger, h.ne⟩
theorem Own2.left {w0 w w' : World} {S S' R : List Nat} (h : Own2 w0 w S R) (hR : ∀ x ∈ R, x < w.heap.size) (he : Ext S w w') (k : ∀ x ∈ S', x ∈ S ∨ w.heap.size ≤ x) : Own2 w0 w' S' R :=
  ⟨h.ext.fresh he h.ges, own_ge h.ges k h.ext.size, h.ger, fun x hx hr => (k x hx).elim (fun hs => h.ne x hs hr) (fun hs => by have := hR x hr; omega)⟩
theorem Own2.right {w0 w w' : World} {S R R' : List Nat} (h : Own2 w0 w S R) (hS : ∀ x ∈ S, x < w.heap.size) (he : Ext R w w') (k : ∀ x ∈ R', x ∈ R ∨ w.heap.size ≤ x) : Own2 w0 w' S R' :=
  ⟨h.ext.fresh he h.ger, h.ges, own_ge h.ger k h.ext.size, fun x hx hr => (k x hr).elim (fun hs => h.ne x hx hs) (fun hs => by have := hS x hx; omega)⟩
theorem own_ne {R R' : List Nat} {B N : Nat} (h : ∀ x ∈ R, x ≠ B) (k : ∀ x ∈ R', x ∈ R ∨ N ≤ x) (hB : B < N) : ∀ x ∈ R', x ≠ B := fun x hx => (k x hx).elim (fun h1 => h x h1) (fun h1 => by omega)
end Go.Proofs.Ytlnablnnnnkeaaa
