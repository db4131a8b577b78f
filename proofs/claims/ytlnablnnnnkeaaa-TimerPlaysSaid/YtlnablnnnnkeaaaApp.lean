/- One element more at the end of a row, at the list of a plain region's operations. -/
import Derived.Test.YtlnablnnnnkeaaaRows3
import Derived.Deep.AppendLies
namespace Go.Proofs.Ytlnablnnnnkeaaa
open Go.RowKit

theorem wpList_app {α : Type} {enc : α → List Value} {k : Nat} (hk : ∀ x, (enc x).length = k) (h1 : ∀ x, ∀ u ∈ enc x, u.oneCell' = true)
    {P : Program} {ops : Array Oper} {rest : List Oper} {o : Oper} {a : Act} {Q : Exit → Act → World → Prop} (hgd : o.guard = none) (s x : Operand) (t : TypeId)
    (ho : o.op = .call { callee := .builtin .append, args := #[s, x], argTypes := #[t, t] })
    (e : TypeId) (i : TypeInfo) (z : Value) (bytes : Nat) (ht : P.underlying t = some (.slice e)) (hi : P.info? e = some i) (hz : i.zero = some z)
    (hsize : i.size = k) (hby : i.bytes = bytes) (hzs : z.cells.size = k) (hsz : 0 < k) {w : World} {v : Value} {xs : List α}
    (hrow : Rw enc k e w v xs) (hs : a.eval s = v) (y : α) (ad : Addr) (c : Nat) (hx : a.eval x = .slice (some ad) 1 c) (hy : ∀ j, j < k → w.cell? (ad.add j) = (enc y)[j]?)
    (h63 : xs.length < 1000000) (hb : bytes ≤ 1000000)
    (h : ∀ g cap w', Rw enc k e w' (.slice (some ⟨g, 0, none⟩) (xs.length + 1) cap) (xs ++ [y]) → (∀ S : List Nat, (∀ b, v.ownBlock = some b → b ∈ S) → Ext S w w') → (v.ownBlock = some g ∨ g = w.heap.size) → g < w'.heap.size → wpList P ops Q rest (a.put o.dst (.slice (some ⟨g, 0, none⟩) (xs.length + 1) cap)) w') :
    wpList P ops Q (o :: rest) a w := by
  refine wpList_append_lies w hgd s x t ho 0 e i z k bytes ht hi hz hsize hby hzs hsz v xs.length (xs.flatMap enc) hs hrow ad 1 c (enc y) hx (by rw [hk]; omega) ?_ (h1 y) (by omega) (by unfold maxLen; omega) ?_ (Nat.zero_le _) w.heap.size rfl ?_
  · intro j u hu
    have hj : j < k := by have := (List.getElem?_eq_some_iff.1 hu).1; rwa [hk] at this
    rw [hy j hj, hu]
  · have := Nat.mul_le_mul (show xs.length + 1 ≤ 1000000 by omega) hb
    omega
  · intro g cap w' hr hg hn hlt
    refine h g cap w' ?_ ?_ hn hlt
    · unfold Rw
      rw [List.length_append, List.flatMap_append]
      simpa using hr
    · intro S hS
      exact Ext.grown (Ext.refl _ _) hg (fun b hb => Or.inl (hS b hb))

/-- The same at a step of a region that draws its order. -/
theorem step_app {α : Type} {enc : α → List Value} {k : Nat} (hk : ∀ x, (enc x).length = k) (h1 : ∀ x, ∀ u ∈ enc x, u.oneCell' = true)
    {P : Program} {ops : Array Oper} {o : Oper} {a : Act} {K : Act → World → Prop} {Q : Exit → Act → World → Prop} {F : Prop} (hgd : o.guard = none) (s x : Operand) (t : TypeId)
    (ho : o.op = .call { callee := .builtin .append, args := #[s, x], argTypes := #[t, t] })
    (e : TypeId) (i : TypeInfo) (z : Value) (bytes : Nat) (ht : P.underlying t = some (.slice e)) (hi : P.info? e = some i) (hz : i.zero = some z)
    (hsize : i.size = k) (hby : i.bytes = bytes) (hzs : z.cells.size = k) (hsz : 0 < k) {w : World} {v : Value} {xs : List α}
    (hrow : Rw enc k e w v xs) (hs : a.eval s = v) (y : α) (ad : Addr) (c : Nat) (hx : a.eval x = .slice (some ad) 1 c) (hy : ∀ j, j < k → w.cell? (ad.add j) = (enc y)[j]?)
    (h63 : xs.length < 1000000) (hb : bytes ≤ 1000000)
    (h : ∀ g cap w', Rw enc k e w' (.slice (some ⟨g, 0, none⟩) (xs.length + 1) cap) (xs ++ [y]) → (∀ S : List Nat, (∀ b, v.ownBlock = some b → b ∈ S) → Ext S w w') → (v.ownBlock = some g ∨ g = w.heap.size) → g < w'.heap.size → K (a.put o.dst (.slice (some ⟨g, 0, none⟩) (xs.length + 1) cap)) w') :
    if Region.wanted o (yielded ops a.tmps) = true then Oper.wp P o a w K Q else F := by
  refine step_append_lies w hgd s x t ho 0 e i z k bytes ht hi hz hsize hby hzs hsz v xs.length (xs.flatMap enc) hs hrow ad 1 c (enc y) hx (by rw [hk]; omega) ?_ (h1 y) (by omega) (by unfold maxLen; omega) ?_ (Nat.zero_le _) w.heap.size rfl ?_
  · intro j u hu
    have hj : j < k := by have := (List.getElem?_eq_some_iff.1 hu).1; rwa [hk] at this
    rw [hy j hj, hu]
  · have := Nat.mul_le_mul (show xs.length + 1 ≤ 1000000 by omega) hb
    omega
  · intro g cap w' hr hg hn hlt
    refine h g cap w' ?_ ?_ hn hlt
    · unfold Rw
      rw [List.length_append, List.flatMap_append]
      simpa using hr
    · intro S hS
      exact Ext.grown (Ext.refl _ _) hg (fun b hb => Or.inl (hS b hb))

/-- The cells of a block that was just made. -/
theorem new_cells (w : World) (vs : List Value) (T : TypeId) (j : Nat) : (w.alloc (.cells vs.toArray T (0, 0))).cell? (Addr.add ⟨w.heap.size, 0, none⟩ j) = vs[j]? := by
  have := (Blk.new w vs.toArray T).cell j
  rw [List.getElem?_toArray] at this
  rw [← this]
  congr 1
  rcases j with _ | j
  · rfl
  · simp [Addr.add]
end Go.Proofs.Ytlnablnnnnkeaaa
