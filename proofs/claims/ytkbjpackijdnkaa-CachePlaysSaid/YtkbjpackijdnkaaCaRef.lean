/- The document's Method and Header tell what the cache's do: the plain law. -/
import Derived.Test.YtkbjpackijdnkaaCaPure
import Derived.Test.YtkbjpackijdnkaaRefCache2
namespace Go.Proofs.Ytkbjpackijdnkaa
open Go.RowKit
set_option linter.unusedVariables false
set_option linter.unusedSimpArgs false

/-- Each entry has a method or a header, not both, not none. -/
def KindOk (xs : List Ent) : Prop := ∀ e ∈ xs, (decide (e.meth = emp) == decide (e.head = emp)) = false
def rmethE (c : Cel) (m : ByteArray) (now : Int) (e : Ent) : Bool := ofCell c e && decide (now < e.til) && decide (e.head = emp) && (decide (e.meth = m) || (decide (e.meth = star) && !c.creds))
def rheadE (c : Cel) (l : ByteArray) (now : Int) (e : Ent) : Bool := ofCell c e && decide (now < e.til) && decide (e.meth = emp) && (decide (e.head = l) || (decide (e.head = star) && !c.creds && !(l.toList == secret.toList)))
theorem emp_isEmpty (z : ByteArray) : z.toList.isEmpty = decide (z = emp) := by
  rw [← bytes_beq, show emp.toList = [] by rw [ByteArray.toList_eq]; rfl]
  cases z.toList <;> rfl
theorem goodM_eq (c : Cel) (m : ByteArray) (now : Int) (e : Ent) : goodE (entM c m) now e = (ofCell c e && decide (now < e.til) && decide (e.head = emp) && decide (e.meth = m)) := by
  unfold goodE sameE ofCell entM
  simp only
  cases decide (e.org = c.org) <;> cases decide (e.url = c.url) <;> cases (e.creds == c.creds) <;> cases decide (e.meth = m) <;> cases decide (e.head = emp) <;> cases decide (now < e.til) <;> rfl
theorem goodH_eq (c : Cel) (l : ByteArray) (now : Int) (e : Ent) : goodE (entH c l) now e = (ofCell c e && decide (now < e.til) && decide (e.meth = emp) && decide (e.head = l)) := by
  unfold goodE sameE ofCell entH
  simp only
  cases decide (e.org = c.org) <;> cases decide (e.url = c.url) <;> cases (e.creds == c.creds) <;> cases decide (e.meth = emp) <;> cases decide (e.head = l) <;> cases decide (now < e.til) <;> rfl
theorem meth_ref {xs : List Ent} (hk : KindOk xs) (c : Cel) (m : ByteArray) (now : Int) : xs.any (rmethE c m now) = methM xs c m now := by
  unfold methM
  induction xs with
  | nil => simp
  | cons e r ih =>
    have ih := ih (fun x hx => hk x (List.mem_cons_of_mem _ hx))
    have h0 := hk e (by simp)
    simp only [List.any_cons]
    rw [ih, goodM_eq, goodM_eq]
    unfold rmethE
    rw [emp_isEmpty]
    by_cases hm : m = emp
    · subst hm
      have : (decide (e.head = emp) && decide (e.meth = emp)) = false := by
        revert h0
        cases decide (e.head = emp) <;> cases decide (e.meth = emp) <;> simp
      revert this
      cases ofCell c e <;> cases decide (now < e.til) <;> cases decide (e.head = emp) <;> cases decide (e.meth = emp) <;> cases decide (e.meth = star) <;> cases c.creds <;> simp
    · simp only [hm, decide_false, Bool.not_false, Bool.true_and]
      cases ofCell c e <;> cases decide (now < e.til) <;> cases decide (e.head = emp) <;> cases decide (e.meth = m) <;> cases decide (e.meth = star) <;> cases c.creds <;> simp
theorem head_ref {xs : List Ent} (hk : KindOk xs) (c : Cel) (nm : ByteArray) (now : Int) : xs.any (rheadE c (lowS nm) now) = headM xs c nm now := by
  unfold headM
  generalize lowS nm = l
  induction xs with
  | nil => simp
  | cons e r ih =>
    have ih := ih (fun x hx => hk x (List.mem_cons_of_mem _ hx))
    have h0 := hk e (by simp)
    simp only [List.any_cons]
    rw [ih, goodH_eq, goodH_eq]
    unfold rheadE
    rw [emp_isEmpty]
    by_cases hm : l = emp
    · subst hm
      have : (decide (e.meth = emp) && decide (e.head = emp)) = false := by
        revert h0
        cases decide (e.head = emp) <;> cases decide (e.meth = emp) <;> simp
      revert this
      cases ofCell c e <;> cases decide (now < e.til) <;> cases decide (e.meth = emp) <;> cases decide (e.head = emp) <;> cases decide (e.head = star) <;> cases c.creds <;> cases (emp.toList == secret.toList) <;> simp
    · simp only [hm, decide_false, Bool.not_false, Bool.true_and]
      cases ofCell c e <;> cases decide (now < e.til) <;> cases decide (e.meth = emp) <;> cases decide (e.head = l) <;> cases decide (e.head = star) <;> cases c.creds <;> cases (l.toList == secret.toList) <;> simp

/-- What is put, swept, cleared keeps each entry of one kind. -/
theorem KindOk.nil : KindOk [] := fun e he => by simp at he
theorem KindOk.filter {xs : List Ent} (h : KindOk xs) (p : Ent → Bool) : KindOk (xs.filter p) := fun e he => h e (List.mem_filter.1 he).1
theorem KindOk.put {most : Int} {e : Ent} {now : Int} {xs : List Ent} (h : KindOk xs) : KindOk (putM most e now xs).2 := by
  unfold putM
  by_cases hb : badE e now = true
  · rw [if_pos hb]; exact h
  · rw [if_neg hb]
    have hke : (decide (e.meth = emp) == decide (e.head = emp)) = false := by
      unfold badE at hb
      simp only [Bool.or_eq_true, not_or, Bool.not_eq_true] at hb
      exact hb.1
    have hs : KindOk (sweepL now xs) := h.filter _
    show KindOk (putY most e (sweepL now xs))
    generalize sweepL now xs = ys at hs
    unfold putY
    cases hf : ys.findIdx? (fun x => sameE x e) with
    | some i =>
      intro x hx
      rcases List.mem_or_eq_of_mem_set hx with hx | rfl
      · exact hs x hx
      · obtain ⟨hi, -⟩ := List.findIdx?_eq_some_iff_getElem.1 hf
        rw [List.getElem?_eq_getElem hi]
        exact hs ys[i] (List.getElem_mem hi)
    | none =>
      intro x hx
      rcases List.mem_append.1 hx with hx | hx
      · split at hx
        · exact hs x (List.mem_of_mem_eraseIdx hx)
        · exact hs x hx
      · simp at hx; subst hx; exact hke
theorem putM_len {most : Int} {e : Ent} {now : Int} {xs : List Ent} : (putM most e now xs).2.length ≤ xs.length + 1 := by
  unfold putM
  split
  · simp
  · have hl : (sweepL now xs).length ≤ xs.length := List.length_filter_le _ _
    show (putY most e (sweepL now xs)).length ≤ _
    generalize sweepL now xs = ys at hl
    unfold putY
    cases hf : ys.findIdx? (fun x => sameE x e) with
    | some i => simp only [List.length_set]; omega
    | none =>
      simp only [List.length_append, List.length_cons, List.length_nil]
      split
      · have := List.length_eraseIdx_le ys (eldM ys); omega
      · omega
end Go.Proofs.Ytkbjpackijdnkaa
