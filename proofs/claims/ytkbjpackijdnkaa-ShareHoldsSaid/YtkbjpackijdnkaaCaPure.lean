/- CacheApart: the plain law; a slice of entries that comes in. -/
import Derived.Test.YtkbjpackijdnkaaCacheCov
import Derived.Test.YtkbjpackijdnkaaStructs
namespace Go.Proofs.Ytkbjpackijdnkaa
open Go.Joins Go.ChangeShapes Go.WideShapes Go.RowKit Go.Deep
set_option linter.unusedVariables false
set_option linter.unusedSimpArgs false

/-- The list with the one that is the same set anew. -/
def updL (e : Ent) : List Ent → Option (List Ent)
  | [] => none
  | x :: r => if sameE x e then some ({ x with til := e.til } :: r) else (updL e r).map (x :: ·)
theorem putY_upd (most : Int) (e : Ent) (xs : List Ent) : putY most e xs = (updL e xs).getD ((if most ≤ (xs.length : Int) then xs.eraseIdx (eldM xs) else xs) ++ [e]) := by
  have key : ∀ ys : List Ent, (match ys.findIdx? (fun x => sameE x e) with | some i => some (ys.set i { (ys[i]?.getD e) with til := e.til }) | none => none) = updL e ys := by
    intro ys
    induction ys with
    | nil => rfl
    | cons x r ih =>
      rw [List.findIdx?_cons, updL]
      cases h : sameE x e with
      | true => simp
      | false =>
        simp only [Bool.false_eq_true, if_false]
        rw [← ih]
        cases r.findIdx? (fun x => sameE x e) with
        | none => rfl
        | some i => simp
  unfold putY
  rw [← key]
  cases xs.findIdx? (fun x => sameE x e) <;> rfl
theorem cell_same {x e : Ent} (c : Cel) (h : sameE x e = true) : ofCell c x = ofCell c e := by
  unfold sameE at h
  simp only [Bool.and_eq_true, decide_eq_true_eq, beq_iff_eq] at h
  obtain ⟨⟨⟨⟨h1, h2⟩, h3⟩, h4⟩, h5⟩ := h
  unfold ofCell
  rw [h1, h2, h3]
def inC (c : Cel) (xs : List Ent) : List Ent := xs.filter (ofCell c)
theorem upd_in {c : Cel} {e : Ent} (h : ofCell c e = true) : ∀ xs, updL e (inC c xs) = (updL e xs).map (inC c)
  | [] => rfl
  | x :: r => by
    have ih := upd_in h r
    unfold inC at ih ⊢
    rw [List.filter_cons, updL]
    cases hs : sameE x e with
    | true =>
      have hx : ofCell c x = true := by rw [cell_same c hs, h]
      have hx' : ofCell c { x with til := e.til } = true := hx
      simp [hx, updL, hs, hx']
    | false =>
      cases hx : ofCell c x with
      | true => simp [updL, hs, ih, Function.comp_def, hx]
      | false => simp [ih, Function.comp_def, hx]
theorem upd_out {c : Cel} {e : Ent} (h : ofCell c e = false) : ∀ xs l, updL e xs = some l → inC c l = inC c xs
  | [], l, hl => by simp [updL] at hl
  | x :: r, l, hl => by
    rw [updL] at hl
    unfold inC
    cases hs : sameE x e with
    | true =>
      have hx : ofCell c x = false := by rw [cell_same c hs, h]
      have hx' : ofCell c { x with til := e.til } = false := hx
      rw [hs] at hl
      simp at hl
      subst hl
      simp [hx, hx']
    | false =>
      rw [hs] at hl
      simp at hl
      obtain ⟨l', h1, rfl⟩ := hl
      have := upd_out h r l' h1
      unfold inC at this
      rw [List.filter_cons, List.filter_cons, this]
theorem upd_len {e : Ent} : ∀ xs l, updL e xs = some l → l.length = xs.length
  | [], l, hl => by simp [updL] at hl
  | x :: r, l, hl => by
    rw [updL] at hl
    cases hs : sameE x e with
    | true => rw [hs] at hl; simp at hl; subst hl; simp
    | false =>
      rw [hs] at hl
      simp at hl
      obtain ⟨l', h1, rfl⟩ := hl
      have := upd_len r l' h1
      simp [this]
theorem upd_til {e : Ent} (he : 1 ≤ e.til) : ∀ xs l, (∀ x ∈ xs, 1 ≤ x.til) → updL e xs = some l → ∀ x ∈ l, 1 ≤ x.til
  | [], l, _, hl => by simp [updL] at hl
  | x :: r, l, hx, hl => by
    rw [updL] at hl
    cases hs : sameE x e with
    | true =>
      rw [hs] at hl; simp at hl; subst hl
      intro y hy
      rcases List.mem_cons.1 hy with rfl | hy
      · exact he
      · exact hx y (List.mem_cons_of_mem _ hy)
    | false =>
      rw [hs] at hl
      simp at hl
      obtain ⟨l', h1, rfl⟩ := hl
      intro y hy
      rcases List.mem_cons.1 hy with rfl | hy
      · exact hx _ (by simp)
      · exact upd_til he r l' (fun z hz => hx z (List.mem_cons_of_mem _ hz)) h1 y hy

def TilOk (xs : List Ent) : Prop := ∀ x ∈ xs, 1 ≤ x.til
theorem TilOk.nil : TilOk [] := fun x hx => by simp at hx
theorem sweep_ok {xs : List Ent} (h : TilOk xs) : sweepL 0 xs = xs := by
  unfold sweepL
  rw [List.filter_eq_self]
  intro x hx
  have := h x hx
  unfold lateE
  simp; omega
theorem TilOk.inC {xs : List Ent} (h : TilOk xs) (c : Cel) : TilOk (inC c xs) := fun x hx => h x (List.mem_filter.1 hx).1
theorem put_form {xs : List Ent} (h : TilOk xs) (hl : xs.length < 64) (e : Ent) : putM 64 e 0 xs = if badE e 0 then (false, xs) else (true, (updL e xs).getD (xs ++ [e])) := by
  unfold putM
  rw [sweep_ok h, putY_upd, if_neg (show ¬ (64 : Int) ≤ (xs.length : Int) by omega)]
theorem good_til {e : Ent} (h : badE e 0 = false) : 1 ≤ e.til := by
  unfold badE at h
  simp only [Bool.or_eq_false_iff, decide_eq_false_iff_not] at h
  omega
theorem put_til {xs : List Ent} (h : TilOk xs) (hl : xs.length < 64) (e : Ent) : TilOk (putM 64 e 0 xs).2 ∧ (putM 64 e 0 xs).2.length ≤ xs.length + 1 := by
  rw [put_form h hl]
  cases hb : badE e 0 with
  | true => exact ⟨h, by simp⟩
  | false =>
    have ht := good_til hb
    cases hu : updL e xs with
    | some l => exact ⟨upd_til ht xs l h hu, by simp [upd_len xs l hu]⟩
    | none =>
      refine ⟨fun x hx => ?_, by simp⟩
      rcases List.mem_append.1 (by simpa using hx : x ∈ xs ++ [e]) with hx | hx
      · exact h x hx
      · have : x = e := by simpa using hx
        rw [this]; exact ht
theorem put_in {c : Cel} {xs : List Ent} (h : TilOk xs) (hl : xs.length < 64) {e : Ent} (he : ofCell c e = true) : putM 64 e 0 (inC c xs) = ((putM 64 e 0 xs).1, inC c (putM 64 e 0 xs).2) := by
  have hl2 : (inC c xs).length < 64 := Nat.lt_of_le_of_lt (List.length_filter_le _ _) hl
  rw [put_form h hl, put_form (h.inC c) hl2, upd_in he]
  cases badE e 0 with
  | true => rfl
  | false =>
    cases updL e xs with
    | some l => rfl
    | none => simp [inC, he]
theorem put_out {c : Cel} {xs : List Ent} (h : TilOk xs) (hl : xs.length < 64) {e : Ent} (he : ofCell c e = false) : inC c (putM 64 e 0 xs).2 = inC c xs ∧ (putM 64 e 0 xs).2.length ≤ xs.length + (if (putM 64 e 0 xs).1 then 1 else 0) := by
  rw [put_form h hl]
  cases badE e 0 with
  | true => exact ⟨rfl, by simp⟩
  | false =>
    cases hu : updL e xs with
    | some l => exact ⟨upd_out he xs l hu, by simp [upd_len xs l hu]⟩
    | none => exact ⟨by simp [inC, he], by simp⟩
theorem put_in_len {c : Cel} {xs : List Ent} (h : TilOk xs) (hl : xs.length < 64) {e : Ent} (he : ofCell c e = true) {N : Nat} (hN : xs.length ≤ (inC c xs).length + N) : (putM 64 e 0 xs).2.length ≤ (inC c (putM 64 e 0 xs).2).length + N := by
  rw [put_form h hl]
  cases badE e 0 with
  | true => exact hN
  | false =>
    cases hu : updL e xs with
    | some l =>
      have h1 := upd_len xs l hu
      have h2 := upd_in he xs
      rw [hu] at h2
      have h3 := upd_len _ _ h2
      simp only [Bool.false_eq_true, if_false, Option.getD_some]
      omega
    | none =>
      simp only [Bool.false_eq_true, if_false, Option.getD_none]
      have : inC c (xs ++ [e]) = inC c xs ++ [e] := by simp [inC, he]
      rw [this, List.length_append, List.length_append]
      simp; omega
theorem any_in {c : Cel} {f : Ent → Bool} (hf : ∀ x, f x = true → ofCell c x = true) (xs : List Ent) : xs.any f = (inC c xs).any f := by
  rw [Bool.eq_iff_iff, List.any_eq_true, List.any_eq_true]
  constructor
  · rintro ⟨x, hx, h⟩; exact ⟨x, List.mem_filter.2 ⟨hx, hf x h⟩, h⟩
  · rintro ⟨x, hx, h⟩; exact ⟨x, (List.mem_filter.1 hx).1, h⟩
theorem good_in {c : Cel} {e : Ent} {now : Int} (he : ofCell c e = true) (x : Ent) (h : goodE e now x = true) : ofCell c x = true := by
  unfold goodE at h
  rw [Bool.and_eq_true] at h
  rw [cell_same c h.1, he]
theorem entM_in (c : Cel) (m : ByteArray) : ofCell c (entM c m) = true := by unfold ofCell entM; simp
theorem entH_in (c : Cel) (m : ByteArray) : ofCell c (entH c m) = true := by unfold ofCell entH; simp
theorem meth_in (c : Cel) (xs : List Ent) (m : ByteArray) (now : Int) : methM xs c m now = methM (inC c xs) c m now := by
  unfold methM
  rw [any_in (c := c) (fun x => good_in (entM_in c m) x) xs, any_in (c := c) (fun x => good_in (entM_in c star) x) xs]
theorem head_in (c : Cel) (xs : List Ent) (m : ByteArray) (now : Int) : headM xs c m now = headM (inC c xs) c m now := by
  unfold headM
  rw [any_in (c := c) (fun x => good_in (entH_in c (lowS m)) x) xs, any_in (c := c) (fun x => good_in (entH_in c star) x) xs]
theorem cov_in (c : Cel) (xs : List Ent) (m : ByteArray) (ns : List ByteArray) (now : Int) : covM xs c m ns now = covM (inC c xs) c m ns now := by
  unfold covM
  rw [meth_in]
  congr 1
  refine congrArg (fun f => ns.all f) (funext fun nm => head_in c xs nm now)
theorem clear_in (c : Cel) : ∀ xs : List Ent, (xs.length : Int) - ((xs.filter fun x => !ofCell c x).length : Int) = ((inC c xs).length : Int)
  | [] => rfl
  | x :: r => by
    have ih := clear_in c r
    unfold inC at ih ⊢
    rw [List.filter_cons, List.filter_cons]
    cases ofCell c x <;> simp <;> omega

section
variable {H : Type} {enc : TypeId × Value → H} {P : Program} {W : World}
theorem Slc.open_cellsK {α : Type} {E : α → List Value} {good : α → Prop} {t e : TypeId} {k : Nat} (hk0 : 0 < k) {a : Option Addr} {n c : Nat} {d : DataW H} {p : List MemPlace} (ht : P.underlying t = some (.slice e)) (hC : P.cellsOf e = k)
    (hdec : ∀ cs (m : Nat) (y : DataW H × List MemPlace), cs.length = k → DataW.trod enc P W 0 (fun _ => true) true m e cs = some y → ∃ x, E x = cs ∧ good x) (h : DataW.Trod enc P W 0 (fun _ => true) true t (.slice a n c) d p) :
    ∃ zs : List α, Slc E k W a n zs ∧ ∀ z ∈ zs, good z := by
  obtain ⟨fuel, hf⟩ := h
  rcases open_slice ht hf with ⟨hcs, _⟩ | ⟨x, l, cp, m, n', D, Pl, hcs, _, hl, hm, hmm, _, hi⟩
  · simp [Value.cells] at hcs
    obtain ⟨rfl, rfl, rfl⟩ := hcs
    exact ⟨[], ⟨rfl, fun h => absurd h (by omega)⟩, by simp⟩
  · simp [Value.cells] at hcs
    obtain ⟨rfl, rfl, rfl⟩ := hcs
    have hmc : m = c := by simpa using hmm
    subst hmc
    obtain ⟨zs, hzl, hz⟩ := exists_list (fun i (z : α) => good z ∧ ∀ (j : Nat) (v : Value), (E z)[j]? = some v → W.cell? ((x.add (i * k)).add j) = some v) n (fun i hin => by
      obtain ⟨cs', hc, ht'⟩ := hi i (by omega)
      rw [hC] at hc
      obtain ⟨_, hcl, hat⟩ := World.cells?_some hc
      obtain ⟨z, hzE, hzg⟩ := hdec cs' _ _ hcl ht'
      refine ⟨z, hzg, fun j v hjv => ?_⟩
      rw [hzE] at hjv
      have hj : j < k := by rw [← hcl]; exact (List.getElem?_eq_some_iff.1 hjv).1
      rw [hat j hj, hjv])
    refine ⟨zs, ⟨hzl, fun hn => ?_⟩, fun z hzm => ?_⟩
    · obtain ⟨cs', hc, _⟩ := hi 0 (by omega)
      rw [hC] at hc
      obtain ⟨_, hcl, hat⟩ := World.cells?_some hc
      have h1 := hat 0 (by omega)
      obtain ⟨v, hv⟩ : ∃ v, cs'[0]? = some v := ⟨_, List.getElem?_eq_getElem (by omega)⟩
      rw [hv] at h1
      obtain ⟨b, off, rfl⟩ := addr_of_spot (x := x) (by have := spot_of_cell h1; rw [Nat.zero_mul] at this; exact this)
      have hadd : ∀ i, (⟨b, off, none⟩ : Addr).add i = ⟨b, off + i, none⟩ := fun i => Addr.add_lit _ _ _
      refine ⟨b, off, rfl, by have := lt_of_cell h1; rw [hadd, Addr.add_lit] at this; exact this, fun i z hiz j v hjv => ?_⟩
      have := (hz i z hiz).2 j v hjv
      rwa [hadd, Addr.add_lit, Nat.add_assoc] at this
    · obtain ⟨i, hil, rfl⟩ := List.mem_iff_getElem.1 hzm
      exact (hz i _ (List.getElem?_eq_getElem hil)).1
end

set_option maxRecDepth 100000 in
theorem ent_cells {H : Type} {enc : TypeId × Value → H} {W : World} (cs : List Value) (m : Nat) (y : DataW H × List MemPlace) (hl : cs.length = 6) (h : DataW.trod enc Try.prog W 0 (fun _ => true) true m 35 cs = some y) : ∃ x, encE x = cs ∧ True := by
  obtain ⟨ys, n, _, _, _, hlen, hg⟩ := DataW.trod_struct Try.underlying35 h
  have k33 : Try.prog.cellsOf 33 = 3 := by kernel_rfl
  have k9 : Try.prog.cellsOf 9 = 1 := by kernel_rfl
  have k28 : Try.prog.cellsOf 28 = 1 := by kernel_rfl
  have k4 : Try.prog.cellsOf 4 = 1 := by kernel_rfl
  match cs, hl with
  | [c0, c1, c2, c3, c4, c5], _ =>
    match ys, hlen with
    | [y0, y1, y2, y3], _ =>
      have g0 : DataW.trod enc Try.prog W 0 (fun _ => true) true n 33 (List.take (Try.prog.cellsOf 33) [c0, c1, c2, c3, c4, c5]) = some y0 := hg 0 _ rfl
      have g1 : DataW.trod enc Try.prog W 0 (fun _ => true) true n 9 (List.take (Try.prog.cellsOf 9) [c3, c4, c5]) = some y1 := hg 1 _ rfl
      have g2 : DataW.trod enc Try.prog W 0 (fun _ => true) true n 9 (List.take (Try.prog.cellsOf 9) [c4, c5]) = some y2 := hg 2 _ rfl
      have g3 : DataW.trod enc Try.prog W 0 (fun _ => true) true n 28 (List.take (Try.prog.cellsOf 28) [c5]) = some y3 := hg 3 _ rfl
      rw [k33] at g0; rw [k9] at g1 g2; rw [k28] at g3
      obtain ⟨zs, n2, _, _, _, hlen2, hg2⟩ := DataW.trod_struct Try.underlying33 g0
      match zs, hlen2 with
      | [z0, z1, z2], _ =>
        have f0 : DataW.trod enc Try.prog W 0 (fun _ => true) true n2 9 (List.take (Try.prog.cellsOf 9) [c0, c1, c2]) = some z0 := hg2 0 _ rfl
        have f1 : DataW.trod enc Try.prog W 0 (fun _ => true) true n2 9 (List.take (Try.prog.cellsOf 9) [c1, c2]) = some z1 := hg2 1 _ rfl
        have f2 : DataW.trod enc Try.prog W 0 (fun _ => true) true n2 4 (List.take (Try.prog.cellsOf 4) [c2]) = some z2 := hg2 2 _ rfl
        rw [k9] at f0 f1; rw [k4] at f2
        obtain ⟨a0, e0, -⟩ := DataW.trod_string Try.underlying9 f0
        obtain ⟨a1, e1, -⟩ := DataW.trod_string Try.underlying9 f1
        obtain ⟨a2, e2, -⟩ := DataW.trod_bool Try.underlying4 f2
        obtain ⟨a3, e3, -⟩ := DataW.trod_string Try.underlying9 g1
        obtain ⟨a4, e4, -⟩ := DataW.trod_string Try.underlying9 g2
        obtain ⟨a5, e5, -⟩ := DataW.trod_int Try.underlying28 g3
        simp at e0 e1 e2 e3 e4 e5
        exact ⟨⟨a0, a1, a2, a3, a4, a5⟩, by simp [encE, e0, e1, e2, e3, e4, e5], trivial⟩
theorem open_ents {H : Type} {enc : TypeId × Value → H} {W : World} {a : Option Addr} {n c : Nat} {d : DataW H} {p : List MemPlace} (h : DataW.Trod enc Try.prog W 0 (fun _ => true) true 29 (.slice a n c) d p) :
    ∃ zs : List Ent, Slc encE 6 W a n zs ∧ ∀ z ∈ zs, True :=
  Slc.open_cellsK (by decide) Try.underlying29 (by kernel_rfl) (fun cs m y hl h => ent_cells cs m y hl h) h
end Go.Proofs.Ytkbjpackijdnkaa
