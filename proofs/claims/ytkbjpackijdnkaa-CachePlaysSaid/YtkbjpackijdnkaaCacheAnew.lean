/- CacheAnew: its walk. -/
import Derived.Test.YtkbjpackijdnkaaCacheAwake
import Derived.Test.YtkbjpackijdnkaaLong
import Derived.Test.YtkbjpackijdnkaaCore2
namespace Go.Proofs.Ytkbjpackijdnkaa
open Go.Joins Go.ChangeShapes Go.WideShapes Go.RowKit Go.Deep Go.Proofs.YtkbjpackijdnkaaW.PrintLast
set_option linter.unusedVariables false
set_option linter.unusedSimpArgs false

theorem Slc.three_str (w : World) (s t u : ByteArray) (T : TypeId) : Slc encS 1 (w.alloc (.cells #[.string s, .string t, .string u] T (0, 0))) (some ⟨w.heap.size, 0, none⟩) 3 [s, t, u] := by
  refine ⟨rfl, fun _ => ⟨w.heap.size, 0, rfl, by simp, fun i x hx j v hv => ?_⟩⟩
  have hb := Blk.new w #[.string s, .string t, .string u] T
  have hj : j = 0 := by
    match j, hv with
    | 0, _ => rfl
    | j + 1, hv => simp [encS] at hv
  subst hj
  have hv' : Value.string x = v := by simpa [encS] using hv
  match i, hx with
  | 0, hx => have : s = x := by simpa using hx
             subst this; subst hv'; exact hb.cell 0
  | 1, hx => have : t = x := by simpa using hx
             subst this; subst hv'; exact hb.cell 1
  | 2, hx => have : u = x := by simpa using hx
             subst this; subst hv'; exact hb.cell 2

/-- The four that are put. -/
def anE (c : Cel) (cr : Bool) (m h : ByteArray) (t : Int) : Ent := ⟨c.org, c.url, cr, m, h, t⟩

theorem put_new {most now : Int} {e : Ent} {xs : List Ent} (hb : badE e now = false) (hs : sweepL now xs = xs) (hn : ∀ x ∈ xs, sameE x e = false) (hl : (xs.length : Int) < most) : putM most e now xs = (true, xs ++ [e]) := by
  unfold putM putY
  rw [hb, if_neg (by decide), hs]
  have hf : xs.findIdx? (fun x => sameE x e) = none := by rw [List.findIdx?_eq_none_iff]; exact hn
  rw [hf, if_neg (by omega)]
theorem sweep_all {now : Int} {xs : List Ent} (h : ∀ x ∈ xs, now < x.til) : sweepL now xs = xs := by
  unfold sweepL
  rw [List.filter_eq_self]
  intro x hx
  have := h x hx
  unfold lateE
  simp; omega

theorem an_puts (c : Cel) (nm : ByteArray) (hn : nm ≠ emp) (a b : Int) (ha : 1 ≤ a) (hb : 1 ≤ b) :
    putM 9 (anE c c.creds emp nm a) 0 [] = (true, [anE c c.creds emp nm a]) ∧
    putM 9 (anE c (!c.creds) emp nm a) 0 [anE c c.creds emp nm a] = (true, [anE c c.creds emp nm a, anE c (!c.creds) emp nm a]) ∧
    putM 9 (anE c c.creds nm emp a) 0 [anE c c.creds emp nm a, anE c (!c.creds) emp nm a] = (true, [anE c c.creds emp nm a, anE c (!c.creds) emp nm a, anE c c.creds nm emp a]) ∧
    putM 9 (anE c c.creds emp nm b) 0 [anE c c.creds emp nm a, anE c (!c.creds) emp nm a, anE c c.creds nm emp a] = (true, [anE c c.creds emp nm b, anE c (!c.creds) emp nm a, anE c c.creds nm emp a]) := by
  have hn' : emp ≠ nm := Ne.symm hn
  have b1 : ∀ cr t, 1 ≤ t → badE (anE c cr emp nm t) 0 = false := fun cr t ht => by unfold badE anE; simp [hn]; omega
  have b2 : ∀ cr t, 1 ≤ t → badE (anE c cr nm emp t) 0 = false := fun cr t ht => by unfold badE anE; simp [hn]; omega
  refine ⟨?_, ?_, ?_, ?_⟩
  · exact put_new (b1 _ _ ha) rfl (by simp) (by simp)
  · refine put_new (b1 _ _ ha) (sweep_all (by simp [anE]; omega)) ?_ (by simp)
    intro x hx
    have : x = anE c c.creds emp nm a := by simpa using hx
    subst this
    unfold sameE anE
    cases c.creds <;> simp
  · refine put_new (b2 _ _ ha) (sweep_all (by simp [anE]; omega)) ?_ (by simp)
    intro x hx
    rcases (by simpa using hx : x = anE c c.creds emp nm a ∨ x = anE c (!c.creds) emp nm a) with rfl | rfl
    · unfold sameE anE; simp [hn']
    · unfold sameE anE; simp [hn']
  · unfold putM putY
    rw [b1 _ _ hb, if_neg (by decide), sweep_all (by simp [anE]; omega)]
    have hs : sameE (anE c c.creds emp nm a) (anE c c.creds emp nm b) = true := by unfold sameE anE; simp
    rw [List.findIdx?_cons]
    simp only [hs, if_true]
    rfl
theorem an_clear (c : Cel) (nm : ByteArray) (a b : Int) :
    ([anE c c.creds emp nm b, anE c (!c.creds) emp nm a, anE c c.creds nm emp a].filter fun x => !ofCell c x) = [anE c (!c.creds) emp nm a] ∧ ([anE c (!c.creds) emp nm a].filter fun x => !ofCell c x) = [anE c (!c.creds) emp nm a] := by
  have h1 : ∀ m h t, ofCell c (anE c c.creds m h t) = true := fun m h t => by unfold ofCell anE; simp
  have h2 : ∀ m h t, ofCell c (anE c (!c.creds) m h t) = false := fun m h t => by unfold ofCell anE; cases c.creds <;> simp
  simp [List.filter_cons, h1, h2]

theorem open_agg3 {H : Type} {enc : TypeId × Value → H} {P : Program} {w : World} {base : Nat} {spare : Nat → Bool} {held : Bool} {r : Reach} {b0 : Nat} {t : TypeId} {f0 f1 f2 : Field} {v : Value} {d : DataW H} {p : List MemPlace} (hs : P.underlying t = some (.struct #[f0, f1, f2])) (hone : oneCellFields P #[f0, f1, f2] = true) (hC : P.cellsOf t = 3)
    (hv : Value.okWide P w r b0 t v) (h : DataW.Trod enc P w base spare held t v d p) :
    ∃ (v0 v1 v2 : Value) (y0 y1 y2 : DataW H × List MemPlace) (n : Nat), v = .agg #[v0, v1, v2] ∧
      DataW.trod enc P w base spare held n f0.type [v0] = some y0 ∧ DataW.trod enc P w base spare held n f1.type [v1] = some y1 ∧ DataW.trod enc P w base spare held n f2.type [v2] = some y2 := by
  obtain ⟨cs, rfl, hsz⟩ := okWide_struct hs hv
  obtain ⟨l⟩ := cs
  match l, hsz.trans hC with
  | [c0, c1, c2], _ =>
    obtain ⟨fuel, hf⟩ := h
    obtain ⟨xs, n, _, hx, _, hlen, hg⟩ := DataW.trod_struct hs hf
    obtain ⟨o0, k0⟩ := hone_of hone 0 f0 rfl
    obtain ⟨o1, k1⟩ := hone_of hone 1 f1 rfl
    obtain ⟨o2, k2⟩ := hone_of hone 2 f2 rfl
    match xs, hlen with
    | [y0, y1, y2], _ =>
      exact ⟨c0, c1, c2, y0, y1, y2, n, rfl, by simpa [Value.cells, o0, k0] using hg 0 f0 rfl, by simpa [Value.cells, o1, k1] using hg 1 f1 rfl, by simpa [Value.cells, o2, k2] using hg 2 f2 rfl⟩

set_option maxRecDepth 100000 in
theorem open_cel {H : Type} {enc : TypeId × Value → H} {W : World} {b : Nat} {v : Value} {d : DataW H} {p : List MemPlace}
    (hv : Value.okWide Try.prog W .any b 33 v) (h : DataW.Trod enc Try.prog W 0 (fun _ => true) true 33 v d p) :
    ∃ z : Cel, v = .agg (encC z).toArray ∧ True := by
  obtain ⟨v0, v1, v2, y0, y1, y2, n, rfl, t0, t1, t2⟩ := open_agg3 Try.underlying33 (by kernel_rfl) (by kernel_rfl) hv h
  obtain ⟨m0, e0, -⟩ := DataW.trod_string Try.underlying9 t0
  obtain ⟨m1, e1, -⟩ := DataW.trod_string Try.underlying9 t1
  obtain ⟨m2, e2, -⟩ := DataW.trod_bool Try.underlying4 t2
  simp only [List.cons.injEq, and_true] at e0 e1 e2
  subst e0 e1 e2
  exact ⟨⟨m0, m1, m2⟩, rfl, trivial⟩

/-- The cache, and two cells that lie apart from it. -/
def StA (w : World) (b X F : Nat) (c d : Cel) (xs : List Ent) (wx : World) : Prop :=
  Blk wx X (encC c).toArray 33 ∧ Blk wx F (encC d).toArray 33 ∧ ∃ S, CO 9 wx b S xs ∧ Own w wx S ∧ (∀ x ∈ S, x ≠ X) ∧ (∀ x ∈ S, x ≠ F)
theorem StA.quiet {w : World} {b X F : Nat} {c d : Cel} {xs : List Ent} {wx wy : World} (h : StA w b X F c d xs wx) (he : Ext [] wx wy) : StA w b X F c d xs wy := by
  obtain ⟨h1, h2, S, h3, h4, h5, h6⟩ := h
  exact ⟨h1.keep he (by simp), h2.keep he (by simp), S, h3.keep0 he, h4.quiet he, h5, h6⟩
theorem st_put {w : World} {b X F : Nat} {c d : Cel} {xs ys : List Ent} (e : Ent) (hl : xs.length < 10000) (hp : putM 9 e 0 xs = (true, ys)) (wx : World) (h : StA w b X F c d xs wx) :
    Calls Try.prog 16 #[.pointer (some ⟨b, 0, none⟩), .agg (encE e).toArray, .int .u64 0] wx fun r w' => r = .returned (.bool true) ∧ StA w b X F c d ys w' := by
  obtain ⟨h1, h2, S, h3, h4, h5, h6⟩ := h
  have hc := co_put 9 b S xs e 0 hl (by omega) wx h3
  unfold PutP at hc
  rw [hp] at hc
  refine hc.mono ?_
  rintro r w' ⟨hr, S', k1, k2, k3⟩
  exact ⟨hr, h1.keep k2 (fun hm => h5 X hm rfl), h2.keep k2 (fun hm => h6 F hm rfl), S', k1, h4.step k2 k3, own_ne h5 k3 h1.lt, own_ne h6 k3 h2.lt⟩
theorem st_clear {w : World} {b X F : Nat} {c d : Cel} {xs ys : List Ent} (k : Cel) (hl : xs.length < 10000) (hp : (xs.filter fun x => !ofCell k x) = ys) (wx : World) (h : StA w b X F c d xs wx) :
    Calls Try.prog 19 #[.pointer (some ⟨b, 0, none⟩), .agg (encC k).toArray] wx fun r w' => r = .returned (.int .i64 ((xs.length : Int) - (ys.length : Int))) ∧ StA w b X F c d ys w' := by
  obtain ⟨h1, h2, S, h3, h4, h5, h6⟩ := h
  have hc := co_clear 9 b S xs k (by omega) wx h3
  unfold DropP at hc
  rw [hp] at hc
  refine hc.mono ?_
  rintro r w' ⟨hr, k1, k2⟩
  exact ⟨hr, h1.keep k2 (fun hm => h5 X hm rfl), h2.keep k2 (fun hm => h6 F hm rfl), S, k1, h4.same k2, h5, h6⟩
theorem st_entries {w : World} {b X F : Nat} {c d : Cel} {xs : List Ent} (hl : xs.length < 10000) (wx : World) (h : StA w b X F c d xs wx) :
    Calls Try.prog 15 #[.pointer (some ⟨b, 0, none⟩)] wx (EntriesP xs wx) := by
  obtain ⟨h1, h2, S, h3, h4, h5, h6⟩ := h
  exact co_entries 9 b S xs (by omega) wx h3

set_option maxHeartbeats 6400000 in
set_option maxRecDepth 100000 in
theorem cacheAnew_walk (w : World) (c : Cel) (_hc : True) (nm : ByteArray) (hnm : nm.size ≤ 140737488351232) (a : Int) (ha : (Lit.int .u64 a).wf = true) (b : Int) (hb : (Lit.int .u64 b).wf = true) :
    Calls Try.prog 4 #[.agg (encC c).toArray, .string nm, .int .u64 a, .int .u64 b] w fun e w' => e = .returned (.bool true) ∧ Ext [] w w' := by
  clear _hc hnm ha hb
  obtain ⟨co, cu, cr⟩ := c
  have hL1 := long_any 300 (by omega) (by omega) _ 3 3 [co, cu, nm] _ (Slc.three_str (w.alloc (.cells #[.string co, .string cu, .bool cr] 33 (0, 0))) co cu nm 9) (by omega)
  rw [World.size_alloc] at hL1
  have hX : Blk ((w.alloc (.cells #[.string co, .string cu, .bool cr] 33 (0, 0))).alloc (.cells #[.string co, .string cu, .string nm] 9 (0, 0))) w.heap.size #[.string co, .string cu, .bool cr] 33 := (Blk.new _ _ _).alloc _
  have e0 : Ext [] w ((w.alloc (.cells #[.string co, .string cu, .bool cr] 33 (0, 0))).alloc (.cells #[.string co, .string cu, .string nm] 9 (0, 0))) := ((Ext.refl _ _).alloc _).alloc _
  have HX := Lib.hid hX; have E0 := Lib.hid e0
  clear hX e0
  unfold encC
  by_cases hbad : longL 300 [co, cu, nm] = true ∨ nm.toList.isEmpty = true ∨ a < 1 ∨ b < 1
  · have go : ∀ l1 l2 : Bool, True := fun _ _ => trivial
    clear go
    cases hlk : longL 300 [co, cu, nm] with
    | true =>
      rw [hlk] at hL1
      have HL1 := Lib.hid hL1
      clear hL1 hlk hbad
      go_enter Try.func4, Try.ntmps4
      go_wp2_with fail
      refine HL1.out.mono ?_
      rintro e w1 ⟨rfl, rfl⟩
      go_wp2_with fail
      refine (awakeC_any _).mono ?_
      rintro e w1 ⟨rfl, e1⟩
      go_wp2_with fail
      go_ret
      exact ⟨rfl, E0.out.trans e1 (by simp)⟩
    | false =>
      rw [hlk] at hL1 hbad
      have HL1 := Lib.hid hL1
      clear hL1 hlk
      cases he : nm.toList.isEmpty with
      | true =>
        clear hbad
        go_enter Try.func4, Try.ntmps4
        go_wp2_with fail
        refine HL1.out.mono ?_
        rintro e w1 ⟨rfl, rfl⟩
        go_wp2_with fail
        refine (awakeC_any _).mono ?_
        rintro e w1 ⟨rfl, e1⟩
        go_wp2_with fail
        go_ret
        exact ⟨rfl, E0.out.trans e1 (by simp)⟩
      | false =>
        rw [he] at hbad
        have hbad : a < 1 ∨ b < 1 := by simpa using hbad
        by_cases ha : a < 1
        · have d1 : decide (a < 1) = true := decide_eq_true ha
          clear hbad
          go_enter Try.func4, Try.ntmps4
          go_wp2_with fail
          refine HL1.out.mono ?_
          rintro e w1 ⟨rfl, rfl⟩
          go_wp2_with fail
          refine (awakeC_any _).mono ?_
          rintro e w1 ⟨rfl, e1⟩
          go_wp2_with fail
          go_ret
          exact ⟨rfl, E0.out.trans e1 (by simp)⟩
        · have hb : b < 1 := hbad.resolve_left ha
          have d1 : decide (a < 1) = false := decide_eq_false ha
          have d2 : decide (b < 1) = true := decide_eq_true hb
          clear hbad
          go_enter Try.func4, Try.ntmps4
          go_wp2_with fail
          refine HL1.out.mono ?_
          rintro e w1 ⟨rfl, rfl⟩
          go_wp2_with fail
          refine (awakeC_any _).mono ?_
          rintro e w1 ⟨rfl, e1⟩
          go_wp2_with fail
          go_ret
          exact ⟨rfl, E0.out.trans e1 (by simp)⟩
  · have hlk : longL 300 [co, cu, nm] = false := by simpa using fun h => hbad (.inl h)
    have he : nm.toList.isEmpty = false := by simpa using fun h => hbad (.inr (.inl h))
    have ha : ¬ a < 1 := fun h => hbad (.inr (.inr (.inl h)))
    have hb : ¬ b < 1 := fun h => hbad (.inr (.inr (.inr h)))
    have d1 : decide (a < 1) = false := decide_eq_false ha
    have d2 : decide (b < 1) = false := decide_eq_false hb
    have hne : nm ≠ emp := fun h => by rw [h, show emp.toList = [] by rw [ByteArray.toList_eq]; rfl] at he; simp at he
    obtain ⟨p1, p2, p3, p4⟩ := an_puts ⟨co, cu, cr⟩ nm hne a b (by omega) (by omega)
    obtain ⟨p5, p6⟩ := an_clear ⟨co, cu, cr⟩ nm a b
    rw [hlk] at hL1
    have HL1 := Lib.hid hL1; have P1 := Lib.hid p1; have P2 := Lib.hid p2; have P3 := Lib.hid p3; have P4 := Lib.hid p4; have P5 := Lib.hid p5; have P6 := Lib.hid p6
    clear hbad hL1 hlk ha hb hne p1 p2 p3 p4 p5 p6
    go_enter Try.func4, Try.ntmps4
    go_wp2_with fail
    refine HL1.out.mono ?_
    rintro e w1 ⟨rfl, rfl⟩
    have hX := HX.out; have e0 := E0.out
    generalize (w.alloc (Obj.cells #[Value.string co, Value.string cu, Value.bool cr] 33)).alloc (Obj.cells #[Value.string co, Value.string cu, Value.string nm] 9) = w0 at hX e0 ⊢
    generalize w.heap.size = X at hX ⊢
    have c0 := co_new 9 w0
    rw [show clampC 9 = 9 by unfold clampC; omega] at c0
    clear HX E0 HL1
    have HX0 := Lib.hid hX; have HE0 := Lib.hid e0; have C0 := Lib.hid c0
    clear hX e0 c0
    go_wp2_with fail
    refine C0.out.mono ?_
    rintro e w1 ⟨rfl, h1, e1⟩
    have o1 := Own.start (HE0.out.trans e1 (by simp)) (S := [w0.heap.size]) (by simpa using HE0.out.size)
    have hXlt := HX0.out.lt
    have hX1 := HX0.out.keep e1 (by simp)
    have hbX : w0.heap.size ≠ X := by omega
    obtain ⟨bb, hbb⟩ : ∃ b, w0.heap.size = b := ⟨_, rfl⟩
    rw [hbb] at h1 o1 hbX
    have q0 := hX1.cell 0; have q1 := hX1.cell 1; have q2 := hX1.cell 2
    simp only [List.getElem?_toArray, List.getElem?_cons_zero, List.getElem?_cons_succ] at q0 q1 q2
    have hXw := hX1.lt
    have H1 := Lib.hid h1; have O1 := Lib.hid o1; have HX1 := Lib.hid hX1
    clear h1 o1 hX1 e1 hXlt HX0 HE0 C0
    go_wp2_with fail
    obtain ⟨F, hF⟩ : ∃ F, w1.heap.size = F := ⟨_, rfl⟩
    have hst : StA w bb X F ⟨co, cu, cr⟩ ⟨co, cu, !cr⟩ [] (w1.alloc (.cells #[.string co, .string cu, .bool (!cr)] 33 (0, 0))) := by
      refine ⟨HX1.out.alloc _, by rw [← hF]; exact Blk.new _ _ _, [bb], H1.out.keep0 ((Ext.refl _ _).alloc _), O1.out.quiet ((Ext.refl _ _).alloc _), by simpa using hbX, ?_⟩
      intro x hx
      have := H1.out.lt x hx
      omega
    clear hbb
    have c1 : ∀ wx, StA w bb X F ⟨co, cu, cr⟩ ⟨co, cu, !cr⟩ [] wx → Calls Try.prog 16 #[.pointer (some ⟨bb, 0, none⟩), .agg #[.string co, .string cu, .bool cr, .string ⟨#[]⟩, .string nm, .int .u64 a], .int .u64 0] wx fun r w' => r = .returned (.bool true) ∧ StA w bb X F ⟨co, cu, cr⟩ ⟨co, cu, !cr⟩ [(anE ⟨co, cu, cr⟩ cr emp nm a)] w' := fun wx h => st_put (anE ⟨co, cu, cr⟩ cr emp nm a) (by simp) P1.out wx h
    have c2 : ∀ wx, StA w bb X F ⟨co, cu, cr⟩ ⟨co, cu, !cr⟩ [(anE ⟨co, cu, cr⟩ cr emp nm a)] wx → Calls Try.prog 16 #[.pointer (some ⟨bb, 0, none⟩), .agg #[.string co, .string cu, .bool (!cr), .string ⟨#[]⟩, .string nm, .int .u64 a], .int .u64 0] wx fun r w' => r = .returned (.bool true) ∧ StA w bb X F ⟨co, cu, cr⟩ ⟨co, cu, !cr⟩ [(anE ⟨co, cu, cr⟩ cr emp nm a), (anE ⟨co, cu, cr⟩ (!cr) emp nm a)] w' := fun wx h => st_put (anE ⟨co, cu, cr⟩ (!cr) emp nm a) (by simp) P2.out wx h
    have c3 : ∀ wx, StA w bb X F ⟨co, cu, cr⟩ ⟨co, cu, !cr⟩ [(anE ⟨co, cu, cr⟩ cr emp nm a), (anE ⟨co, cu, cr⟩ (!cr) emp nm a)] wx → Calls Try.prog 16 #[.pointer (some ⟨bb, 0, none⟩), .agg #[.string co, .string cu, .bool cr, .string nm, .string ⟨#[]⟩, .int .u64 a], .int .u64 0] wx fun r w' => r = .returned (.bool true) ∧ StA w bb X F ⟨co, cu, cr⟩ ⟨co, cu, !cr⟩ [(anE ⟨co, cu, cr⟩ cr emp nm a), (anE ⟨co, cu, cr⟩ (!cr) emp nm a), (anE ⟨co, cu, cr⟩ cr nm emp a)] w' := fun wx h => st_put (anE ⟨co, cu, cr⟩ cr nm emp a) (by simp) P3.out wx h
    have c4 : ∀ wx, StA w bb X F ⟨co, cu, cr⟩ ⟨co, cu, !cr⟩ [(anE ⟨co, cu, cr⟩ cr emp nm a), (anE ⟨co, cu, cr⟩ (!cr) emp nm a), (anE ⟨co, cu, cr⟩ cr nm emp a)] wx → Calls Try.prog 16 #[.pointer (some ⟨bb, 0, none⟩), .agg #[.string co, .string cu, .bool cr, .string ⟨#[]⟩, .string nm, .int .u64 b], .int .u64 0] wx fun r w' => r = .returned (.bool true) ∧ StA w bb X F ⟨co, cu, cr⟩ ⟨co, cu, !cr⟩ [(anE ⟨co, cu, cr⟩ cr emp nm b), (anE ⟨co, cu, cr⟩ (!cr) emp nm a), (anE ⟨co, cu, cr⟩ cr nm emp a)] w' := fun wx h => st_put (anE ⟨co, cu, cr⟩ cr emp nm b) (by simp) P4.out wx h
    have c5 : ∀ wx, StA w bb X F ⟨co, cu, cr⟩ ⟨co, cu, !cr⟩ [(anE ⟨co, cu, cr⟩ cr emp nm b), (anE ⟨co, cu, cr⟩ (!cr) emp nm a), (anE ⟨co, cu, cr⟩ cr nm emp a)] wx → Calls Try.prog 15 #[.pointer (some ⟨bb, 0, none⟩)] wx fun r w' => ∃ (a1 : Option Addr) (c1 : Nat), r = .returned (.slice a1 3 c1) ∧ Rw encE 6 35 w' (.slice a1 3 c1) [(anE ⟨co, cu, cr⟩ cr emp nm b), (anE ⟨co, cu, cr⟩ (!cr) emp nm a), (anE ⟨co, cu, cr⟩ cr nm emp a)] ∧ Ext [] wx w' := fun wx h => (st_entries (by simp) wx h).mono fun r w' ⟨a1, c1, h1, h2, h3, h4⟩ => ⟨a1, c1, h1, h2, h3⟩
    have c6 : ∀ wx, StA w bb X F ⟨co, cu, cr⟩ ⟨co, cu, !cr⟩ [(anE ⟨co, cu, cr⟩ cr emp nm b), (anE ⟨co, cu, cr⟩ (!cr) emp nm a), (anE ⟨co, cu, cr⟩ cr nm emp a)] wx → Calls Try.prog 19 #[.pointer (some ⟨bb, 0, none⟩), .agg #[.string co, .string cu, .bool cr]] wx fun r w' => r = .returned (.int .i64 2) ∧ StA w bb X F ⟨co, cu, cr⟩ ⟨co, cu, !cr⟩ [(anE ⟨co, cu, cr⟩ (!cr) emp nm a)] w' := fun wx h => st_clear ⟨co, cu, cr⟩ (by simp) P5.out wx h
    have c7 : ∀ wx, StA w bb X F ⟨co, cu, cr⟩ ⟨co, cu, !cr⟩ [(anE ⟨co, cu, cr⟩ (!cr) emp nm a)] wx → Calls Try.prog 15 #[.pointer (some ⟨bb, 0, none⟩)] wx fun r w' => ∃ (a1 : Option Addr) (c1 : Nat), r = .returned (.slice a1 1 c1) ∧ Rw encE 6 35 w' (.slice a1 1 c1) [(anE ⟨co, cu, cr⟩ (!cr) emp nm a)] ∧ Ext [] wx w' ∧ (∀ g, (Value.slice a1 1 c1).ownBlock = some g → wx.heap.size ≤ g) := fun wx h => (st_entries (by simp) wx h).mono fun r w' ⟨a1, c1, h1, h2, h3, h4⟩ => ⟨a1, c1, h1, h2, h3, h4⟩
    have c8 : (Ending.returned (.int .i64 ((([(anE ⟨co, cu, cr⟩ (!cr) emp nm a)] : List Ent).length : Int) - ((([(anE ⟨co, cu, cr⟩ (!cr) emp nm a)] : List Ent).filter fun x => !ofCell ⟨co, cu, cr⟩ x).length : Int)))) = .returned (.int .i64 0) := by rw [P6.out]; rfl
    have C1 := Lib.hid c1; have C2 := Lib.hid c2; have C3 := Lib.hid c3; have C4 := Lib.hid c4; have C5 := Lib.hid c5; have C6 := Lib.hid c6; have C7 := Lib.hid c7; have C8 := Lib.hid c8
    have HST := Lib.hid hst
    clear c1 c2 c3 c4 c5 c6 c7 c8 P1 P2 P3 P4 P5 P6 hst H1 O1 HX1 hbX
    refine (C1.out _ HST.out).mono ?_
    rintro e w2 ⟨rfl, h2⟩
    clear q0 q1 q2 hXw HST
    rw [hF]
    clear hF
    have x2 := h2.1; have f2 := h2.2.1
    have q0 := x2.cell 0; have q1 := x2.cell 1; have q2 := x2.cell 2
    have r0 := f2.cell 0; have r1 := f2.cell 1; have r2 := f2.cell 2
    simp only [encC, List.getElem?_toArray, List.getElem?_cons_zero, List.getElem?_cons_succ] at q0 q1 q2 r0 r1 r2
    have H2 := Lib.hid h2
    clear x2 f2 h2
    go_wp2_with fail
    refine (C2.out _ H2.out).mono ?_
    rintro e w3 ⟨rfl, h3⟩
    clear q0 q1 q2 r0 r1 r2 H2
    have x3 := h3.1; have f3 := h3.2.1
    have q0 := x3.cell 0; have q1 := x3.cell 1; have q2 := x3.cell 2
    have r0 := f3.cell 0; have r1 := f3.cell 1; have r2 := f3.cell 2
    simp only [encC, List.getElem?_toArray, List.getElem?_cons_zero, List.getElem?_cons_succ] at q0 q1 q2 r0 r1 r2
    have H3 := Lib.hid h3
    clear x3 f3 h3
    go_wp2_with fail
    refine (C3.out _ H3.out).mono ?_
    rintro e w4 ⟨rfl, h4⟩
    clear q0 q1 q2 r0 r1 r2 H3
    have x4 := h4.1; have f4 := h4.2.1
    have q0 := x4.cell 0; have q1 := x4.cell 1; have q2 := x4.cell 2
    have r0 := f4.cell 0; have r1 := f4.cell 1; have r2 := f4.cell 2
    simp only [encC, List.getElem?_toArray, List.getElem?_cons_zero, List.getElem?_cons_succ] at q0 q1 q2 r0 r1 r2
    have H4 := Lib.hid h4
    clear x4 f4 h4
    go_wp2_with fail
    refine (C4.out _ H4.out).mono ?_
    rintro e w5 ⟨rfl, h5⟩
    clear q0 q1 q2 r0 r1 r2 H4
    have x5 := h5.1; have f5 := h5.2.1
    have q0 := x5.cell 0; have q1 := x5.cell 1; have q2 := x5.cell 2
    have r0 := f5.cell 0; have r1 := f5.cell 1; have r2 := f5.cell 2
    simp only [encC, List.getElem?_toArray, List.getElem?_cons_zero, List.getElem?_cons_succ] at q0 q1 q2 r0 r1 r2
    have H5 := Lib.hid h5
    clear x5 f5 h5
    go_wp2_with fail
    refine (C5.out _ H5.out).mono ?_
    rintro e w6 ⟨la, lc, rfl, hr6, e6⟩
    have h6 := H5.out.quiet e6
    clear q0 q1 q2 r0 r1 r2 H5
    have x6 := h6.1; have f6 := h6.2.1
    have q0 := x6.cell 0; have q1 := x6.cell 1; have q2 := x6.cell 2
    have r0 := f6.cell 0; have r1 := f6.cell 1; have r2 := f6.cell 2
    simp only [encC, List.getElem?_toArray, List.getElem?_cons_zero, List.getElem?_cons_succ] at q0 q1 q2 r0 r1 r2
    have H6 := Lib.hid h6
    clear x6 f6 h6
    obtain ⟨lg, rfl, hlg⟩ := hr6.addr (by omega)
    have l1 := hr6.cell encE_ok.len (i := 0) (x := (anE ⟨co, cu, cr⟩ cr emp nm b)) rfl 4 (by omega); have l2 := hr6.cell encE_ok.len (i := 0) (x := (anE ⟨co, cu, cr⟩ cr emp nm b)) rfl 5 (by omega)
    have l3 := hr6.cell encE_ok.len (i := 1) (x := (anE ⟨co, cu, cr⟩ (!cr) emp nm a)) rfl 5 (by omega); have l4 := hr6.cell encE_ok.len (i := 2) (x := (anE ⟨co, cu, cr⟩ cr nm emp a)) rfl 3 (by omega)
    simp only [encE, anE, List.getElem?_cons_zero, List.getElem?_cons_succ] at l1 l2 l3 l4
    clear hr6
    go_wp2_with fail
    refine (C6.out _ H6.out).mono ?_
    rintro e w7 ⟨rfl, h7⟩
    clear q0 q1 q2 r0 r1 r2 H6 l1 l2 l3 l4
    have x7 := h7.1; have f7 := h7.2.1
    have q0 := x7.cell 0; have q1 := x7.cell 1; have q2 := x7.cell 2
    have r0 := f7.cell 0; have r1 := f7.cell 1; have r2 := f7.cell 2
    simp only [encC, List.getElem?_toArray, List.getElem?_cons_zero, List.getElem?_cons_succ] at q0 q1 q2 r0 r1 r2
    have H7 := Lib.hid h7
    clear x7 f7 h7
    go_wp2_with fail
    refine (C7.out _ H7.out).mono ?_
    rintro e w8 ⟨ka, kc, rfl, hr8, e8, kf8⟩
    obtain ⟨xX, fF, S, hco, hown, nX, nF⟩ := H7.out
    have hlt := hco.lt
    have hXl := xX.lt; have hFl := fF.lt
    clear q0 q1 q2 r0 r1 r2 H7
    have x8 := (xX.keep e8 (by simp)).drew; have f8 := (fF.keep e8 (by simp)).drew
    have q0 := x8.cell 0; have q1 := x8.cell 1; have q2 := x8.cell 2
    have r0 := f8.cell 0; have r1 := f8.cell 1; have r2 := f8.cell 2
    simp only [encC, List.getElem?_toArray, List.getElem?_cons_zero, List.getElem?_cons_succ] at q0 q1 q2 r0 r1 r2
    obtain ⟨kg, rfl, hkg⟩ := hr8.addr (by omega)
    have l1 := hr8.cell encE_ok.len (i := 0) (x := (anE ⟨co, cu, cr⟩ (!cr) emp nm a)) rfl 0 (by omega); have l2 := hr8.cell encE_ok.len (i := 0) (x := (anE ⟨co, cu, cr⟩ (!cr) emp nm a)) rfl 1 (by omega); have l3 := hr8.cell encE_ok.len (i := 0) (x := (anE ⟨co, cu, cr⟩ (!cr) emp nm a)) rfl 2 (by omega)
    simp only [encE, anE, List.getElem?_cons_zero, List.getElem?_cons_succ, Nat.zero_mul, Nat.zero_add] at l1 l2 l3
    have hkS : kg ∉ S := fun hm => by have h1 := kf8 kg rfl; have h2 := hlt kg hm; omega
    have hcl := co_clear 9 bb S [(anE ⟨co, cu, cr⟩ (!cr) emp nm a)] ⟨co, cu, cr⟩ (by simp) w8.drew ((hco.keep0 e8).keep0 (Ext.refl [] w8).drew)
    unfold DropP at hcl
    have hcl : Calls Try.prog 19 #[.pointer (some ⟨bb, 0, none⟩), .agg #[.string co, .string cu, .bool cr]] w8.drew fun r w' => r = .returned (.int .i64 0) ∧ Ext S w8 w' := by
      refine hcl.mono ?_
      rintro r w' ⟨h1, h2, h3⟩
      rw [C8.out] at h1
      exact ⟨h1, ((Ext.refl S w8).drew).trans h3 (fun x hx => .inl hx)⟩
    have hsz := e8.size
    have hX9 : ∀ wz, Ext S w8 wz → ∀ (B o : Nat) (v : Value), B ∉ S → B < w8.heap.size → w8.cell? ⟨B, o, none⟩ = some v → wz.cell? ⟨B, o, none⟩ = some v := fun wz h B o v h1 h2 h3 => (h.cell (p := ⟨B, o, none⟩) h2 h1).trans h3
    have nX' : X ∉ S := fun hm => nX X hm rfl
    have nF' : F ∉ S := fun hm => nF F hm rfl
    have hall : ∀ wz, Ext S w8 wz → wz.cell? ⟨kg, 0, none⟩ = some (.string co) ∧ wz.cell? ⟨kg, 1, none⟩ = some (.string cu) ∧ wz.cell? ⟨kg, 2, none⟩ = some (.bool (!cr)) ∧ wz.cell? ⟨X, 0, none⟩ = some (.string co) ∧ wz.cell? ⟨X, 1, none⟩ = some (.string cu) ∧ wz.cell? ⟨X, 2, none⟩ = some (.bool cr) ∧ wz.cell? ⟨F, 0, none⟩ = some (.string co) ∧ wz.cell? ⟨F, 1, none⟩ = some (.string cu) ∧ wz.cell? ⟨F, 2, none⟩ = some (.bool (!cr)) := fun wz h =>
      ⟨hX9 wz h _ _ _ hkS hkg l1, hX9 wz h _ _ _ hkS hkg l2, hX9 wz h _ _ _ hkS hkg l3, hX9 wz h _ _ _ nX' (by omega) q0, hX9 wz h _ _ _ nX' (by omega) q1, hX9 wz h _ _ _ nX' (by omega) q2, hX9 wz h _ _ _ nF' (by omega) r0, hX9 wz h _ _ _ nF' (by omega) r1, hX9 wz h _ _ _ nF' (by omega) r2⟩
    have hown8 : Ext [] w w8 := hown.ext.trans e8 (by simp)
    have HCL := Lib.hid hcl; have HALL := Lib.hid hall; have HO8 := Lib.hid hown8; have HGE := Lib.hid hown.ge
    clear hr8 hcl hX9 hall hown8 hown hco hlt x8 f8 xX fF kf8 nX nF nX' nF' hkS e8 hXl hFl C1 C2 C3 C4 C5 C6 C7 C8
    go_wp2_with fail
    refine start_ (n := 25) (S := fun w' => w'.cell? ⟨kg, 0, none⟩ = some (.string co) ∧ w'.cell? ⟨kg, 1, none⟩ = some (.string cu) ∧ w'.cell? ⟨kg, 2, none⟩ = some (.bool (!cr)) ∧ w'.cell? ⟨X, 0, none⟩ = some (.string co) ∧ w'.cell? ⟨X, 1, none⟩ = some (.string cu) ∧ w'.cell? ⟨X, 2, none⟩ = some (.bool cr) ∧ w'.cell? ⟨F, 0, none⟩ = some (.string co) ∧ w'.cell? ⟨F, 1, none⟩ = some (.string cu) ∧ w'.cell? ⟨F, 2, none⟩ = some (.bool (!cr))) (ds := []) #[false, false, false, false, false, false, false, false, false, false, false, false, false, false, false, false, false, false, false, false, false, false, false, false, false] (by kernel_rfl) rfl rfl ⟨l1, l2, l3, q0, q1, q2, r0, r1, r2⟩ (fun hHeld => ?_)
    refine pure_ (i := 0) (N := some 107) (v := ?_) (a' := ?_) #[true, false, false, false, false, false, false, false, false, false, false, false, false, false, false, false, false, false, false, false, false, false, false, false, false] rfl rfl (by kernel_rfl) (fun _ _ _ h => h) (Or.inl ⟨by rfl, ?_⟩) ?_ ?_
    rotate_left
    · intro w'
      go_simp
      with_reducible rfl
    rotate_left
    · simp only [Act.put, List.setIfInBounds_toArray, List.set_cons_zero, List.set_cons_succ, i64_w, i32_w]
      rfl
    refine pure_ (i := 1) (N := some 108) (v := ?_) (a' := ?_) #[true, true, false, false, false, false, false, false, false, false, false, false, false, false, false, false, false, false, false, false, false, false, false, false, false] rfl rfl (by kernel_rfl) (fun _ _ _ h => h) (Or.inl ⟨by rfl, ?_⟩) ?_ ?_
    rotate_left
    · intro w'
      go_simp
      with_reducible rfl
    rotate_left
    · simp only [Act.put, List.setIfInBounds_toArray, List.set_cons_zero, List.set_cons_succ, i64_w, i32_w]
      rfl
    refine pure_ (i := 2) (N := some 109) (v := ?_) (a' := ?_) #[true, true, true, false, false, false, false, false, false, false, false, false, false, false, false, false, false, false, false, false, false, false, false, false, false] rfl rfl (by kernel_rfl) (fun _ _ _ h => h) (Or.inl ⟨by rfl, ?_⟩) ?_ ?_
    rotate_left
    · intro w'
      go_simp
      with_reducible rfl
    rotate_left
    · simp only [Act.put, List.setIfInBounds_toArray, List.set_cons_zero, List.set_cons_succ, i64_w, i32_w]
      rfl
    refine pure_ (i := 3) (N := some 110) (v := ?_) (a' := ?_) #[true, true, true, true, false, false, false, false, false, false, false, false, false, false, false, false, false, false, false, false, false, false, false, false, false] rfl rfl (by kernel_rfl) (fun _ _ _ h => h) (Or.inl ⟨by rfl, ?_⟩) ?_ ?_
    rotate_left
    · intro w'
      go_simp
      with_reducible rfl
    rotate_left
    · simp only [Act.put, List.setIfInBounds_toArray, List.set_cons_zero, List.set_cons_succ, i64_w, i32_w]
      rfl
    refine pure_ (i := 4) (N := some 111) (v := ?_) (a' := ?_) #[true, true, true, true, true, false, false, false, false, false, false, false, false, false, false, false, false, false, false, false, false, false, false, false, false] rfl rfl (by kernel_rfl) (fun _ _ _ h => h) (Or.inl ⟨by rfl, ?_⟩) ?_ ?_
    rotate_left
    · intro w'
      go_simp
      with_reducible rfl
    rotate_left
    · simp only [Act.put, List.setIfInBounds_toArray, List.set_cons_zero, List.set_cons_succ, i64_w, i32_w]
      rfl
    refine pure_ (i := 5) (N := some 112) (v := ?_) (a' := ?_) #[true, true, true, true, true, true, false, false, false, false, false, false, false, false, false, false, false, false, false, false, false, false, false, false, false] rfl rfl (by kernel_rfl) (fun _ _ _ h => h) (Or.inl ⟨by rfl, ?_⟩) ?_ ?_
    rotate_left
    · intro w'
      go_simp
      with_reducible rfl
    rotate_left
    · simp only [Act.put, List.setIfInBounds_toArray, List.set_cons_zero, List.set_cons_succ, i64_w, i32_w]
      rfl
    refine pure_ (i := 6) (N := some 113) (v := ?_) (a' := ?_) #[true, true, true, true, true, true, true, false, false, false, false, false, false, false, false, false, false, false, false, false, false, false, false, false, false] rfl rfl (by kernel_rfl) (fun _ _ _ h => h) (Or.inl ⟨by rfl, ?_⟩) ?_ ?_
    rotate_left
    · intro w'
      go_simp
      with_reducible rfl
    rotate_left
    · simp only [Act.put, List.setIfInBounds_toArray, List.set_cons_zero, List.set_cons_succ, i64_w, i32_w]
      rfl
    refine pure_ (i := 7) (N := some 114) (v := ?_) (a' := ?_) #[true, true, true, true, true, true, true, true, false, false, false, false, false, false, false, false, false, false, false, false, false, false, false, false, false] rfl rfl (by kernel_rfl) (fun _ _ _ h => h) (Or.inl ⟨by rfl, ?_⟩) ?_ ?_
    rotate_left
    · intro w'
      go_simp
      with_reducible rfl
    rotate_left
    · simp only [Act.put, List.setIfInBounds_toArray, List.set_cons_zero, List.set_cons_succ, i64_w, i32_w]
      rfl
    refine pure_ (i := 8) (N := some 115) (v := ?_) (a' := ?_) #[true, true, true, true, true, true, true, true, true, false, false, false, false, false, false, false, false, false, false, false, false, false, false, false, false] rfl rfl (by kernel_rfl) (fun _ _ _ h => h) (Or.inl ⟨by rfl, ?_⟩) ?_ ?_
    rotate_left
    · intro w'
      go_simp
      with_reducible rfl
    rotate_left
    · simp only [Act.put, List.setIfInBounds_toArray, List.set_cons_zero, List.set_cons_succ, i64_w, i32_w]
      rfl
    refine pure_ (i := 9) (N := some 116) (v := ?_) (a' := ?_) #[true, true, true, true, true, true, true, true, true, true, false, false, false, false, false, false, false, false, false, false, false, false, false, false, false] rfl rfl (by kernel_rfl) (fun _ _ _ h => h) (Or.inl ⟨by rfl, ?_⟩) ?_ ?_
    rotate_left
    · intro w'
      go_simp
      with_reducible rfl
    rotate_left
    · simp only [Act.put, List.setIfInBounds_toArray, List.set_cons_zero, List.set_cons_succ, i64_w, i32_w]
      rfl
    refine pure_ (i := 10) (N := some 117) (v := ?_) (a' := ?_) #[true, true, true, true, true, true, true, true, true, true, true, false, false, false, false, false, false, false, false, false, false, false, false, false, false] rfl rfl (by kernel_rfl) (fun _ _ _ h => h) (Or.inl ⟨by rfl, ?_⟩) ?_ ?_
    rotate_left
    · intro w'
      go_simp
      with_reducible rfl
    rotate_left
    · simp only [Act.put, List.setIfInBounds_toArray, List.set_cons_zero, List.set_cons_succ, i64_w, i32_w]
      rfl
    refine take_ (i := 11) (N := some 118) (v := ?_) (a' := ?_) #[true, true, true, true, true, true, true, true, true, true, true, true, false, false, false, false, false, false, false, false, false, false, false, false, false] rfl rfl (by kernel_rfl) (fun _ _ _ h => h) (Or.inl ⟨by rfl, ?_⟩) hHeld ?_ ?_
    rotate_left
    · rintro w' ⟨s0, s1, s2, s3, s4, s5, s6, s7, s8⟩
      go_simp
      with_reducible rfl
    rotate_left
    · simp only [Act.put, List.setIfInBounds_toArray, List.set_cons_zero, List.set_cons_succ, i64_w, i32_w]
      rfl
    refine take_ (i := 12) (N := some 119) (v := ?_) (a' := ?_) #[true, true, true, true, true, true, true, true, true, true, true, true, true, false, false, false, false, false, false, false, false, false, false, false, false] rfl rfl (by kernel_rfl) (fun _ _ _ h => h) (Or.inl ⟨by rfl, ?_⟩) hHeld ?_ ?_
    rotate_left
    · rintro w' ⟨s0, s1, s2, s3, s4, s5, s6, s7, s8⟩
      go_simp
      with_reducible rfl
    rotate_left
    · simp only [Act.put, List.setIfInBounds_toArray, List.set_cons_zero, List.set_cons_succ, i64_w, i32_w]
      rfl
    refine pure_ (i := 13) (N := some 120) (v := ?_) (a' := ?_) #[true, true, true, true, true, true, true, true, true, true, true, true, true, true, false, false, false, false, false, false, false, false, false, false, false] rfl rfl (by kernel_rfl) (fun _ _ _ h => h) (Or.inl ⟨by rfl, ?_⟩) ?_ ?_
    rotate_left
    · intro w'
      go_simp
      with_reducible rfl
    rotate_left
    · simp only [Act.put, List.setIfInBounds_toArray, List.set_cons_zero, List.set_cons_succ, i64_w, i32_w]
      rfl
    refine pure_ (i := 14) (N := some 121) (v := ?_) (a' := ?_) #[true, true, true, true, true, true, true, true, true, true, true, true, true, true, true, false, false, false, false, false, false, false, false, false, false] rfl rfl (by kernel_rfl) (fun _ _ _ h => h) (Or.inl ⟨by rfl, ?_⟩) ?_ ?_
    rotate_left
    · intro w'
      go_simp
      with_reducible rfl
    rotate_left
    · simp only [Act.put, List.setIfInBounds_toArray, List.set_cons_zero, List.set_cons_succ, i64_w, i32_w]
      rfl
    refine pure_ (i := 15) (N := some 122) (v := ?_) (a' := ?_) #[true, true, true, true, true, true, true, true, true, true, true, true, true, true, true, true, false, false, false, false, false, false, false, false, false] rfl rfl (by kernel_rfl) (fun _ _ _ h => h) (Or.inl ⟨by rfl, ?_⟩) ?_ ?_
    rotate_left
    · intro w'
      go_simp
      with_reducible rfl
    rotate_left
    · simp only [Act.put, List.setIfInBounds_toArray, List.set_cons_zero, List.set_cons_succ, i64_w, i32_w]
      rfl
    refine pure_ (i := 16) (N := some 123) (v := ?_) (a' := ?_) #[true, true, true, true, true, true, true, true, true, true, true, true, true, true, true, true, true, false, false, false, false, false, false, false, false] rfl rfl (by kernel_rfl) (fun _ _ _ h => h) (Or.inl ⟨by rfl, ?_⟩) ?_ ?_
    rotate_left
    · intro w'
      go_simp
      with_reducible rfl
    rotate_left
    · simp only [Act.put, List.setIfInBounds_toArray, List.set_cons_zero, List.set_cons_succ, i64_w, i32_w]
      rfl
    refine take_ (i := 17) (N := some 124) (v := ?_) (a' := ?_) #[true, true, true, true, true, true, true, true, true, true, true, true, true, true, true, true, true, true, false, false, false, false, false, false, false] rfl rfl (by kernel_rfl) (fun _ _ _ h => h) (Or.inl ⟨by rfl, ?_⟩) hHeld ?_ ?_
    rotate_left
    · rintro w' ⟨s0, s1, s2, s3, s4, s5, s6, s7, s8⟩
      go_simp
      with_reducible rfl
    rotate_left
    · simp only [Act.put, List.setIfInBounds_toArray, List.set_cons_zero, List.set_cons_succ, i64_w, i32_w]
      rfl
    refine one_ (i := 18) (N := some 125) #[true, true, true, true, true, true, true, true, true, true, true, true, true, true, true, true, true, true, true, false, false, false, false, false, false] rfl rfl (by kernel_rfl) (by decide) (fun K hK => ?_)
    refine goes_ Try.func19 (by kernel_rfl) rfl #[.pointer (some ⟨bb, 0, none⟩), .agg #[.string co, .string cu, .bool cr]] (by rfl) rfl rfl (by simp only [List.map_toArray, List.map_cons, List.map_nil]; rfl) ?_
    with_reducible refine (HCL.out).mono ?_
    rintro e w9 ⟨rfl, h9⟩
    refine ⟨_, rfl, ?_⟩
    refine hK.out _ _ ⟨(HALL.out _ h9).1, (HALL.out _ h9).2.1, (HALL.out _ h9).2.2.1, (HALL.out _ h9).2.2.2.1, (HALL.out _ h9).2.2.2.2.1, (HALL.out _ h9).2.2.2.2.2.1, (HALL.out _ h9).2.2.2.2.2.2.1, (HALL.out _ h9).2.2.2.2.2.2.2.1, (HALL.out _ h9).2.2.2.2.2.2.2.2⟩ (fun hHeld => ?_)
    clear hK K
    refine norm_ (a' := ?_) ?_ ?_
    rotate_left
    · show Act.put _ (some 125) _ = _
      simp only [Act.put, List.setIfInBounds_toArray, List.set_cons_zero, List.set_cons_succ, i64_w, i32_w]
      rfl
    refine pure_ (i := 19) (N := some 126) (v := ?_) (a' := ?_) #[true, true, true, true, true, true, true, true, true, true, true, true, true, true, true, true, true, true, true, true, false, false, false, false, false] rfl rfl (by kernel_rfl) (fun _ _ _ h => h) (Or.inl ⟨by rfl, ?_⟩) ?_ ?_
    rotate_left
    · intro w'
      go_simp
      with_reducible rfl
    rotate_left
    · simp only [Act.put, List.setIfInBounds_toArray, List.set_cons_zero, List.set_cons_succ, i64_w, i32_w]
      rfl
    refine pure_ (i := 20) (N := some 127) (v := ?_) (a' := ?_) #[true, true, true, true, true, true, true, true, true, true, true, true, true, true, true, true, true, true, true, true, true, false, false, false, false] rfl rfl (by kernel_rfl) (fun _ _ _ h => h) (Or.inl ⟨by rfl, ?_⟩) ?_ ?_
    rotate_left
    · intro w'
      go_simp
      with_reducible rfl
    rotate_left
    · simp only [Act.put, List.setIfInBounds_toArray, List.set_cons_zero, List.set_cons_succ, i64_w, i32_w]
      rfl
    refine pure_ (i := 21) (N := some 128) (v := ?_) (a' := ?_) #[true, true, true, true, true, true, true, true, true, true, true, true, true, true, true, true, true, true, true, true, true, true, false, false, false] rfl rfl (by kernel_rfl) (fun _ _ _ h => h) (Or.inl ⟨by rfl, ?_⟩) ?_ ?_
    rotate_left
    · intro w'
      go_simp
      with_reducible rfl
    rotate_left
    · simp only [Act.put, List.setIfInBounds_toArray, List.set_cons_zero, List.set_cons_succ, i64_w, i32_w]
      rfl
    refine one_ (i := 22) (N := some 129) #[true, true, true, true, true, true, true, true, true, true, true, true, true, true, true, true, true, true, true, true, true, true, true, false, false] rfl rfl (by kernel_rfl) (by decide) (fun K hK => ?_)
    refine goes_ Try.func12 (by kernel_rfl) rfl #[] (by rfl) rfl rfl (by simp only [List.map_toArray, List.map_nil]) ?_
    with_reducible refine (awakeC_any _).mono ?_
    rintro e w10 ⟨rfl, e10⟩
    refine ⟨_, rfl, ?_⟩
    have e11 := h9.trans e10 (by simp)
    refine hK.out _ _ ⟨(HALL.out _ e11).1, (HALL.out _ e11).2.1, (HALL.out _ e11).2.2.1, (HALL.out _ e11).2.2.2.1, (HALL.out _ e11).2.2.2.2.1, (HALL.out _ e11).2.2.2.2.2.1, (HALL.out _ e11).2.2.2.2.2.2.1, (HALL.out _ e11).2.2.2.2.2.2.2.1, (HALL.out _ e11).2.2.2.2.2.2.2.2⟩ (fun hHeld => ?_)
    clear hK K
    refine norm_ (a' := ?_) ?_ ?_
    rotate_left
    · show Act.put _ (some 129) _ = _
      simp only [Act.put, List.setIfInBounds_toArray, List.set_cons_zero, List.set_cons_succ, i64_w, i32_w]
      rfl
    refine pure_ (i := 23) (N := some 130) (v := ?_) (a' := ?_) #[true, true, true, true, true, true, true, true, true, true, true, true, true, true, true, true, true, true, true, true, true, true, true, true, false] rfl rfl (by kernel_rfl) (fun _ _ _ h => h) (Or.inl ⟨by rfl, ?_⟩) ?_ ?_
    rotate_left
    · intro w'
      go_simp
      with_reducible rfl
    rotate_left
    · simp only [Act.put, List.setIfInBounds_toArray, List.set_cons_zero, List.set_cons_succ, i64_w, i32_w]
      rfl
    refine pure_ (i := 24) (N := some 8) (v := ?_) (a' := ?_) #[true, true, true, true, true, true, true, true, true, true, true, true, true, true, true, true, true, true, true, true, true, true, true, true, true] rfl rfl (by kernel_rfl) (fun _ _ _ h => h) (Or.inl ⟨by rfl, ?_⟩) ?_ ?_
    rotate_left
    · intro w'
      go_simp
      with_reducible rfl
    rotate_left
    · simp only [Act.put, List.setIfInBounds_toArray, List.set_cons_zero, List.set_cons_succ, i64_w, i32_w]
      rfl
    refine done_ (by kernel_rfl) ?_
    go_wp2_with fail
    go_ret
    exact ⟨rfl, HO8.out.fresh e11 HGE.out⟩
end Go.Proofs.Ytkbjpackijdnkaa
