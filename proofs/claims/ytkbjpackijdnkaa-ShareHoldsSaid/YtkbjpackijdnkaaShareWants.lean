/- ShareWants: its walk. -/
import Derived.Test.YtkbjpackijdnkaaShAwake
import Derived.Test.YtkbjpackijdnkaaCacheCov
import Derived.Test.YtkbjpackijdnkaaCore2
namespace Go.Proofs.Ytkbjpackijdnkaa
open Go.Joins Go.ChangeShapes Go.WideShapes Go.RowKit Go.Deep Go.Proofs.YtkbjpackijdnkaaW.PrintLast
set_option linter.unusedVariables false
set_option linter.unusedSimpArgs false

set_option maxRecDepth 100000 in
theorem want_cells {H : Type} {enc : TypeId × Value → H} {W : World} (cs : List Value) (m : Nat) (y : DataW H × List MemPlace) (hl : cs.length = 5) (h : DataW.trod enc Try.prog W 0 (fun _ => true) true m 44 cs = some y) : ∃ x, encW x = cs ∧ True := by
  obtain ⟨ys, n, _, _, _, hlen, hg⟩ := DataW.trod_struct Try.underlying44 h
  have k33 : Try.prog.cellsOf 33 = 3 := by kernel_rfl
  have k9 : Try.prog.cellsOf 9 = 1 := by kernel_rfl
  have k4 : Try.prog.cellsOf 4 = 1 := by kernel_rfl
  match cs, hl with
  | [c0, c1, c2, c3, c4], _ =>
    match ys, hlen with
    | [y0, y1, y2], _ =>
      have g0 : DataW.trod enc Try.prog W 0 (fun _ => true) true n 33 (List.take (Try.prog.cellsOf 33) [c0, c1, c2, c3, c4]) = some y0 := hg 0 _ rfl
      have g1 : DataW.trod enc Try.prog W 0 (fun _ => true) true n 9 (List.take (Try.prog.cellsOf 9) [c3, c4]) = some y1 := hg 1 _ rfl
      have g2 : DataW.trod enc Try.prog W 0 (fun _ => true) true n 9 (List.take (Try.prog.cellsOf 9) [c4]) = some y2 := hg 2 _ rfl
      rw [k33] at g0; rw [k9] at g1 g2
      obtain ⟨zs, n2, _, _, _, hlen2, hg2⟩ := DataW.trod_struct Try.underlying33 g0
      match zs, hlen2 with
      | [z0, z1, z2], _ =>
        have f0 : DataW.trod enc Try.prog W 0 (fun _ => true) true n2 9 (List.take (Try.prog.cellsOf 9) [c0, c1, c2]) = some z0 := hg2 0 _ rfl
        have f1 : DataW.trod enc Try.prog W 0 (fun _ => true) true n2 9 (List.take (Try.prog.cellsOf 9) [c1, c2]) = some z1 := hg2 1 _ rfl
        have f2 : DataW.trod enc Try.prog W 0 (fun _ => true) true n2 4 (List.take (Try.prog.cellsOf 4) [c2]) = some z2 := hg2 2 _ rfl
        rw [k9] at f0 f1; rw [k4] at f2
        obtain ⟨a0, e0, -⟩ := DataW.trod_string Try.underlying9 f0
        obtain ⟨a1, e1, -⟩ := DataW.trod_string Try.underlying9 f1
        obtain ⟨a2, e2, -⟩ := DataW.trod_bool Try.underlying4 f2
        obtain ⟨a3, e3, -⟩ := DataW.trod_string Try.underlying9 g1
        obtain ⟨a4, e4, -⟩ := DataW.trod_string Try.underlying9 g2
        simp at e0 e1 e2 e3 e4
        exact ⟨⟨a0, a1, a2, a3, a4⟩, by simp [encW, e0, e1, e2, e3, e4], trivial⟩
set_option maxRecDepth 100000 in
theorem open_want {H : Type} {enc : TypeId × Value → H} {W : World} {b : Nat} {v : Value} {d : DataW H} {p : List MemPlace}
    (hv : Value.okWide Try.prog W .any b 44 v) (h : DataW.Trod enc Try.prog W 0 (fun _ => true) true 44 v d p) :
    ∃ z : Wt, v = .agg (encW z).toArray ∧ True := by
  obtain ⟨cs, rfl, hsz⟩ := okWide_struct Try.underlying44 hv
  have k44 : Try.prog.cellsOf 44 = 5 := by kernel_rfl
  obtain ⟨fuel, hf⟩ := h
  have hf : DataW.trod enc Try.prog W 0 (fun _ => true) true fuel 44 cs.toList = some (d, p) := hf
  obtain ⟨z, hz, _⟩ := want_cells cs.toList fuel _ (by rw [Array.length_toList, hsz, k44]) hf
  exact ⟨z, by rw [hz], trivial⟩

def greatW (e : Wt) : Bool := longL 300 [e.org, e.url, e.meth, e.names]
set_option maxHeartbeats 1600000 in
theorem greatW_any (e : Wt) (w : World) : Calls Try.prog 22 #[.agg (encW e).toArray] w fun r w' => r = .returned (.bool (greatW e)) ∧ Ext [] w w' := by
  have hL := long_any 300 (by omega) (by omega) _ 4 4 [e.org, e.url, e.meth, e.names] _ (Slc.four_str (w.alloc (.cells (encW e).toArray 44 (0, 0))) e.org e.url e.meth e.names 9) (by omega)
  rw [World.size_alloc] at hL
  have hg : greatW e = longL 300 [e.org, e.url, e.meth, e.names] := rfl
  rw [← hg] at hL
  have HL := Lib.hid hL
  have he : Ext [] w ((w.alloc (.cells (encW e).toArray 44 (0, 0))).alloc (.cells #[.string e.org, .string e.url, .string e.meth, .string e.names] 9 (0, 0))) := ((Ext.refl _ _).alloc _).alloc _
  have HE := Lib.hid he
  clear hL hg he
  unfold encW at HL HE ⊢
  go_enter Try.func22, Try.ntmps22
  go_wp2_with fail
  refine HL.out.mono ?_
  rintro r w1 ⟨rfl, rfl⟩
  go_wp2_with fail
  go_ret
  exact ⟨rfl, HE.out⟩

theorem sw_refl (x : Wt) : sameW x x = true := by unfold sameW; simp
theorem sw_eq {x y : Wt} (h : sameW x y = true) : x = y := by
  unfold sameW at h
  simp only [Bool.and_eq_true, decide_eq_true_eq, beq_iff_eq] at h
  cases x; cases y; simp_all
theorem sw_first (x : Wt) : joinA [] 0 x 1 = ((1, true, 0), 1, [⟨1, x, [1]⟩]) := by
  unfold joinA; simp [cntA]
theorem sw_second_same (x : Wt) : joinA [⟨1, x, [1]⟩] 1 x 2 = ((1, false, 0), 1, [⟨1, x, [1, 2]⟩]) := by
  unfold joinA
  simp [cntA, holdsA, hasI, wantIsA, sw_refl]
theorem sw_second_new (x y : Wt) (h : sameW x y = false) : joinA [⟨1, x, [1]⟩] 1 y 2 = ((2, true, 0), 2, [⟨1, x, [1]⟩, ⟨2, y, [2]⟩]) := by
  unfold joinA
  simp [cntA, holdsA, hasI, wantIsA, h]
theorem sw_want1 (x : Wt) : wantA [⟨1, x, [1, 2]⟩] 1 = (x, true) := by unfold wantA; simp [numA]
theorem sw_want2 (x y : Wt) : wantA [⟨1, x, [1]⟩, ⟨2, y, [2]⟩] 2 = (y, true) := by unfold wantA; simp [numA]
/-- The table, and two wants that lie apart from it. -/
def StS (w : World) (b X Y : Nat) (x y : Wt) (last : Int) (M : List Sk) (wx : World) : Prop :=
  Blk wx X (encW x).toArray 44 ∧ Blk wx Y (encW y).toArray 44 ∧ ∃ S, SH wx b S last M ∧ Own w wx S ∧ (∀ z ∈ S, z ≠ X) ∧ (∀ z ∈ S, z ≠ Y)
theorem sts_join {w : World} {b X Y : Nat} {x y : Wt} {last : Int} {M : List Sk} (h0 : 0 ≤ last) (h1 : last < 1000000) (hl : M.length < 1000) (hu : MemOk M) (t : Wt) (id : Int) (wx : World) (h : StS w b X Y x y last M wx) :
    Calls Try.prog 25 #[.pointer (some ⟨b, 0, none⟩), .agg (encW t).toArray, .int .i64 id] wx fun r w' => r = .returned (.tuple #[.int .i64 (joinA M last t id).1.1, .bool (joinA M last t id).1.2.1, .int .i64 (joinA M last t id).1.2.2]) ∧ StS w b X Y x y (joinA M last t id).2.1 (joinA M last t id).2.2 w' := by
  obtain ⟨g1, g2, S, g3, g4, g5, g6⟩ := h
  refine (sh_join b S last h0 h1 M t id hl hu wx g3).mono ?_
  rintro r w' ⟨hr, S', k1, k2, k3⟩
  exact ⟨hr, g1.keep k2 (fun hm => g5 X hm rfl), g2.keep k2 (fun hm => g6 Y hm rfl), S', k1, g4.step k2 k3, own_ne g5 k3 g1.lt, own_ne g6 k3 g2.lt⟩
theorem sts_want {w : World} {b X Y : Nat} {x y : Wt} {last : Int} {M : List Sk} (hl : M.length < 1000) (pre : Int) (wx : World) (h : StS w b X Y x y last M wx) :
    Calls Try.prog 26 #[.pointer (some ⟨b, 0, none⟩), .int .i64 pre] wx fun r w' => r = .returned (.tuple #[.agg (encW (wantA M pre).1).toArray, .bool (wantA M pre).2]) ∧ Blk w' X (encW x).toArray 44 ∧ Blk w' Y (encW y).toArray 44 ∧ Ext [] w w' := by
  obtain ⟨g1, g2, S, g3, g4, g5, g6⟩ := h
  refine (sh_want b S last M pre (by omega) wx g3).mono ?_
  rintro r w' ⟨hr, k1⟩
  exact ⟨hr, g1.keep k1 (by simp), g2.keep k1 (by simp), g4.ext.trans k1 (by simp)⟩

set_option maxHeartbeats 16000000 in
set_option maxRecDepth 100000 in
theorem shareWants_walk (w : World) (x : Wt) (_hx : True) (y : Wt) (_hy : True) :
    Calls Try.prog 6 #[.agg (encW x).toArray, .agg (encW y).toArray] w fun e w' => e = .returned (.bool true) ∧ Ext [] w w' := by
  clear _hx _hy
  obtain ⟨xo, xu, xc, xm, xn⟩ := x
  obtain ⟨yo, yu, yc, ym, yn⟩ := y
  have e0 : Ext [] w ((w.alloc (.cells #[.string xo, .string xu, .bool xc, .string xm, .string xn] 44 (0, 0))).alloc (.cells #[.string yo, .string yu, .bool yc, .string ym, .string yn] 44 (0, 0))) := ((Ext.refl _ _).alloc _).alloc _
  have hX : Blk ((w.alloc (.cells #[.string xo, .string xu, .bool xc, .string xm, .string xn] 44 (0, 0))).alloc (.cells #[.string yo, .string yu, .bool yc, .string ym, .string yn] 44 (0, 0))) w.heap.size #[.string xo, .string xu, .bool xc, .string xm, .string xn] 44 := (Blk.new _ _ _).alloc _
  have hY : Blk ((w.alloc (.cells #[.string xo, .string xu, .bool xc, .string xm, .string xn] 44 (0, 0))).alloc (.cells #[.string yo, .string yu, .bool yc, .string ym, .string yn] 44 (0, 0))) (w.heap.size + 1) #[.string yo, .string yu, .bool yc, .string ym, .string yn] 44 := by
    have := Blk.new (w.alloc (.cells #[.string xo, .string xu, .bool xc, .string xm, .string xn] 44 (0, 0))) #[.string yo, .string yu, .bool yc, .string ym, .string yn] 44
    rw [World.size_alloc] at this; exact this
  have hg1 : ∀ W, Calls Try.prog 22 #[.agg #[.string xo, .string xu, .bool xc, .string xm, .string xn]] W fun r w' => r = .returned (.bool (greatW ⟨xo, xu, xc, xm, xn⟩)) ∧ Ext [] W w' := fun W => greatW_any ⟨xo, xu, xc, xm, xn⟩ W
  have hg2 : ∀ W, Calls Try.prog 22 #[.agg #[.string yo, .string yu, .bool yc, .string ym, .string yn]] W fun r w' => r = .returned (.bool (greatW ⟨yo, yu, yc, ym, yn⟩)) ∧ Ext [] W w' := fun W => greatW_any ⟨yo, yu, yc, ym, yn⟩ W
  generalize greatW ⟨xo, xu, xc, xm, xn⟩ = g1 at hg1
  generalize greatW ⟨yo, yu, yc, ym, yn⟩ = g2 at hg2
  have E0 := Lib.hid e0; have HX := Lib.hid hX; have HY := Lib.hid hY; have HG1 := Lib.hid hg1; have HG2 := Lib.hid hg2
  clear e0 hX hY hg1 hg2
  unfold encW
  cases g1 with
  | true =>
    go_enter Try.func6, Try.ntmps6
    go_wp2_with fail
    refine (HG1.out _).mono ?_
    rintro e w1 ⟨rfl, e1⟩
    go_wp2_with fail
    refine (awakeP_any _).mono ?_
    rintro e w2 ⟨rfl, e2⟩
    go_wp2_with fail
    go_ret
    exact ⟨rfl, (E0.out.trans e1 (by simp)).trans e2 (by simp)⟩
  | false =>
    go_enter Try.func6, Try.ntmps6
    go_wp2_with fail
    refine (HG1.out _).mono ?_
    rintro e w1 ⟨rfl, e1⟩
    have x1 := E0.out.trans e1 (by simp)
    have hX1 := HX.out.keep e1 (by simp); have hY1 := HY.out.keep e1 (by simp)
    obtain ⟨Y, hYe⟩ : ∃ Y, w.heap.size + 1 = Y := ⟨_, rfl⟩
    rw [hYe] at hY1
    have r0 := hY1.cell 0; have r1 := hY1.cell 1; have r2 := hY1.cell 2; have r3 := hY1.cell 3; have r4 := hY1.cell 4
    simp only [List.getElem?_toArray, List.getElem?_cons_zero, List.getElem?_cons_succ] at r0 r1 r2 r3 r4
    have X1 := Lib.hid x1; have HX1 := Lib.hid hX1; have HY1 := Lib.hid hY1
    clear x1 hX1 hY1 e1 HX HY E0 HG1
    cases g2 with
    | true =>
      go_wp2_with fail
      refine (HG2.out _).mono ?_
      rintro e w2 ⟨rfl, e2⟩
      go_wp2_with fail
      refine (awakeP_any _).mono ?_
      rintro e w3 ⟨rfl, e3⟩
      go_wp2_with fail
      go_ret
      exact ⟨rfl, (X1.out.trans e2 (by simp)).trans e3 (by simp)⟩
    | false =>
      go_wp2_with fail
      refine (HG2.out _).mono ?_
      rintro e w2 ⟨rfl, e2⟩
      have x2 := X1.out.trans e2 (by simp)
      have hX2 := HX1.out.keep e2 (by simp); have hY2 := HY1.out.keep e2 (by simp)
      have X2 := Lib.hid x2; have HX2 := Lib.hid hX2; have HY2 := Lib.hid hY2
      clear x2 hX2 hY2 e2 HX1 HY1 X1 HG2 r0 r1 r2 r3 r4
      go_wp2_with fail
      refine (sh_new w2).mono ?_
      rintro e w3 ⟨rfl, h3, e3⟩
      have o3 := Own.start (X2.out.trans e3 (by simp)) (S := [w2.heap.size]) (by simpa using X2.out.size)
      have hX3 := HX2.out.keep e3 (by simp); have hY3 := HY2.out.keep e3 (by simp)
      have hXl := HX2.out.lt; have hYl := HY2.out.lt
      obtain ⟨b, hb⟩ : ∃ b, w2.heap.size = b := ⟨_, rfl⟩
      obtain ⟨X, hXe⟩ : ∃ X, w.heap.size = X := ⟨_, rfl⟩
      rw [hb] at h3 o3 hXl hYl; rw [hXe] at hX3 hXl
      have hst : StS w b X Y ⟨xo, xu, xc, xm, xn⟩ ⟨yo, yu, yc, ym, yn⟩ 0 [] w3 := ⟨hX3, hY3, [b], h3, o3, by intro z hz; simp at hz; omega, by intro z hz; simp at hz; omega⟩
      have q0 := hX3.cell 0; have q1 := hX3.cell 1; have q2 := hX3.cell 2; have q3 := hX3.cell 3; have q4 := hX3.cell 4
      simp only [List.getElem?_toArray, List.getElem?_cons_zero, List.getElem?_cons_succ] at q0 q1 q2 q3 q4
      have hj1 := sts_join (by omega) (by omega) (by simp) (by intro s hs; simp at hs) ⟨xo, xu, xc, xm, xn⟩ 1 w3 hst
      rw [sw_first] at hj1
      have hj1 : Calls Try.prog 25 #[.pointer (some ⟨b, 0, none⟩), .agg #[.string xo, .string xu, .bool xc, .string xm, .string xn], .int .i64 1] w3 fun r w' => r = .returned (.tuple #[.int .i64 1, .bool true, .int .i64 0]) ∧ StS w b X Y ⟨xo, xu, xc, xm, xn⟩ ⟨yo, yu, yc, ym, yn⟩ 1 [⟨1, ⟨xo, xu, xc, xm, xn⟩, [1]⟩] w' := hj1
      have hj2 := fun W (h : StS w b X Y ⟨xo, xu, xc, xm, xn⟩ ⟨yo, yu, yc, ym, yn⟩ 1 [⟨1, ⟨xo, xu, xc, xm, xn⟩, [1]⟩] W) => sts_join (by omega) (by omega) (by simp) (by intro s hs; simp at hs; subst hs; simp) ⟨yo, yu, yc, ym, yn⟩ 2 W h
      have HJ1 := Lib.hid hj1; have HJ2 := Lib.hid hj2
      clear hj1 hj2 h3 o3 hX3 hY3 hXl hYl hst e3 X2 HX2 HY2
      go_wp2_with fail
      clear hb hXe hYe
      refine HJ1.out.mono ?_
      rintro e w4 ⟨rfl, h4⟩
      have hX4 := h4.1; have hY4 := h4.2.1
      clear q0 q1 q2 q3 q4
      have r0 := hY4.cell 0; have r1 := hY4.cell 1; have r2 := hY4.cell 2; have r3 := hY4.cell 3; have r4 := hY4.cell 4
      simp only [encW, List.getElem?_toArray, List.getElem?_cons_zero, List.getElem?_cons_succ] at r0 r1 r2 r3 r4
      have H4 := Lib.hid h4
      clear hX4 hY4 h4 HJ1
      by_cases hsw : sameW ⟨xo, xu, xc, xm, xn⟩ ⟨yo, yu, yc, ym, yn⟩ = true
      · have hj2 := HJ2.out w4 H4.out
        have heq := sw_eq hsw
        injection heq with he1 he2 he3 he4 he5
        subst he1 he2 he3 he4 he5
        rw [sw_second_same] at hj2
        have hj2 : Calls Try.prog 25 #[.pointer (some ⟨b, 0, none⟩), .agg #[.string xo, .string xu, .bool xc, .string xm, .string xn], .int .i64 2] w4 fun r w' => r = .returned (.tuple #[.int .i64 1, .bool false, .int .i64 0]) ∧ StS w b X Y ⟨xo, xu, xc, xm, xn⟩ ⟨xo, xu, xc, xm, xn⟩ 1 [⟨1, ⟨xo, xu, xc, xm, xn⟩, [1, 2]⟩] w' := hj2
        have hwa := fun W (h : StS w b X Y ⟨xo, xu, xc, xm, xn⟩ ⟨xo, xu, xc, xm, xn⟩ 1 [⟨1, ⟨xo, xu, xc, xm, xn⟩, [1, 2]⟩] W) => sts_want (by simp) 1 W h
        rw [sw_want1] at hwa
        have hwa : ∀ W, StS w b X Y ⟨xo, xu, xc, xm, xn⟩ ⟨xo, xu, xc, xm, xn⟩ 1 [⟨1, ⟨xo, xu, xc, xm, xn⟩, [1, 2]⟩] W → Calls Try.prog 26 #[.pointer (some ⟨b, 0, none⟩), .int .i64 1] W fun r w' => r = .returned (.tuple #[.agg #[.string xo, .string xu, .bool xc, .string xm, .string xn], .bool true]) ∧ Blk w' X #[.string xo, .string xu, .bool xc, .string xm, .string xn] 44 ∧ Blk w' Y #[.string xo, .string xu, .bool xc, .string xm, .string xn] 44 ∧ Ext [] w w' := hwa
        have HJ := Lib.hid hj2; have HWA := Lib.hid hwa
        clear hj2 hwa hsw HJ2
        go_wp2_with fail
        refine HJ.out.mono ?_
        rintro e w5 ⟨rfl, h5⟩
        clear r0 r1 r2 r3 r4
        go_wp2_with fail
        refine (HWA.out w5 h5).mono ?_
        rintro e w6 ⟨rfl, hX6, hY6, x6⟩
        have q0 := hX6.cell 0; have q1 := hX6.cell 1; have q2 := hX6.cell 2; have q3 := hX6.cell 3; have q4 := hX6.cell 4
        have r0 := hY6.cell 0; have r1 := hY6.cell 1; have r2 := hY6.cell 2; have r3 := hY6.cell 3; have r4 := hY6.cell 4
        simp only [List.getElem?_toArray, List.getElem?_cons_zero, List.getElem?_cons_succ] at q0 q1 q2 q3 q4 r0 r1 r2 r3 r4
        have hXl := hX6.lt; have hYl := hY6.lt
        have X6 := Lib.hid x6
        clear hX6 hY6 x6 h5
        go_wp2_with fail
        refine (awakeP_any _).mono ?_
        rintro e w7 ⟨rfl, e7⟩
        go_wp2_with fail
        go_ret
        exact ⟨rfl, (X6.out.alloc _).trans e7 (by simp)⟩
      · have hsf : sameW ⟨xo, xu, xc, xm, xn⟩ ⟨yo, yu, yc, ym, yn⟩ = false := by simpa using hsw
        have hj2 := HJ2.out w4 H4.out
        rw [sw_second_new _ _ hsf] at hj2
        have hj2 : Calls Try.prog 25 #[.pointer (some ⟨b, 0, none⟩), .agg #[.string yo, .string yu, .bool yc, .string ym, .string yn], .int .i64 2] w4 fun r w' => r = .returned (.tuple #[.int .i64 2, .bool true, .int .i64 0]) ∧ StS w b X Y ⟨xo, xu, xc, xm, xn⟩ ⟨yo, yu, yc, ym, yn⟩ 2 [⟨1, ⟨xo, xu, xc, xm, xn⟩, [1]⟩, ⟨2, ⟨yo, yu, yc, ym, yn⟩, [2]⟩] w' := hj2
        have hwa := fun W (h : StS w b X Y ⟨xo, xu, xc, xm, xn⟩ ⟨yo, yu, yc, ym, yn⟩ 2 [⟨1, ⟨xo, xu, xc, xm, xn⟩, [1]⟩, ⟨2, ⟨yo, yu, yc, ym, yn⟩, [2]⟩] W) => sts_want (by simp) 2 W h
        rw [sw_want2] at hwa
        have hwa : ∀ W, StS w b X Y ⟨xo, xu, xc, xm, xn⟩ ⟨yo, yu, yc, ym, yn⟩ 2 [⟨1, ⟨xo, xu, xc, xm, xn⟩, [1]⟩, ⟨2, ⟨yo, yu, yc, ym, yn⟩, [2]⟩] W → Calls Try.prog 26 #[.pointer (some ⟨b, 0, none⟩), .int .i64 2] W fun r w' => r = .returned (.tuple #[.agg #[.string yo, .string yu, .bool yc, .string ym, .string yn], .bool true]) ∧ Blk w' X #[.string xo, .string xu, .bool xc, .string xm, .string xn] 44 ∧ Blk w' Y #[.string yo, .string yu, .bool yc, .string ym, .string yn] 44 ∧ Ext [] w w' := hwa
        have HJ := Lib.hid hj2; have HWA := Lib.hid hwa
        have hsplit : (¬ xo.toList = yo.toList) ∨ (xo = yo ∧ ¬ xu.toList = yu.toList) ∨ (xo = yo ∧ xu = yu ∧ xc = !yc) ∨ (xo = yo ∧ xu = yu ∧ xc = yc ∧ ¬ xm.toList = ym.toList) ∨ (xo = yo ∧ xu = yu ∧ xc = yc ∧ xm = ym ∧ ¬ xn.toList = yn.toList) := by
          by_cases g1 : xo = yo
          · right
            by_cases g2 : xu = yu
            · right
              by_cases g3 : xc = yc
              · right
                by_cases g4 : xm = ym
                · right
                  refine ⟨g1, g2, g3, g4, fun h => ?_⟩
                  have g5 := bytes_inj.1 h
                  subst g1 g2 g3 g4 g5
                  rw [sw_refl] at hsf; cases hsf
                · left; exact ⟨g1, g2, g3, fun h => g4 (bytes_inj.1 h)⟩
              · left; refine ⟨g1, g2, ?_⟩; revert g3; cases xc <;> cases yc <;> simp
            · left; exact ⟨g1, fun h => g2 (bytes_inj.1 h)⟩
          · left; exact fun h => g1 (bytes_inj.1 h)
        clear hj2 hwa hsw HJ2 hsf
        go_wp2_with fail
        refine HJ.out.mono ?_
        rintro e w5 ⟨rfl, h5⟩
        clear r0 r1 r2 r3 r4
        go_wp2_with fail
        refine (HWA.out w5 h5).mono ?_
        rintro e w6 ⟨rfl, hX6, hY6, x6⟩
        have q0 := hX6.cell 0; have q1 := hX6.cell 1; have q2 := hX6.cell 2; have q3 := hX6.cell 3; have q4 := hX6.cell 4
        have r0 := hY6.cell 0; have r1 := hY6.cell 1; have r2 := hY6.cell 2; have r3 := hY6.cell 3; have r4 := hY6.cell 4
        simp only [List.getElem?_toArray, List.getElem?_cons_zero, List.getElem?_cons_succ] at q0 q1 q2 q3 q4 r0 r1 r2 r3 r4
        have hXl := hX6.lt; have hYl := hY6.lt
        have X6 := Lib.hid x6
        clear hX6 hY6 x6 h5 H4 HJ HWA
        rcases hsplit with hne | ⟨rfl, hne⟩ | ⟨rfl, rfl, hne⟩ | ⟨rfl, rfl, rfl, hne⟩ | ⟨rfl, rfl, rfl, rfl, hne⟩
        · skip
          go_wp2_with fail
          refine (awakeP_any _).mono ?_
          rintro e w7 ⟨rfl, e7⟩
          go_wp2_with fail
          go_ret
          exact ⟨rfl, (X6.out.alloc _).trans e7 (by simp)⟩
        · skip
          go_wp2_with fail
          refine (awakeP_any _).mono ?_
          rintro e w7 ⟨rfl, e7⟩
          go_wp2_with fail
          go_ret
          exact ⟨rfl, (X6.out.alloc _).trans e7 (by simp)⟩
        · subst hne
          cases yc with
          | true =>
            go_wp2_with fail
            refine (awakeP_any _).mono ?_
            rintro e w7 ⟨rfl, e7⟩
            go_wp2_with fail
            go_ret
            exact ⟨rfl, (X6.out.alloc _).trans e7 (by simp)⟩
          | false =>
            go_wp2_with fail
            refine (awakeP_any _).mono ?_
            rintro e w7 ⟨rfl, e7⟩
            go_wp2_with fail
            go_ret
            exact ⟨rfl, (X6.out.alloc _).trans e7 (by simp)⟩
        · skip
          go_wp2_with fail
          refine (awakeP_any _).mono ?_
          rintro e w7 ⟨rfl, e7⟩
          go_wp2_with fail
          go_ret
          exact ⟨rfl, (X6.out.alloc _).trans e7 (by simp)⟩
        · skip
          go_wp2_with fail
          refine (awakeP_any _).mono ?_
          rintro e w7 ⟨rfl, e7⟩
          go_wp2_with fail
          go_ret
          exact ⟨rfl, (X6.out.alloc _).trans e7 (by simp)⟩
end Go.Proofs.Ytkbjpackijdnkaa
