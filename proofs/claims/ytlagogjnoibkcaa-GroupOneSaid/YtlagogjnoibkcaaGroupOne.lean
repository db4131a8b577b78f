/- GroupOne: its walk. -/
import Derived.Test.YtlagogjnoibkcaaGrOneR
import Derived.Deep.DeepCutAuto
namespace Go.Proofs.Ytlagogjnoibkcaa
open Go.RowKit Go.Proofs.YtlagogjnoibkcaaW.PrintLast
set_option linter.unusedVariables false
set_option linter.unusedSimpArgs false

theorem madeI (n : Nat) : (madeCells (Value.int .i64 0).cells (n * 1)).toList = (List.replicate n (0 : Int)).flatMap (encI .i64) := by
  rw [flatI, List.map_replicate, Nat.mul_one]
  apply List.ext_getElem?
  intro i
  have hz : (Value.int .i64 0).cells = #[.int .i64 0] := rfl
  by_cases h : i < n
  · simp [madeCells, h, Nat.mod_one, hz]
  · simp [madeCells, h]
/-- make([]int, n). -/
theorem wpList_mkI (w : World) {ops : Array Oper} {rest : List Oper} {o : Oper} {a : Act} {Q : Exit → Act → World → Prop}
    (hg : o.guard = none) (l c : Operand) (t : TypeId) (hop : o.op = Op.makeSlice t l c)
    (i : TypeInfo) (h1 : Try.prog.underlying t = some (.slice 3)) (h2 : Try.prog.info? 3 = some i) (h3 : i.zero = some (.int .i64 0)) (h4 : i.size = 1) (h5 : i.bytes = 8)
    (kl kc : IntKind) (C : Int) (n : Nat) (hl : a.eval l = .int kl C) (hc : a.eval c = .int kc C) (hC : C = (n : Int)) (b2 : n ≤ 1000000)
    (hK : ∀ w', RI w' (.slice (some ⟨w.heap.size, 0, none⟩) n n) (List.replicate n 0) → Ext [] w w' → wpList Try.prog ops Q rest (a.put o.dst (.slice (some ⟨w.heap.size, 0, none⟩) n n)) w') :
    wpList Try.prog ops Q (o :: rest) a w := by
  refine wpList_make_full w hg l c t hop 0 _ i _ 1 h1 h2 h3 h4 kl kc C C n hl hc hC hC (by rw [h5]; omega) (by unfold maxLen; omega) (Nat.zero_le _) ?_
  intro w' hr hgr
  refine hK w' ?_ ((Ext.refl [] w).grown hgr (by simp))
  unfold RI Rw
  rw [List.length_replicate, ← madeI]
  exact hr
theorem make_rep {i : Nat} (h : i < 5) : makeM (List.replicate i ⟨[], false⟩) = (((i : Int) + 1, 0), List.replicate (i + 1) ⟨[], false⟩) := by
  unfold makeM
  rw [if_neg (by rw [List.length_replicate]; omega), List.length_replicate, List.replicate_succ']
theorem one_start : OneInv (List.replicate 5 ⟨[], false⟩) (List.replicate 101 0) 0 := by
  refine ⟨by simp, fun s hs => ?_, fun s hs => ?_, fun s hs x hx => ?_, ?_, by simp, fun z hz => ?_, by simp [flatG, List.replicate]⟩
  · rw [List.eq_of_mem_replicate hs]
  · rw [List.eq_of_mem_replicate hs]; simp
  · rw [List.eq_of_mem_replicate hs] at hx; simp at hx
  · simp [flatG, List.replicate]
  · rw [List.getElem?_replicate, if_pos hz, of_out (fun s hs => by rw [List.eq_of_mem_replicate hs]; simp)]
theorem bndW (x n : Int) (h : 1 ≤ n) (h2 : n ≤ 1000) : 1 ≤ wrap64 (1 + lowI x n) ∧ wrap64 (1 + lowI x n) ≤ n := by
  have := lowI_bd x n h
  have e : wrap64 (1 + lowI x n) = 1 + lowI x n := by unfold wrap64; omega
  rw [e]; omega
theorem bndN (x n : Int) (h : 1 ≤ n) : 1 ≤ 1 + lowI x n ∧ 1 + lowI x n ≤ n := by
  have := lowI_bd x n h
  omega
theorem OneInv.ok {M : List Gk} {arr : List Int} {n : Nat} (h : OneInv M arr n) (hn : n < 1000) : OkG M := fun s hs => by have := h.lens s hs; omega

/-- What holds in the midst of a round. -/
def MidO (w : World) (b ig i : Nat) (n : Nat) (wx : World) : Prop := ∃ S M arr, GS wx b S M ∧ RI wx (.slice (some ⟨ig, 0, none⟩) 101 101) arr ∧ Own w wx S ∧ ig ∉ S ∧ OneInv M arr n ∧ n ≤ i + 1
theorem low40 (x : Int) (w : World) : Calls Try.prog 13 #[.int .i64 x, .int .i64 40] w fun e w' => ∃ q : Nat, q < 40 ∧ e = .returned (.int .i64 (q : Int)) ∧ w = w' :=
  (low_any x 40 (by omega) (by omega) w).mono fun _ _ ⟨h1, h2⟩ => ⟨(lowI x 40).toNat, by have := lowI_bd x 40 (by omega); omega, by rw [h1]; have := lowI_bd x 40 (by omega); congr 2; omega, h2⟩
theorem w1n {q : Nat} (h : q < 1000000) : wrap64 (1 + (q : Int)) = 1 + (q : Int) := by unfold wrap64; omega
theorem wn1s {q : Nat} (h : q < 1000000) : wrap64 ((q : Int) - 1) = (q : Int) - 1 := by unfold wrap64; omega
theorem RI_put {w : World} {ig n cap : Nat} {arr : List Int} (h : RI w (.slice (some ⟨ig, 0, none⟩) n cap) arr) {z : Nat} {x : Int} (hz : arr[z]? = some x) (v : Int) : RI (w.setCell ⟨ig, z, none⟩ (.int .i64 v)) (.slice (some ⟨ig, 0, none⟩) n cap) (arr.set z v) := by
  have := h.put1 encI_ok.len (j := 0) (by omega) hz (.int .i64 v) v rfl
  rw [Nat.mul_one, Nat.add_zero] at this
  exact this

theorem low41 (x : Int) (w : World) : Calls Try.prog 13 #[.int .i64 x, .int .i64 40] w fun e w' => ∃ (v : Int) (o : Nat), 1 ≤ o ∧ o ≤ 40 ∧ wrap64 (1 + v) = (o : Int) ∧ 1 + v = (o : Int) ∧ e = .returned (.int .i64 v) ∧ w = w' :=
  (low_any x 40 (by omega) (by omega) w).mono fun _ _ ⟨h1, h2⟩ => by
    have hb := lowI_bd x 40 (by omega)
    exact ⟨lowI x 40, (1 + lowI x 40).toNat, by omega, by omega, by unfold wrap64; omega, by omega, h1, h2⟩
theorem OneInv.leave' {M : List Gk} {arr : List Int} {n : Nat} (h : OneInv M arr n) {z : Nat} (h1 : 1 ≤ z) (h40 : z ≤ 40) :
    (arr[z]? = some 0 ∧ leaveG M z = ((0, false), M)) ∨ ∃ (g : Int) (M' : List Gk), 0 < g ∧ arr[z]? = some g ∧ leaveG M z = ((g, true), M') ∧ OneInv M' (arr.set z 0) (n - 1) ∧ 1 ≤ n := by
  have L := h.leave h1 h40
  have hat := h.at_ z (by omega)
  by_cases h0 : ofG M z = 0
  · left; rw [h0] at hat; exact ⟨hat, L.1 h0⟩
  · right
    obtain ⟨M', a, b, c, d⟩ := L.2 h0
    exact ⟨_, M', d, hat, a, b, c⟩
theorem measL {i ln : Nat} (h : i < ln) : ln - (intOf (Value.int .i64 ((i : Int) + 1))).toNat < ln - (intOf (Value.int .i64 (i : Int))).toNat := by
  simp [intOf]; omega
theorem gs_mem_at {M : List Gk} {g : Int} {ids : List Int} {l : Nat} (hm : memG M g = ids) (hl : ids.length = l) (hx : M.length < 10000) (hu : OkG M) {b : Nat} {S : List Nat} (w : World) (h : GS w b S M) :
    Calls Try.prog 30 #[.pointer (some ⟨b, 0, none⟩), .int .i64 g] w fun e w' => ∃ (a : Option Addr) (c : Nat), e = .returned (.slice a l c) ∧ RI w' (.slice a l c) ids ∧ Ext [] w w' ∧ (∀ g, (Value.slice a l c).ownBlock = some g → w.heap.size ≤ g) := by
  have := gs_members b S M g hx hu w h
  subst hm; subst hl
  exact this
theorem memG_at {M : List Gk} {k : Nat} {s : Gk} (h : M[k]? = some s) : memG M ((k : Int) + 1) = s.ids := by
  have hk := (List.getElem?_eq_some_iff.1 h).1
  unfold memG
  rw [if_pos (by unfold hasM; simp; omega), show ((k : Int) + 1 - 1).toNat = k by omega, h]; rfl
theorem flatG_take {M : List Gk} {k : Nat} {s : Gk} (h : M[k]? = some s) : (flatG (M.take (k + 1))).length = (flatG (M.take k)).length + s.ids.length := by
  rw [List.take_add_one, h, flatG_app, List.length_append]; simp [flatG]
theorem flat_le (M : List Gk) (k : Nat) : (flatG (M.take k)).length ≤ (flatG M).length := by
  conv => rhs; rw [← List.take_append_drop k M, flatG_app, List.length_append]
  omega
theorem measG {k : Nat} (h : k < 5) : 6 - (intOf (Value.int .i64 ((k : Int) + 1 + 1))).toNat < 6 - (intOf (Value.int .i64 ((k : Int) + 1))).toNat := by
  simp [intOf]; omega
theorem w64ii {i : Nat} {x : Int} (h : i < 1000000) (e : x = (i : Int)) : wrap64 x = x := by subst e; exact w64i h
theorem sorted_at {xs : List Int} (h : xs.Pairwise (· < ·)) {p : Nat} {x y : Int} (hy : xs[p]? = some y) (hx : xs[p + 1]? = some x) : y < x := by
  obtain ⟨h1, rfl⟩ := List.getElem?_eq_some_iff.1 hy
  obtain ⟨h2, rfl⟩ := List.getElem?_eq_some_iff.1 hx
  exact List.pairwise_iff_getElem.1 h _ _ h1 h2 (by omega)
theorem measJ {p l : Nat} (h : p + 1 < l) : l - (intOf (Value.int .i64 ((p : Int) + 1 + 1))).toNat < l - (intOf (Value.int .i64 ((p : Int) + 1))).toNat := by
  simp [intOf]; omega
theorem join_case {M : List Gk} {arr : List Int} {n : Nat} (h : OneInv M arr n) {i z : Nat} (hi : i < 5) (h1 : 1 ≤ z) (h40 : z ≤ 40) :
    ∃ (og r : Int) (M2 : List Gk), joinG M ((i : Int) + 1) z = (r, M2) ∧ arr[z]? = some og ∧ ((r = 0 ∧ og = 0 ∧ OneInv M2 (arr.set z ((i : Int) + 1)) (n + 1)) ∨ (r = 16 ∧ og ≠ 0 ∧ M2 = M ∧ Hid (OneInv M2 arr n))) := by
  obtain ⟨j1, j2⟩ := h.join hi h1 h40
  have hat := h.at_ z (by omega)
  by_cases h0 : ofG M z = 0
  · obtain ⟨M', a, b⟩ := j1 h0
    exact ⟨_, 0, M', a, hat, .inl ⟨rfl, h0, b⟩⟩
  · exact ⟨_, 16, M, j2 h0, hat, .inr ⟨rfl, h0, rfl, h⟩⟩

set_option maxHeartbeats 16000000 in
set_option maxRecDepth 100000 in
theorem groupOne_walk (w : World) (la : Option Addr) (ln lc : Nat) (zs : List Int) (hs : Slc (encI .i64) 1 w la ln zs) (hwf : ∀ z ∈ zs, (Lit.int .i64 z).wf = true) (ea : Option Addr) (en ec : Nat) (ys : List Int) (hs2 : Slc (encI .i64) 1 w ea en ys) (hwf2 : ∀ z ∈ ys, (Lit.int .i64 z).wf = true) :
    Calls Try.prog 8 #[.slice la ln lc, .slice ea en ec] w fun e w' => e = .returned (.bool true) ∧ Ext [] w w' := by
  clear hwf hwf2
  have HS := Lib.hid hs; have HS2 := Lib.hid hs2
  clear hs hs2
  by_cases h1 : 100 < ln
  · have d0 : decide (100 < (ln : Int)) = true := decide_eq_true (by omega)
    go_enter Try.func8, Try.ntmps8
    go_wp2_with fail
    refine (awakeG_any _).mono ?_
    rintro e w1 ⟨rfl, e1⟩
    go_wp2_with fail
    go_ret
    exact ⟨rfl, e1⟩
  have d0 : decide (100 < (ln : Int)) = false := decide_eq_false (by omega)
  have hln : ln ≤ 100 := by omega
  clear h1
  by_cases h1 : 100 < en
  · have d00 : decide (100 < (en : Int)) = true := decide_eq_true (by omega)
    go_enter Try.func8, Try.ntmps8
    go_wp2_with fail
    refine (awakeG_any _).mono ?_
    rintro e w1 ⟨rfl, e1⟩
    go_wp2_with fail
    go_ret
    exact ⟨rfl, e1⟩
  have d00 : decide (100 < (en : Int)) = false := decide_eq_false (by omega)
  have hen : en ≤ 100 := by omega
  clear h1
  go_enter Try.func8, Try.ntmps8
  go_wp2_with fail
  refine (gs_new w).mono ?_
  rintro e w1 ⟨rfl, h1, x1⟩
  have o1 := Own.start x1 (S := [w.heap.size]) (by simp)
  obtain ⟨b, hb⟩ : ∃ b, w.heap.size = b := ⟨_, rfl⟩
  rw [hb] at h1 o1
  clear x1
  go_wp2_with fail
  clear hb
  go_loopw [6] (fun iv wr => ∃ (i : Nat) (S : List Nat), i ≤ 5 ∧ iv = .int .i64 i ∧ GS wr b S (List.replicate i ⟨[], false⟩) ∧ Own w wr S) (fun iv _ => 5 - (intOf iv).toNat)
  case atStart => exact ⟨0, _, by omega, rfl, h1, o1⟩
  case round =>
    obtain ⟨i, S, hi5, rfl, hw, ow⟩ := hrel
    clear h1 o1
    by_cases hi : i < 5
    · have d1 : decide ((i : Int) < 5) = true := decide_eq_true (by omega)
      have d1' : decide (i < 5) = true := decide_eq_true hi
      have hc := gs_make_at (make_rep hi) wr hw
      have HC := Lib.hid hc; have HOW := Lib.hid ow
      clear hc hw ow
      go_wp2_with fail
      refine HC.out.mono ?_
      rintro e w4 ⟨rfl, S4, h4, e4, g4⟩
      have H4 := Lib.hid h4; have O4 := Lib.hid (HOW.out.step e4 g4)
      have f1 := ws2 (i := i) (by omega)
      clear h4 e4 g4
      go_wp2_with fail
      exact ⟨⟨i + 1, S4, by omega, by go_num, H4.out, O4.out⟩, by simp [intOf]; omega⟩
    · have d1 : decide ((i : Int) < 5) = false := decide_eq_false (by omega)
      have d1' : decide (i < 5) = false := decide_eq_false hi
      have hi0 : i = 5 := by omega
      rw [hi0] at hw
      have HW := Lib.hid hw; have HOW := Lib.hid ow
      clear hw ow hi0
      go_wp2_with (at_make; refine wpList_mkI _ rfl _ _ 42 rfl Try.t3 (by kernel_rfl) (by kernel_rfl) (by rfl) (by rfl) (by rfl) .i64 .i64 101 101 (by rfl) (by rfl) (by rfl) (by omega) ?_)
      intro w4 hr4 e4
      have hlt := HW.out.lt
      have h4 := HW.out.keep0 e4
      have o4 := HOW.out.quiet e4
      have hge := HOW.out.ext.size
      obtain ⟨ig, hig⟩ : ∃ ig, wr.heap.size = ig := ⟨_, rfl⟩
      have hnS : Hid (ig ∉ S) := fun hm => by have := hlt ig hm; omega
      have higw : w.heap.size ≤ ig := by omega
      rw [hig] at hr4 ⊢
      have H4 := Lib.hid h4; have O4 := Lib.hid o4; have R4 := Lib.hid hr4
      clear hlt h4 o4 e4 hge hr4 HW HOW
      go_wp2_with fail
      clear hig
      go_loopw [10, 11] (fun nv iv wr => ∃ (i n : Nat) (S : List Nat) (M : List Gk) (arr : List Int), i ≤ ln ∧ n ≤ i ∧ nv = .int .i64 n ∧ iv = .int .i64 i ∧ GS wr b S M ∧ RI wr (.slice (some ⟨ig, 0, none⟩) 101 101) arr ∧ Own w wr S ∧ Hid (ig ∉ S) ∧ Hid (OneInv M arr n)) (fun _ iv _ => ln - (intOf iv).toNat)
      case atStart => exact ⟨0, 0, S, _, _, Nat.zero_le _, Nat.le_refl _, rfl, rfl, H4.out, R4.out, O4.out, hnS, one_start⟩
      case round =>
        clear H4 O4 R4 hnS d1 d1' hi hi5
        obtain ⟨i, n, S, M, arr, hil, hni, rfl, rfl, hw, hr, ow, hnS, hinv⟩ := hrel
        by_cases hi : i < ln
        · have d1 : decide (i < ln) = true := decide_eq_true hi
          obtain ⟨z, hz⟩ : ∃ z, zs[i]? = some z := ⟨_, List.getElem?_eq_getElem (by rw [HS.out.1]; exact hi)⟩
          obtain ⟨ab, ao, hsa⟩ := HS.out.int_at
          obtain ⟨rfl, hab, hcz⟩ := hsa i z hz
          have hcz := (ow.ext.cell (p := ⟨ab, ao + i, none⟩) hab (by simp)).trans hcz
          have b1 : (0 : Int) ≤ (i : Int) := by omega
          have b2 : (i : Int) < (ln : Int) := by omega
          have HW := Lib.hid hw; have HR := Lib.hid hr; have HOW := Lib.hid ow
          clear hsa hz hab hw hr ow
          go_upto_region 17 with fail
          go_cut [12, 13] (fun s12 s13 wx => ∃ v12 v13 : Int, s12 = .int .i64 v12 ∧ s13 = .int .i64 v13 ∧ Hid (1 ≤ v12 ∧ v12 ≤ 5 ∧ 1 ≤ v13 ∧ v13 ≤ 40) ∧ Ext [] wr wx)
          case first =>
            have C5 : ∀ w, Calls Try.prog 13 #[.int .i64 z, .int .i64 5] w fun e w' => e = .returned (.int .i64 (lowI z 5)) ∧ w' = w := fun w => (low_any z 5 (by omega) (by omega) w).mono fun _ _ ⟨h1, h2⟩ => ⟨h1, h2.symm⟩
            have C40 : ∀ x : Int, ∀ w, Calls Try.prog 13 #[.int .i64 x, .int .i64 40] w fun e w' => e = .returned (.int .i64 (lowI x 40)) ∧ w' = w := fun x w => (low_any x 40 (by omega) (by omega) w).mono fun _ _ ⟨h1, h2⟩ => ⟨h1, h2.symm⟩
            have CC5 := Lib.hid C5; have CC40 := Lib.hid C40
            clear C5 C40
            go_quiet (first | (go_at_call_of 13 (Value.int .i64 z); exact Calls.quiet_of_same (CC5.out _)) | (go_at_call 13; exact Calls.quiet_of_same (CC40.out _ _)))
            go_wp2_with fail
            go_meet
            refine ⟨_, _, rfl, rfl, ?_, (Ext.refl _ _).drewN _⟩
            first
              | exact ⟨(bndW _ 5 (by omega) (by omega)).1, (bndW _ 5 (by omega) (by omega)).2, (bndW _ 40 (by omega) (by omega)).1, (bndW _ 40 (by omega) (by omega)).2⟩
              | exact ⟨(bndN _ 5 (by omega)).1, (bndN _ 5 (by omega)).2, (bndN _ 40 (by omega)).1, (bndN _ 40 (by omega)).2⟩
          case rest =>
            obtain ⟨v12, v13, rfl, rfl, hbd, hex⟩ := hcut
            obtain ⟨g1, g2, g3, g4⟩ := hbd.out
            obtain ⟨gi, hgi⟩ : ∃ gi : Nat, v12 = (gi : Int) + 1 := ⟨(v12 - 1).toNat, by omega⟩
            obtain ⟨id, hid⟩ : ∃ id : Nat, v13 = (id : Int) := ⟨v13.toNat, by omega⟩
            subst hgi; subst hid
            have hgi5 : gi < 5 := by omega
            have hid1 : 1 ≤ id := by omega
            have hid40 : id ≤ 40 := by omega
            clear g1 g2 g3 g4 hbd hcz d1
            have hw := HW.out.keep0 hex; have hr := HR.out.keep hex (by simp); have ow := HOW.out.quiet hex
            have hokM := hinv.out.ok (by omega)
            have hsoM := hinv.out.sort
            have hlM : M.length < 10000 := by rw [hinv.out.len]; omega
            have q1 : (0 : Int) ≤ (id : Int) := by omega
            have q2 : (id : Int) < 101 := by omega
            have hi6 : i < 1000000 := Nat.lt_of_lt_of_le hi (Nat.le_trans hln (by decide))
            have hn6 : n < 1000000 := Nat.lt_of_le_of_lt hni hi6
            have F9 := Lib.hid (ws2 hi6); have F1 := Lib.hid (ws2 hn6)
            clear hi6 hn6
            obtain ⟨og, r, M2, hj, hat, hcs⟩ := join_case hinv.out hgi5 hid1 hid40
            have hc := gs_join_at hj hlM hokM hsoM wc hw
            have HC := Lib.hid hc; have HAT := Lib.hid hat; have HR2 := Lib.hid hr; have HO2 := Lib.hid ow; have HCS := Lib.hid hcs
            clear hc hat hr ow hw hinv hj hokM hsoM hlM HW HR HOW hcs
            go_wp2_with fail
            refine HC.out.mono ?_
            rintro e w4 ⟨rfl, S4, h4, e4, k4⟩
            have hr4 := HR2.out.keep e4 (fun q hq hm => by have : ig = q := by simpa [Value.ownBlock] using hq
                                                           exact hnS.out (this ▸ hm))
            have x0 := hr4.cell encI_ok.len HAT.out 0 (by omega)
            have z0 := hr4.free id
            simp only [encI, Nat.add_zero, Nat.mul_one, List.getElem?_cons_zero] at x0
            have hn4 : ig ∉ S4 := fun hm => (k4 ig hm).elim hnS.out (fun h => by have := hr4.lt ig rfl; have := HR2.out.lt ig rfl; omega)
            have o4 := HO2.out.step e4 k4
            have H4 := Lib.hid h4; have R4 := Lib.hid hr4; have O4 := Lib.hid o4; have N4 := Lib.hid hn4; have X0 := Lib.hid x0; have Z0 := Lib.hid z0
            clear h4 e4 k4 hr4 hn4 o4 HC HR2 HO2 hnS x0 z0
            go_upto_region 19 with fail
            go_cut [90] (fun v wx => v = .bool false ∧ wx = w4)
            case first =>
              have c1 := X0.out
              rcases HCS.out with ⟨c2, c3, c4⟩ | ⟨c2, c3, c4, c5⟩
              · subst c2; subst c3
                clear HCS c4 H4 R4 O4 N4 HAT
                go_wp2_with fail
                go_meet
                exact ⟨rfl, rfl⟩
              · subst c2
                have d3 : decide (og = 0) = false := decide_eq_false c3
                have d3' : (og == 0) = false := by simpa using c3
                clear HCS c3 c4 c5 H4 R4 O4 N4 HAT
                go_wp2_with fail
                go_meet
                exact ⟨rfl, rfl⟩
            case rest =>
              obtain ⟨rfl, rfl⟩ := hcut
              go_upto_if 92 with fail
              go_cut [10] (fun v wx => ∃ (n2 : Nat) (arr2 : List Int), v = .int .i64 n2 ∧ n2 ≤ i + 1 ∧ GS wx b S4 M2 ∧ RI wx (.slice (some ⟨ig, 0, none⟩) 101 101) arr2 ∧ Own w wx S4 ∧ Hid (OneInv M2 arr2 n2))
              case first =>
                rcases HCS.out with ⟨c2, c3, c4⟩ | ⟨c2, c3, c4, c5⟩
                · subst c2
                  have x0 := X0.out; have z0 := Z0.out
                  have e5 : Ext [ig] wc (wc.setCell ⟨ig, id, none⟩ (.int .i64 ((gi : Int) + 1))) := (Ext.refl _ _).setCell (Or.inl (by simp)) _
                  have h5 := H4.out.keep e5 (fun q hq hm => N4.out (by simp at hm; exact hm ▸ hq))
                  have hr5 := RI_put R4.out HAT.out ((gi : Int) + 1)
                  have o5 : Own w (wc.setCell ⟨ig, id, none⟩ (.int .i64 ((gi : Int) + 1))) S4 := ⟨O4.out.ext.fresh e5 (fun q hq => by simp at hq; omega), O4.out.ge⟩
                  have H5 := Lib.hid h5; have R5 := Lib.hid hr5; have O5 := Lib.hid o5; have C4 := Lib.hid c4
                  clear e5 h5 hr5 o5 c3 c4 HCS
                  have f1 := F1.out
                  go_wp2_with fail
                  go_meet
                  exact ⟨n + 1, _, by first | rfl | go_num, by omega, H5.out, R5.out, O5.out, C4⟩
                · subst c2
                  clear HCS c3
                  go_wp2_with fail
                  go_meet
                  exact ⟨n, _, rfl, by omega, H4.out, R4.out, O4.out, c5⟩
              case rest =>
                obtain ⟨n2, arr2, rfl, hn2, hw5, hr5, ow5, hi5⟩ := hcut
                have hn6 : n2 < 1000000 := Nat.lt_of_le_of_lt (Nat.le_trans hn2 (Nat.le_trans hi hln)) (by decide)
                have P1 : Hid (i < ln) := hi
                have P2 : Hid (n2 ≤ i + 1) := hn2
                have F10 : Hid (∀ n1, n2 = n1 + 1 → wrap64 ((n1 : Int) + 1 - 1) = (n1 : Int) ∧ wrap64 (((n1 + 1 : Nat) : Int) - 1) = (n1 : Int) ∧ wrap64 (n1 : Int) = (n1 : Int)) := fun n1 e => have h6 : n1 < 1000000 := (by have h := hn6; rw [e] at h; exact Nat.lt_trans (Nat.lt_succ_self n1) h); ⟨ws1 h6, ws1 h6, w64i h6⟩
                clear hn6
                have H5 := Lib.hid hw5; have R5 := Lib.hid hr5; have O5 := Lib.hid ow5
                clear hw5 hr5 ow5 X0 Z0 H4 R4 O4 HCS HAT
                by_cases hei : i < en
                · have d2 : decide ((i : Int) < (en : Int)) = true := decide_eq_true (by omega)
                  have d2' : decide (i < en) = true := decide_eq_true hei
                  obtain ⟨y, hy⟩ : ∃ y, ys[i]? = some y := ⟨_, List.getElem?_eq_getElem (by rw [HS2.out.1]; exact hei)⟩
                  obtain ⟨eb, eo, hsa⟩ := HS2.out.int_at
                  obtain ⟨rfl, heb, hcy⟩ := hsa i y hy
                  have b3 : (0 : Int) ≤ (i : Int) := by omega
                  have b4 : (i : Int) < (en : Int) := by omega
                  have hcy5 := (O5.out.ext.cell (p := ⟨eb, eo + i, none⟩) heb (by simp)).trans hcy
                  clear hsa hy hcy
                  go_wp2_with fail
                  refine (low41 _ _).mono ?_
                  rintro e w6 ⟨v, o, ho1, ho40, hv1, hv2, rfl, rfl⟩
                  have hlM := hi5.out.len
                  have hokM := hi5.out.ok (by omega)
                  have hsoM := hi5.out.sort
                  have b5 : (0 : Int) ≤ (o : Int) := by omega
                  have b6 : (o : Int) < 101 := by omega
                  rcases hi5.out.leave' ho1 ho40 with ⟨hat, hl⟩ | ⟨g, M3, hg, hat, hl, hinv3, hn1⟩
                  · have hc := gs_leave_at hl (by rw [hlM]; decide) hokM hsoM _ H5.out
                    have HC2 := Lib.hid hc; have HAT2 := Lib.hid hat
                    clear hc hat hl hlM hokM hsoM
                    go_wp2_with fail
                    refine HC2.out.mono ?_
                    clear hv1 hv2
                    rintro e w8 ⟨rfl, S8, h8, e8, k8⟩
                    have hr8 := R5.out.keep e8 (fun q hq hm => by have : ig = q := by simpa [Value.ownBlock] using hq
                                                                  exact N4.out (this ▸ hm))
                    have x8 := hr8.cell encI_ok.len HAT2.out 0 (by omega)
                    simp only [encI, Nat.add_zero, Nat.mul_one, List.getElem?_cons_zero] at x8
                    have n8 : ig ∉ S8 := fun hm => (k8 ig hm).elim N4.out (fun h => by have := hr8.lt ig rfl; have := R5.out.lt ig rfl; omega)
                    have o8 := O5.out.step e8 k8
                    have H8 := Lib.hid h8; have R8 := Lib.hid hr8; have O8 := Lib.hid o8; have N8 := Lib.hid n8
                    clear h8 e8 k8 hr8 n8 o8
                    clear hn2 hni hil hei ho1 ho40 b3 b4 hcy5 heb d2 d2' higw hgi5 hid1 hid40 q1 q2 hcz hex b1 b2 hi hln hen d0 d00
                    have f9 := F9.out
                    go_wp2_with fail
                    exact ⟨⟨i + 1, n2, S8, M2, arr2, P1.out, P2.out, rfl, by go_num, H8.out, R8.out, O8.out, N8.out, hi5⟩, by first | exact measL P1.out | (rw [f9]; exact measL P1.out)⟩
                  · have hc := gs_leave_at hl (by rw [hlM]; decide) hokM hsoM _ H5.out
                    have HC2 := Lib.hid hc; have HAT2 := Lib.hid hat; have HI3 := Lib.hid hinv3
                    have d3 : decide (0 < g) = true := decide_eq_true hg
                    clear hc hat hl hlM hokM hsoM hinv3
                    obtain ⟨n1, rfl⟩ : ∃ n1, n2 = n1 + 1 := ⟨n2 - 1, by omega⟩
                    go_wp2_with fail
                    refine HC2.out.mono ?_
                    clear hv1 hv2
                    rintro e w8 ⟨rfl, S8, h8, e8, k8⟩
                    have hr8 := R5.out.keep e8 (fun q hq hm => by have : ig = q := by simpa [Value.ownBlock] using hq
                                                                  exact N4.out (this ▸ hm))
                    have x8 := hr8.cell encI_ok.len HAT2.out 0 (by omega)
                    have z8 := hr8.free o
                    simp only [encI, Nat.add_zero, Nat.mul_one, List.getElem?_cons_zero] at x8
                    have n8 : ig ∉ S8 := fun hm => (k8 ig hm).elim N4.out (fun h => by have := hr8.lt ig rfl; have := R5.out.lt ig rfl; omega)
                    have o8 := O5.out.step e8 k8
                    have e9 : Ext [ig] w8 (w8.setCell ⟨ig, o, none⟩ (.int .i64 0)) := (Ext.refl _ _).setCell (Or.inl (by simp)) _
                    have h9 := h8.keep e9 (fun q hq hm => n8 (by simp at hm; exact hm ▸ hq))
                    have hr9 := RI_put hr8 HAT2.out 0
                    have o9 : Own w (w8.setCell ⟨ig, o, none⟩ (.int .i64 0)) S8 := ⟨o8.ext.fresh e9 (fun q hq => by simp at hq; omega), o8.ge⟩
                    have H8 := Lib.hid h9; have R8 := Lib.hid hr9; have O8 := Lib.hid o9; have N8 := Lib.hid n8
                    clear h8 e8 k8 hr8 n8 o8 e9 h9 hr9 o9
                    clear hn2 hni hil hei ho1 ho40 b3 b4 hcy5 heb d2 d2' higw hgi5 hid1 hid40 q1 q2 hcz hex b1 b2 hi hln hen d0 d00 hg hn1
                    have f9 := F9.out
                    obtain ⟨f10, f11, f12⟩ := F10.out n1 rfl
                    go_wp2_with fail
                    exact ⟨⟨i + 1, n1, S8, M3, _, P1.out, Nat.le_of_succ_le P2.out, by first | rfl | (rw [f10]) | (rw [f11]) | (rw [f12]) | trace_state, by go_num, H8.out, R8.out, O8.out, N8.out, HI3⟩, by first | exact measL P1.out | (rw [f9]; exact measL P1.out)⟩
                · have d2 : decide ((i : Int) < (en : Int)) = false := decide_eq_false (by omega)
                  have d2' : decide (i < en) = false := decide_eq_false hei
                  have f9 := F9.out
                  go_wp2_with fail
                  exact ⟨⟨i + 1, n2, S4, M2, arr2, by omega, by omega, rfl, by go_num, H5.out, R5.out, O5.out, N4.out, hi5⟩, by simp [intOf]; omega⟩
        · have d1 : decide (i < ln) = false := decide_eq_false hi
          have hlM : M.length < 10000 := by rw [hinv.out.len]; omega
          have hlM5 := hinv.out.len
          have hokM := hinv.out.ok (by omega)
          have hn6 : n < 1000000 := Nat.lt_of_le_of_lt (Nat.le_trans hni (Nat.le_trans hil hln)) (by decide)
          have hfl : ∀ k, (flatG (M.take k)).length ≤ n := fun k => by rw [hinv.out.cnt]; exact flat_le M k
          have hf5 : (flatG (M.take 5)).length = n := by rw [← hlM5, List.take_length]; exact hinv.out.cnt.symm
          have HW := Lib.hid hw; have HR := Lib.hid hr; have HOW := Lib.hid ow; have HLM := Lib.hid hlM; have HLM5 := Lib.hid hlM5; have HOK := Lib.hid hokM; have HN6 := Lib.hid hn6; have HFL := Lib.hid hfl; have HF5 := Lib.hid hf5
          clear hw hr ow hlM hlM5 hokM hn6 hfl hf5 hil hni hi hln hen d0 d00 higw
          go_wp2_with fail
          obtain ⟨wp, hwp⟩ : ∃ wp, wp = wr := ⟨_, rfl⟩
          subst hwp
          clear d1
          go_loopw [18, 19] (fun av gv wx => ∃ (k al : Nat), k ≤ 5 ∧ av = .int .i64 (al : Int) ∧ gv = .int .i64 ((k : Int) + 1) ∧ Hid (al = (flatG (M.take k)).length) ∧ Ext [] wp wx) (fun _ gv _ => 6 - (intOf gv).toNat)
          case atStart => exact ⟨0, 0, by omega, rfl, rfl, rfl, Ext.refl _ _⟩
          case round =>
            obtain ⟨k, al, hk5, rfl, rfl, hal, hex⟩ := hrel
            by_cases hk : k < 5
            · have d1 : decide ((k : Int) + 1 ≤ 5) = true := decide_eq_true (by omega)
              obtain ⟨s, hs⟩ : ∃ s, M[k]? = some s := ⟨_, List.getElem?_eq_getElem (by rw [HLM5.out]; exact hk)⟩
              obtain ⟨l, hl⟩ : ∃ l, s.ids.length = l := ⟨_, rfl⟩
              have hww := HW.out.keep0 hex
              have hc := gs_mem_at (memG_at hs) hl HLM.out HOK.out _ hww
              have hft := flatG_take hs
              rw [← hal.out, hl] at hft
              have hal2 : al + l < 1000000 := by rw [← hft]; exact Nat.lt_of_le_of_lt (HFL.out _) HN6.out
              have HC := Lib.hid hc; have HFT := Lib.hid hft; have HS3 := Lib.hid hs; have HL3 := Lib.hid hl; have HWW := Lib.hid hww; have HEX := Lib.hid hex; have HAL2 := Lib.hid hal2
              have HK := Lib.hid hk
              clear hc hft hs hl hww hex hal2 hal hk hk5
              go_wp2_with fail
              refine HC.out.mono ?_
              rintro e w7 ⟨ma, mc, rfl, hr7, e7, g7⟩
              have X7 := Lib.hid (HEX.out.trans e7 (by simp)); have R7 := Lib.hid hr7
              clear hr7 e7 g7 HC
              have f1 : wrap64 ((al : Int) + (l : Int)) = (al : Int) + (l : Int) := w64ii HAL2.out (by omega)
              go_wp2_with fail
              clear d1
              go_loopw [21] (fun iv wx => ∃ j : Nat, j ≤ l ∧ iv = .int .i64 (j : Int) ∧ Ext [] w7 wx) (fun iv _ => l - (intOf iv).toNat)
              case atStart => exact ⟨0, Nat.zero_le _, rfl, Ext.refl _ _⟩
              case round =>
                obtain ⟨j, hjl, rfl, hej⟩ := hrel
                by_cases hj : j < l
                · have d2 : decide ((j : Int) < (l : Int)) = true := decide_eq_true (by omega)
                  have d2' : decide (j < l) = true := decide_eq_true hj
                  have HJ := Lib.hid hj; have HEJ := Lib.hid hej
                  clear hjl hj hej f1
                  go_wp2_with fail
                  obtain ⟨x0, hx⟩ : ∃ x, s.ids[j]? = some x := ⟨_, List.getElem?_eq_getElem (by rw [HL3.out]; exact HJ.out)⟩
                  have hx0m := List.mem_of_getElem? hx
                  have hrx := hinv.out.rng s (List.mem_of_getElem? HS3.out) x0 hx0m
                  obtain ⟨x, rfl⟩ : ∃ x : Nat, x0 = (x : Int) := ⟨x0.toNat, by omega⟩
                  have hof := of_in hinv.out.nd HS3.out hx0m
                  have hx41 : x < 101 := by omega
                  have hat := hinv.out.at_ x hx41
                  rw [hof] at hat
                  obtain ⟨mg, rfl, hmg⟩ := R7.out.addr (by have := HJ.out; omega)
                  have hh7 := HW.out.keep0 (X7.out.trans HEJ.out (by simp))
                  have hr7 := R7.out.keep HEJ.out (by simp)
                  have hra := (HR.out.keep X7.out (by simp)).keep HEJ.out (by simp)
                  have q1 : (0 : Int) ≤ (x : Int) := by omega
                  have q2 : (x : Int) < 101 := by omega
                  have hx1 : decide ((x : Int) < 1) = false := decide_eq_false (by omega)
                  have hx2 : decide (100 < (x : Int)) = false := decide_eq_false (by omega)
                  have A1 : Hid (∀ W, Ext [] wr W → Calls Try.prog 39 #[.pointer (some ⟨b, 0, none⟩), .int .i64 x] W fun e w' => e = .returned (.int .i64 ((k : Int) + 1)) ∧ Ext [] W w') := fun W hW => by
                    have := gs_of b S M (x : Int) HLM.out HOK.out W (hh7.keep0 hW)
                    rw [hof] at this; exact this
                  have kf2 : Hid (∀ W, Ext [] wr W → W.cell? ⟨ig, x, none⟩ = some (.int .i64 ((k : Int) + 1))) := fun W hW => by
                    have := (hra.keep hW (by simp)).cell encI_ok.len hat 0 (by omega)
                    simpa only [encI, Nat.add_zero, Nat.mul_one, List.getElem?_cons_zero] using this
                  have kf1 : Hid (∀ W, Ext [] wr W → W.cell? ⟨mg, j, none⟩ = some (.int .i64 x)) := fun W hW => by
                    have := (hr7.keep hW (by simp)).cell encI_ok.len hx 0 (by omega)
                    simpa only [encI, Nat.add_zero, Nat.mul_one, List.getElem?_cons_zero] using this
                  rcases Nat.eq_zero_or_pos j with hj0 | hj0
                  · have hl0 : 0 < l := by have := HJ.out; omega
                    have q3 : (0 : Int) < (l : Int) := by omega
                    subst hj0
                    refine groupOne_first wr b mg ig l mc x ((k : Int) + 1) hl0 hx1 hx2 q1 q2 q3 A1 kf1 kf2 _ (fun _ _ _ _ _ h => h) ?_
                    clear hh7 hr7 hra hx hx0m hrx hof hat hmg A1 kf1 kf2 hx1 hx2 q1 q2 q3 hl0 d2 d2' hx41
                    intro v153 v154 v155 v156 v157 v158 v159 v160 v161 v162 v163 v164 v165 v166 v167 v168 v169 v170 v171 v172 v173 v174 v175 v176 v177 v178 v179 v180 v181 v182 v183 v184 v185 v186 v187 v188 v189 v190 v191 v192 v193 v194 v195 v196 v197 v198 v199 v200 w29 e29
                    go_wp2_with fail
                    exact ⟨⟨1, HJ.out, rfl, HEJ.out.trans e29 (by simp)⟩, by simp [intOf]; exact Nat.sub_lt HJ.out (by decide)⟩
                  · obtain ⟨p, rfl⟩ : ∃ p, j = p + 1 := ⟨j - 1, by omega⟩
                    obtain ⟨y0, hy⟩ : ∃ y, s.ids[p]? = some y := ⟨_, List.getElem?_eq_getElem (by have h1 := HL3.out; have h2 := HJ.out; omega)⟩
                    have hry := hinv.out.rng s (List.mem_of_getElem? HS3.out) y0 (List.mem_of_getElem? hy)
                    obtain ⟨y, rfl⟩ : ∃ y : Nat, y0 = (y : Int) := ⟨y0.toNat, by omega⟩
                    have hlt := sorted_at (hinv.out.sort s (List.mem_of_getElem? HS3.out)) hy hx
                    have hyx : y < x := by omega
                    have kf3 : Hid (∀ W, Ext [] wr W → W.cell? ⟨mg, p, none⟩ = some (.int .i64 y)) := fun W hW => by
                      have := (hr7.keep hW (by simp)).cell encI_ok.len hy 0 (by omega)
                      simpa only [encI, Nat.add_zero, Nat.mul_one, List.getElem?_cons_zero] using this
                    have hp6 : p + 1 < 1000000 := by have h2 := HJ.out; have h3 := HAL2.out; omega
                    have hpl : p + 1 < l := HJ.out
                    rw [show ((p + 1 : Nat) : Int) = (p : Int) + 1 by omega]
                    refine groupOne_later wr b mg ig l mc p x y ((k : Int) + 1) hx1 hx2 q1 q2 (decide_eq_false (by omega)) (decide_eq_false (by omega)) (decide_eq_true (by omega)) (by omega) (by omega) (by omega) (by omega) (by omega) (w64i (by omega)) (ws1 (by omega)) A1 kf1 kf2 kf3 _ (fun _ _ _ _ _ h => h) ?_
                    clear hh7 hr7 hra hx hx0m hrx hof hat hmg A1 kf1 kf2 kf3 hx1 hx2 q1 q2 d2 d2' hx41 hy hry hlt hyx hj0
                    have f9 : wrap64 ((p : Int) + 1 + 1) = (p : Int) + 1 + 1 := ws2 (i := p + 1) hp6
                    have m9 := Lib.hid (measJ HJ.out)
                    clear hp6 hpl
                    intro v153 v154 v155 v156 v157 v158 v159 v160 v161 v162 v163 v164 v165 v166 v167 v168 v169 v170 v171 v172 v173 v174 v175 v176 v177 v178 v179 v180 v181 v182 v183 v184 v185 v186 v187 v188 v189 v190 v191 v192 v193 v194 v195 v196 v197 v198 v199 v200 w29 e29
                    go_wp2_with fail
                    exact ⟨⟨p + 1 + 1, HJ.out, by go_num, HEJ.out.trans e29 (by simp)⟩, by first | exact m9.out | (rw [f9]; exact m9.out)⟩
                · have d2 : decide ((j : Int) < (l : Int)) = false := decide_eq_false (by omega)
                  have d2' : decide (j < l) = false := decide_eq_false hj
                  have HEJ := Lib.hid hej
                  clear hjl hj hej f1
                  have f9 : wrap64 ((k : Int) + 1 + 1) = (k : Int) + 1 + 1 := ws2 (i := k + 1) (Nat.lt_of_lt_of_le (Nat.succ_lt_succ HK.out) (by decide))
                  go_wp2_with fail
                  exact ⟨⟨k + 1, al + l, HK.out, by rw [show wrap64 ((al : Int) + (l : Int)) = (al : Int) + (l : Int) from w64ii HAL2.out (by omega)]; go_num, by go_num, HFT.out.symm, X7.out.trans HEJ.out (by simp)⟩, by first | exact measG HK.out | (rw [f9]; exact measG HK.out)⟩
            · have d1 : decide ((k : Int) + 1 ≤ 5) = false := decide_eq_false (by omega)
              have hk0 : k = 5 := by omega
              subst hk0
              have hal5 : al = n := hal.out.trans HF5.out
              subst hal5
              clear hk hk5 d1
              go_wp2_with fail
              refine (awakeG_any _).mono ?_
              rintro e w9 ⟨rfl, e9⟩
              go_wp2_with fail
              go_ret
              exact ⟨rfl, (HOW.out.quiet (hex.trans e9 (by simp))).ext⟩
end Go.Proofs.Ytlagogjnoibkcaa
