/- The wheel's functions, by contract: what each call does to the heap's row. -/
import Derived.Test.YtlnablnnnnkeaaaRows3
import Derived.Test.YtlnablnnnnkeaaaWLast
namespace Go.Proofs.Ytlnablnnnnkeaaa
open Go.RowKit Go.Proofs.YtlnablnnnnkeaaaW.PrintLast
set_option linter.unusedVariables false
set_option linter.unusedSimpArgs false

/-- A timer that is armed. -/
structure One where
  at_ : Int
  id : Int
  tag : Int

def encO (o : One) : List Value := [.int .u64 o.at_, .int .i64 o.id, .int .i64 o.tag]
theorem encO_len (o : One) : (encO o).length = 3 := rfl

def aheadB (a b : One) : Bool := decide (a.at_ < b.at_) || (a.at_ == b.at_ && decide (a.id < b.id))

set_option maxHeartbeats 800000 in
theorem ahead_any (a b : One) (w : World) :
    Calls Try.prog 28 #[.agg #[.int .u64 a.at_, .int .i64 a.id, .int .i64 a.tag], .agg #[.int .u64 b.at_, .int .i64 b.id, .int .i64 b.tag]] w
      fun e w' => e = .returned (.bool (aheadB a b)) ∧ Ext [] w w' := by
  have hE : ∀ o1 o2 : Obj, Ext [] w ((w.alloc o1).alloc o2) := fun o1 o2 => ((Ext.refl _ _).alloc _).alloc _
  have hd : aheadB a b = (decide (a.at_ < b.at_) || (a.at_ == b.at_ && decide (a.id < b.id))) := rfl
  have HD := Lib.hid hd
  clear hd
  by_cases h1 : a.at_ < b.at_
  · have d1 : decide (a.at_ < b.at_) = true := decide_eq_true h1
    rw [d1] at HD
    go_enter Try.func28, Try.ntmps28
    go_wp2
    go_ret
    exact ⟨ret_bool (by rw [HD.out]; rfl), hE _ _⟩
  · have d1 : decide (a.at_ < b.at_) = false := decide_eq_false h1
    rw [d1] at HD
    by_cases h2 : a.at_ = b.at_
    · have d2 : (a.at_ == b.at_) = true := by simp [h2]
      rw [d2] at HD
      clear h2 h1
      go_enter Try.func28, Try.ntmps28
      go_wp2
      go_ret
      exact ⟨ret_bool (by rw [HD.out]; simp), hE _ _⟩
    · have d2 : (a.at_ == b.at_) = false := by simp [h2]
      rw [d2] at HD
      go_enter Try.func28, Try.ntmps28
      go_wp2
      go_ret
      exact ⟨ret_bool (by rw [HD.out]; rfl), hE _ _⟩

/-- The wheel at b: its heap's row is told by xs. -/
structure Wh (w : World) (b : Nat) (v : Value) (xs : List One) (most last : Int) : Prop where
  blk : Blk w b #[v, .int .i64 most, .int .i64 last] 59
  row : Rw encO 3 62 w v xs

theorem Wh.ne {w : World} {b : Nat} {v : Value} {xs : List One} {most last : Int} (h : Wh w b v xs most last) : v.ownBlock ≠ some b := h.row.ne_blk h.blk (by decide)

theorem Wh.keep {S : List Nat} {w w' : World} {b : Nat} {v : Value} {xs : List One} {most last : Int} (h : Wh w b v xs most last) (he : Ext S w w') (hb : b ∉ S) (hv : ∀ g, v.ownBlock = some g → g ∉ S) : Wh w' b v xs most last :=
  ⟨h.blk.keep he hb, h.row.keep he hv⟩

set_option maxHeartbeats 400000 in
theorem len_any (b : Nat) (v : Value) (xs : List One) (most last : Int) (w : World) (h : Wh w b v xs most last) :
    Calls Try.prog 13 #[.pointer (some ⟨b, 0, none⟩)] w fun e w' => e = .returned (.int .i64 xs.length) ∧ w = w' := by
  obtain ⟨a, cap, rfl⟩ := h.row.val
  have hc : w.cell? ⟨b, 0, none⟩ = some (.slice a xs.length cap) := h.blk.cell 0
  go_enter Try.func13, Try.ntmps13
  go_wp2
  go_ret
  exact ⟨rfl, rfl⟩

def clampM (m : Int) : Int := max 1 (min m 256)

set_option maxHeartbeats 400000 in
theorem new_any (m : Int) (w : World) :
    Calls Try.prog 9 #[.int .i64 m] w fun e w' => e = .returned (.pointer (some ⟨w.heap.size, 0, none⟩)) ∧ Wh w' w.heap.size (.slice none 0 0) [] (clampM m) 0 ∧ Ext [] w w' := by
  have key : ∀ most : Int, Wh (w.alloc (.cells #[.slice none 0 0, .int .i64 most, .int .i64 0] 59)) w.heap.size (.slice none 0 0) [] most 0 := fun most => ⟨Blk.new _ _ _, Rw.nil _⟩
  have K := Lib.hid key
  clear key
  go_enter Try.func9, Try.ntmps9
  go_wp2
  all_goals
    go_ret
    refine ⟨rfl, ?_, (Ext.refl _ _).alloc _⟩
    first
      | (have e : clampM m = 256 := by (unfold clampM; omega)
         rw [e]; exact K.out _)
      | (have e : clampM m = 1 := by (unfold clampM; omega)
         rw [e]; exact K.out _)
      | (have e : clampM m = m := by (unfold clampM; omega)
         rw [e]; exact K.out _)

/-- A timer is brought up to its place. -/
def upF (xs : List One) (i : Nat) : List One :=
  if h : i = 0 then xs else
    match xs[i]?, xs[(i - 1) / 2]? with
    | some x, some y => if aheadB x y = true then upF ((xs.set i y).set ((i - 1) / 2) x) ((i - 1) / 2) else xs
    | _, _ => xs
termination_by i
decreasing_by omega

theorem upF_zero (xs : List One) : upF xs 0 = xs := by rw [upF]; simp
theorem upF_stop (xs : List One) (i : Nat) (hi : i ≠ 0) (x y : One) (hx : xs[i]? = some x) (hy : xs[(i - 1) / 2]? = some y) (h : aheadB x y = false) : upF xs i = xs := by
  rw [upF]; simp [hi, hx, hy, h]
theorem upF_go (xs : List One) (i : Nat) (hi : i ≠ 0) (x y : One) (hx : xs[i]? = some x) (hy : xs[(i - 1) / 2]? = some y) (h : aheadB x y = true) : upF xs i = upF ((xs.set i y).set ((i - 1) / 2) x) ((i - 1) / 2) := by
  rw [upF]; simp [hi, hx, hy, h]

theorem all_one (a b c : Int) : (#[.int .u64 a, .int .i64 b, .int .i64 c] : Array Value).all (·.oneCell') = true := by simp [Value.oneCell']
theorem info_one : (Try.prog.info? 62).map (·.size) = some 3 := by kernel_rfl

/-- The world behind an exchange of two elements. -/
def swW (w : World) (g i p : Nat) (x y : One) : World := (w.setCells g (i * 3) (encO y)).setCells g (p * 3) (encO x)

theorem Wh.swap {w : World} {b g n cap : Nat} {xs : List One} {most last : Int} (h : Wh w b (.slice (some ⟨g, 0, none⟩) n cap) xs most last) {i p : Nat} (hi : i < xs.length) (hp : p < xs.length) (x y : One) :
    Wh (swW w g i p x y) b (.slice (some ⟨g, 0, none⟩) n cap) ((xs.set i y).set p x) most last ∧ Ext [g] w (swW w g i p x y) := by
  have hgb : g ≠ b := fun e => h.ne (by rw [e]; rfl)
  have he : Ext [g] w (swW w g i p x y) := Ext.setCells (Or.inl (by simp)) _ _ _ (Ext.setCells (Or.inl (by simp)) _ _ _ (Ext.refl _ _))
  have h1 := h.row.put encO_len hi y
  have h2 : p < (xs.set i y).length := by rw [List.length_set]; exact hp
  exact ⟨⟨h.blk.keep he (by simp; exact fun e => hgb e.symm), h1.put encO_len h2 x⟩, he⟩

theorem Wh.there1 {w : World} {b g n cap : Nat} {xs : List One} {most last : Int} (h : Wh w b (.slice (some ⟨g, 0, none⟩) n cap) xs most last) {i : Nat} (hi : i < xs.length) : w.there g (i * 3) 3 := h.row.there encO_len hi
theorem Wh.there2 {w : World} {b g n cap : Nat} {xs : List One} {most last : Int} (h : Wh w b (.slice (some ⟨g, 0, none⟩) n cap) xs most last) {i p : Nat} (hp : p < xs.length) (y : One) : (w.setCells g (i * 3) (encO y)).there g (p * 3) 3 :=
  World.there_setCells (h.there1 hp) _ _ _

set_option maxHeartbeats 3200000 in
theorem up_any (b g n cap : Nat) (xs : List One) (most last : Int) (i0 : Nat) (hi0 : i0 < xs.length) (hx : xs.length < 1000000) (w : World) (h : Wh w b (.slice (some ⟨g, 0, none⟩) n cap) xs most last) :
    Calls Try.prog 24 #[.pointer (some ⟨b, 0, none⟩), .int .i64 i0] w fun e w' => e = .returned (.tuple #[]) ∧ Wh w' b (.slice (some ⟨g, 0, none⟩) n cap) (upF xs i0) most last ∧ Ext [g] w w' := by
  have hgb : g ≠ b := fun e => h.ne (by rw [e]; rfl)
  go_enter Try.func24, Try.ntmps24
  go_wp2
  go_loopw [1] (fun iv wr => ∃ (i : Nat) (ys : List One), i < ys.length ∧ ys.length < 1000000 ∧ iv = .int .i64 i ∧ Wh wr b (.slice (some ⟨g, 0, none⟩) n cap) ys most last ∧ Hid (upF ys i = upF xs i0) ∧ Ext [g] w wr) (fun iv _ => (intOf iv).toNat)
  case atStart => exact ⟨i0, xs, hi0, hx, rfl, h, rfl, Ext.refl _ _⟩
  case round =>
    obtain ⟨i, ys, hil, hyl, rfl, hw, hup, her⟩ := hrel
    by_cases hz : i = 0
    · subst hz
      have hres : upF xs i0 = ys := by rw [← hup.out, upF_zero]
      have HR := Lib.hid hres
      clear hres hup
      go_wp2
      go_end0
      exact ⟨rfl, by rw [HR.out]; exact hw, her⟩
    · have hpos : (0 : Int) < (i : Int) := by omega
      have hpe : ((i : Int) - 1) / 2 = (((i - 1) / 2 : Nat) : Int) := by omega
      have hpl : (i - 1) / 2 < ys.length := by omega
      have hpi : (i - 1) / 2 < i := by omega
      have hx := List.getElem?_eq_getElem hil
      have hy := List.getElem?_eq_getElem hpl
      generalize ys[i] = x at hx
      generalize ys[(i - 1) / 2] = y at hy
      have hst := upF_stop ys i hz x y hx hy
      have hgo := upF_go ys i hz x y hx hy
      have HST := Lib.hid hst; have HGO := Lib.hid hgo
      clear hst hgo
      generalize (i - 1) / 2 = p at *
      have hcb : wr.cell? ⟨b, 0, none⟩ = some (.slice (some ⟨g, 0, none⟩) n cap) := hw.blk.cell 0
      have hx0 := hw.row.cell encO_len hx 0 (by omega); have hx1 := hw.row.cell encO_len hx 1 (by omega); have hx2 := hw.row.cell encO_len hx 2 (by omega)
      have hy0 := hw.row.cell encO_len hy 0 (by omega); have hy1 := hw.row.cell encO_len hy 1 (by omega); have hy2 := hw.row.cell encO_len hy 2 (by omega)
      simp only [encO, Nat.add_zero, List.getElem?_cons_zero, List.getElem?_cons_succ] at hx0 hx1 hx2 hy0 hy1 hy2
      have hln : n = ys.length := by
        obtain ⟨a, c, hv⟩ := hw.row.val
        injection hv
      have HLN := Lib.hid hln
      have b1 : (i : Int) < (n : Int) := by omega
      have b2 : (p : Int) < (n : Int) := by omega
      have b3 : (0 : Int) ≤ (p : Int) := by omega
      have b4 : (0 : Int) ≤ (i : Int) := by omega
      clear hln
      have hbl : b < wr.heap.size := hw.blk.lt
      have hgl : g < wr.heap.size := hw.row.lt g rfl
      have cA := fun w => ahead_any x y w
      have CA := Lib.hid cA
      clear cA
      go_wp2_with fail
      simp only [hpe]
      cases hab : aheadB x y
      · rw [hab] at CA HST
        have hres : upF xs i0 = ys := by rw [← hup.out]; exact HST.out rfl
        have HR := Lib.hid hres
        clear hres hup HST HGO hab
        refine start_ (n := 16) (S := fun w' => w'.cell? ⟨b, 0, none⟩ = some (.slice (some ⟨g, 0, none⟩) n cap) ∧ w'.cell? ⟨g, i * 3, none⟩ = some (.int .u64 x.at_) ∧ w'.cell? ⟨g, i * 3 + 1, none⟩ = some (.int .i64 x.id) ∧ w'.cell? ⟨g, i * 3 + 2, none⟩ = some (.int .i64 x.tag) ∧ w'.cell? ⟨g, p * 3, none⟩ = some (.int .u64 y.at_) ∧ w'.cell? ⟨g, p * 3 + 1, none⟩ = some (.int .i64 y.id) ∧ w'.cell? ⟨g, p * 3 + 2, none⟩ = some (.int .i64 y.tag)) (ds := []) #[false, false, false, false, false, false, false, false, false, false, false, false, false, false, false, false] (by kernel_rfl) rfl rfl ⟨hcb, hx0, hx1, hx2, hy0, hy1, hy2⟩ (fun hHeld => ?_)
        refine pure_ (i := 0) (N := some 10) (v := ?_) (a' := ?_) #[true, false, false, false, false, false, false, false, false, false, false, false, false, false, false, false] rfl rfl (by kernel_rfl) (fun _ _ _ h => h) (Or.inl ⟨by rfl, ?_⟩) ?_ ?_
        rotate_left
        · intro w'
          go_simp
          with_reducible rfl
        rotate_left
        · (simp only [Act.put, List.setIfInBounds_toArray, i64_w, i32_w]; dsimp only [List.set_cons_zero, List.set_cons_succ])
          rfl
        refine pure_ (i := 1) (N := some 11) (v := ?_) (a' := ?_) #[true, true, false, false, false, false, false, false, false, false, false, false, false, false, false, false] rfl rfl (by kernel_rfl) (fun _ _ _ h => h) (Or.inl ⟨by rfl, ?_⟩) ?_ ?_
        rotate_left
        · intro w'
          go_simp
          with_reducible rfl
        rotate_left
        · (simp only [Act.put, List.setIfInBounds_toArray, i64_w, i32_w]; dsimp only [List.set_cons_zero, List.set_cons_succ])
          rfl
        refine pure_ (i := 2) (N := some 12) (v := ?_) (a' := ?_) #[true, true, true, false, false, false, false, false, false, false, false, false, false, false, false, false] rfl rfl (by kernel_rfl) (fun _ _ _ h => h) (Or.inl ⟨by rfl, ?_⟩) ?_ ?_
        rotate_left
        · intro w'
          go_simp
          with_reducible rfl
        rotate_left
        · (simp only [Act.put, List.setIfInBounds_toArray, i64_w, i32_w]; dsimp only [List.set_cons_zero, List.set_cons_succ])
          rfl
        refine pure_ (i := 4) (N := some 14) (v := ?_) (a' := ?_) #[true, true, true, false, true, false, false, false, false, false, false, false, false, false, false, false] rfl rfl (by kernel_rfl) (fun _ _ _ h => h) (Or.inl ⟨by rfl, ?_⟩) ?_ ?_
        rotate_left
        · intro w'
          go_simp
          with_reducible rfl
        rotate_left
        · (simp only [Act.put, List.setIfInBounds_toArray, i64_w, i32_w]; dsimp only [List.set_cons_zero, List.set_cons_succ])
          rfl
        refine pure_ (i := 7) (N := some 17) (v := ?_) (a' := ?_) #[true, true, true, false, true, false, false, true, false, false, false, false, false, false, false, false] rfl rfl (by kernel_rfl) (fun _ _ _ h => h) (Or.inl ⟨by rfl, ?_⟩) ?_ ?_
        rotate_left
        · intro w'
          go_simp
          with_reducible rfl
        rotate_left
        · (simp only [Act.put, List.setIfInBounds_toArray, i64_w, i32_w]; dsimp only [List.set_cons_zero, List.set_cons_succ])
          rfl
        refine pure_ (i := 8) (N := some 18) (v := ?_) (a' := ?_) #[true, true, true, false, true, false, false, true, true, false, false, false, false, false, false, false] rfl rfl (by kernel_rfl) (fun _ _ _ h => h) (Or.inl ⟨by rfl, ?_⟩) ?_ ?_
        rotate_left
        · intro w'
          go_simp
          with_reducible rfl
        rotate_left
        · (simp only [Act.put, List.setIfInBounds_toArray, i64_w, i32_w]; dsimp only [List.set_cons_zero, List.set_cons_succ])
          rfl
        refine pure_ (i := 9) (N := some 19) (v := ?_) (a' := ?_) #[true, true, true, false, true, false, false, true, true, true, false, false, false, false, false, false] rfl rfl (by kernel_rfl) (fun _ _ _ h => h) (Or.inl ⟨by rfl, ?_⟩) ?_ ?_
        rotate_left
        · intro w'
          go_simp
          with_reducible rfl
        rotate_left
        · (simp only [Act.put, List.setIfInBounds_toArray, i64_w, i32_w]; dsimp only [List.set_cons_zero, List.set_cons_succ])
          rfl
        refine pure_ (i := 11) (N := some 21) (v := ?_) (a' := ?_) #[true, true, true, false, true, false, false, true, true, true, false, true, false, false, false, false] rfl rfl (by kernel_rfl) (fun _ _ _ h => h) (Or.inl ⟨by rfl, ?_⟩) ?_ ?_
        rotate_left
        · intro w'
          go_simp
          with_reducible rfl
        rotate_left
        · (simp only [Act.put, List.setIfInBounds_toArray, i64_w, i32_w]; dsimp only [List.set_cons_zero, List.set_cons_succ])
          rfl
        refine take_ (i := 3) (N := some 13) (v := ?_) (a' := ?_) #[true, true, true, true, true, false, false, true, true, true, false, true, false, false, false, false] rfl rfl (by kernel_rfl) (fun _ _ _ h => h) (Or.inl ⟨by rfl, ?_⟩) hHeld ?_ ?_
        rotate_left
        · rintro w' ⟨s0, s1, s2, s3, s4, s5, s6⟩
          go_simp
          with_reducible rfl
        rotate_left
        · (simp only [Act.put, List.setIfInBounds_toArray, i64_w, i32_w]; dsimp only [List.set_cons_zero, List.set_cons_succ])
          rfl
        refine pure_ (i := 5) (N := some 15) (v := ?_) (a' := ?_) #[true, true, true, true, true, true, false, true, true, true, false, true, false, false, false, false] rfl rfl (by kernel_rfl) (fun _ _ _ h => h) (Or.inl ⟨by rfl, ?_⟩) ?_ ?_
        rotate_left
        · intro w'
          go_simp
          with_reducible rfl
        rotate_left
        · (simp only [Act.put, List.setIfInBounds_toArray, i64_w, i32_w]; dsimp only [List.set_cons_zero, List.set_cons_succ])
          rfl
        refine take_ (i := 6) (N := some 16) (v := ?_) (a' := ?_) #[true, true, true, true, true, true, true, true, true, true, false, true, false, false, false, false] rfl rfl (by kernel_rfl) (fun _ _ _ h => h) (Or.inl ⟨by rfl, ?_⟩) hHeld ?_ ?_
        rotate_left
        · rintro w' ⟨s0, s1, s2, s3, s4, s5, s6⟩
          go_simp
          with_reducible rfl
        rotate_left
        · (simp only [Act.put, List.setIfInBounds_toArray, i64_w, i32_w]; dsimp only [List.set_cons_zero, List.set_cons_succ])
          rfl
        refine take_ (i := 10) (N := some 20) (v := ?_) (a' := ?_) #[true, true, true, true, true, true, true, true, true, true, true, true, false, false, false, false] rfl rfl (by kernel_rfl) (fun _ _ _ h => h) (Or.inl ⟨by rfl, ?_⟩) hHeld ?_ ?_
        rotate_left
        · rintro w' ⟨s0, s1, s2, s3, s4, s5, s6⟩
          go_simp
          with_reducible rfl
        rotate_left
        · (simp only [Act.put, List.setIfInBounds_toArray, i64_w, i32_w]; dsimp only [List.set_cons_zero, List.set_cons_succ])
          rfl
        refine pure_ (i := 12) (N := some 22) (v := ?_) (a' := ?_) #[true, true, true, true, true, true, true, true, true, true, true, true, true, false, false, false] rfl rfl (by kernel_rfl) (fun _ _ _ h => h) (Or.inl ⟨by rfl, ?_⟩) ?_ ?_
        rotate_left
        · intro w'
          go_simp
          with_reducible rfl
        rotate_left
        · (simp only [Act.put, List.setIfInBounds_toArray, i64_w, i32_w]; dsimp only [List.set_cons_zero, List.set_cons_succ])
          rfl
        refine take_ (i := 13) (N := some 23) (v := ?_) (a' := ?_) #[true, true, true, true, true, true, true, true, true, true, true, true, true, true, false, false] rfl rfl (by kernel_rfl) (fun _ _ _ h => h) (Or.inl ⟨by rfl, ?_⟩) hHeld ?_ ?_
        rotate_left
        · rintro w' ⟨s0, s1, s2, s3, s4, s5, s6⟩
          go_simp
          with_reducible rfl
        rotate_left
        · (simp only [Act.put, List.setIfInBounds_toArray, i64_w, i32_w]; dsimp only [List.set_cons_zero, List.set_cons_succ])
          rfl
        refine one_ (i := 14) (N := some 24) #[true, true, true, true, true, true, true, true, true, true, true, true, true, true, true, false] rfl rfl (by kernel_rfl) (by decide) (fun K hK => ?_)
        refine goes_ Try.func28 (by kernel_rfl) rfl #[.agg #[.int .u64 x.at_, .int .i64 x.id, .int .i64 x.tag], .agg #[.int .u64 y.at_, .int .i64 y.id, .int .i64 y.tag]] (by rfl) rfl rfl (by simp only [List.map_toArray, List.map_cons, List.map_nil]; rfl) ?_
        with_reducible refine (CA.out _).mono ?_
        rintro e w2 ⟨rfl, h2⟩
        refine ⟨_, rfl, ?_⟩
        refine hK.out _ _ ⟨((h2.cell (p := ⟨b, 0, none⟩) hbl (by simp)).trans hcb), ((h2.cell (p := ⟨g, i * 3, none⟩) hgl (by simp)).trans hx0), ((h2.cell (p := ⟨g, i * 3 + 1, none⟩) hgl (by simp)).trans hx1), ((h2.cell (p := ⟨g, i * 3 + 2, none⟩) hgl (by simp)).trans hx2), ((h2.cell (p := ⟨g, p * 3, none⟩) hgl (by simp)).trans hy0), ((h2.cell (p := ⟨g, p * 3 + 1, none⟩) hgl (by simp)).trans hy1), ((h2.cell (p := ⟨g, p * 3 + 2, none⟩) hgl (by simp)).trans hy2)⟩ (fun hHeld => ?_)
        clear hK K
        refine norm_ (a' := ?_) ?_ ?_
        rotate_left
        · show Act.put _ (some 24) _ = _
          (simp only [Act.put, List.setIfInBounds_toArray, i64_w, i32_w]; dsimp only [List.set_cons_zero, List.set_cons_succ])
          rfl
        refine pure_ (i := 15) (N := some 25) (v := ?_) (a' := ?_) #[true, true, true, true, true, true, true, true, true, true, true, true, true, true, true, true] rfl rfl (by kernel_rfl) (fun _ _ _ h => h) (Or.inl ⟨by rfl, ?_⟩) ?_ ?_
        rotate_left
        · intro w'
          go_simp
          with_reducible rfl
        rotate_left
        · (simp only [Act.put, List.setIfInBounds_toArray, i64_w, i32_w]; dsimp only [List.set_cons_zero, List.set_cons_succ])
          rfl
        refine done_ (by kernel_rfl) ?_
        go_wp2
        refine bodyPost_ret (results_none rfl _ _ _) rfl ?_
        exact ⟨rfl, by rw [HR.out]; exact hw.keep h2.of_drew (by simp) (by simp), her.trans h2.of_drew (by simp)⟩
      · rw [hab] at CA HGO
        have hres : upF ((ys.set i y).set p x) p = upF xs i0 := by rw [← hup.out]; exact (HGO.out rfl).symm
        have HR := Lib.hid hres
        clear hres hup HST HGO hab
        refine start_ (n := 16) (S := fun w' => w'.cell? ⟨b, 0, none⟩ = some (.slice (some ⟨g, 0, none⟩) n cap) ∧ w'.cell? ⟨g, i * 3, none⟩ = some (.int .u64 x.at_) ∧ w'.cell? ⟨g, i * 3 + 1, none⟩ = some (.int .i64 x.id) ∧ w'.cell? ⟨g, i * 3 + 2, none⟩ = some (.int .i64 x.tag) ∧ w'.cell? ⟨g, p * 3, none⟩ = some (.int .u64 y.at_) ∧ w'.cell? ⟨g, p * 3 + 1, none⟩ = some (.int .i64 y.id) ∧ w'.cell? ⟨g, p * 3 + 2, none⟩ = some (.int .i64 y.tag)) (ds := []) #[false, false, false, false, false, false, false, false, false, false, false, false, false, false, false, false] (by kernel_rfl) rfl rfl ⟨hcb, hx0, hx1, hx2, hy0, hy1, hy2⟩ (fun hHeld => ?_)
        refine pure_ (i := 0) (N := some 10) (v := ?_) (a' := ?_) #[true, false, false, false, false, false, false, false, false, false, false, false, false, false, false, false] rfl rfl (by kernel_rfl) (fun _ _ _ h => h) (Or.inl ⟨by rfl, ?_⟩) ?_ ?_
        rotate_left
        · intro w'
          go_simp
          with_reducible rfl
        rotate_left
        · (simp only [Act.put, List.setIfInBounds_toArray, i64_w, i32_w]; dsimp only [List.set_cons_zero, List.set_cons_succ])
          rfl
        refine pure_ (i := 1) (N := some 11) (v := ?_) (a' := ?_) #[true, true, false, false, false, false, false, false, false, false, false, false, false, false, false, false] rfl rfl (by kernel_rfl) (fun _ _ _ h => h) (Or.inl ⟨by rfl, ?_⟩) ?_ ?_
        rotate_left
        · intro w'
          go_simp
          with_reducible rfl
        rotate_left
        · (simp only [Act.put, List.setIfInBounds_toArray, i64_w, i32_w]; dsimp only [List.set_cons_zero, List.set_cons_succ])
          rfl
        refine pure_ (i := 2) (N := some 12) (v := ?_) (a' := ?_) #[true, true, true, false, false, false, false, false, false, false, false, false, false, false, false, false] rfl rfl (by kernel_rfl) (fun _ _ _ h => h) (Or.inl ⟨by rfl, ?_⟩) ?_ ?_
        rotate_left
        · intro w'
          go_simp
          with_reducible rfl
        rotate_left
        · (simp only [Act.put, List.setIfInBounds_toArray, i64_w, i32_w]; dsimp only [List.set_cons_zero, List.set_cons_succ])
          rfl
        refine pure_ (i := 4) (N := some 14) (v := ?_) (a' := ?_) #[true, true, true, false, true, false, false, false, false, false, false, false, false, false, false, false] rfl rfl (by kernel_rfl) (fun _ _ _ h => h) (Or.inl ⟨by rfl, ?_⟩) ?_ ?_
        rotate_left
        · intro w'
          go_simp
          with_reducible rfl
        rotate_left
        · (simp only [Act.put, List.setIfInBounds_toArray, i64_w, i32_w]; dsimp only [List.set_cons_zero, List.set_cons_succ])
          rfl
        refine pure_ (i := 7) (N := some 17) (v := ?_) (a' := ?_) #[true, true, true, false, true, false, false, true, false, false, false, false, false, false, false, false] rfl rfl (by kernel_rfl) (fun _ _ _ h => h) (Or.inl ⟨by rfl, ?_⟩) ?_ ?_
        rotate_left
        · intro w'
          go_simp
          with_reducible rfl
        rotate_left
        · (simp only [Act.put, List.setIfInBounds_toArray, i64_w, i32_w]; dsimp only [List.set_cons_zero, List.set_cons_succ])
          rfl
        refine pure_ (i := 8) (N := some 18) (v := ?_) (a' := ?_) #[true, true, true, false, true, false, false, true, true, false, false, false, false, false, false, false] rfl rfl (by kernel_rfl) (fun _ _ _ h => h) (Or.inl ⟨by rfl, ?_⟩) ?_ ?_
        rotate_left
        · intro w'
          go_simp
          with_reducible rfl
        rotate_left
        · (simp only [Act.put, List.setIfInBounds_toArray, i64_w, i32_w]; dsimp only [List.set_cons_zero, List.set_cons_succ])
          rfl
        refine pure_ (i := 9) (N := some 19) (v := ?_) (a' := ?_) #[true, true, true, false, true, false, false, true, true, true, false, false, false, false, false, false] rfl rfl (by kernel_rfl) (fun _ _ _ h => h) (Or.inl ⟨by rfl, ?_⟩) ?_ ?_
        rotate_left
        · intro w'
          go_simp
          with_reducible rfl
        rotate_left
        · (simp only [Act.put, List.setIfInBounds_toArray, i64_w, i32_w]; dsimp only [List.set_cons_zero, List.set_cons_succ])
          rfl
        refine pure_ (i := 11) (N := some 21) (v := ?_) (a' := ?_) #[true, true, true, false, true, false, false, true, true, true, false, true, false, false, false, false] rfl rfl (by kernel_rfl) (fun _ _ _ h => h) (Or.inl ⟨by rfl, ?_⟩) ?_ ?_
        rotate_left
        · intro w'
          go_simp
          with_reducible rfl
        rotate_left
        · (simp only [Act.put, List.setIfInBounds_toArray, i64_w, i32_w]; dsimp only [List.set_cons_zero, List.set_cons_succ])
          rfl
        refine take_ (i := 3) (N := some 13) (v := ?_) (a' := ?_) #[true, true, true, true, true, false, false, true, true, true, false, true, false, false, false, false] rfl rfl (by kernel_rfl) (fun _ _ _ h => h) (Or.inl ⟨by rfl, ?_⟩) hHeld ?_ ?_
        rotate_left
        · rintro w' ⟨s0, s1, s2, s3, s4, s5, s6⟩
          go_simp
          with_reducible rfl
        rotate_left
        · (simp only [Act.put, List.setIfInBounds_toArray, i64_w, i32_w]; dsimp only [List.set_cons_zero, List.set_cons_succ])
          rfl
        refine pure_ (i := 5) (N := some 15) (v := ?_) (a' := ?_) #[true, true, true, true, true, true, false, true, true, true, false, true, false, false, false, false] rfl rfl (by kernel_rfl) (fun _ _ _ h => h) (Or.inl ⟨by rfl, ?_⟩) ?_ ?_
        rotate_left
        · intro w'
          go_simp
          with_reducible rfl
        rotate_left
        · (simp only [Act.put, List.setIfInBounds_toArray, i64_w, i32_w]; dsimp only [List.set_cons_zero, List.set_cons_succ])
          rfl
        refine take_ (i := 6) (N := some 16) (v := ?_) (a' := ?_) #[true, true, true, true, true, true, true, true, true, true, false, true, false, false, false, false] rfl rfl (by kernel_rfl) (fun _ _ _ h => h) (Or.inl ⟨by rfl, ?_⟩) hHeld ?_ ?_
        rotate_left
        · rintro w' ⟨s0, s1, s2, s3, s4, s5, s6⟩
          go_simp
          with_reducible rfl
        rotate_left
        · (simp only [Act.put, List.setIfInBounds_toArray, i64_w, i32_w]; dsimp only [List.set_cons_zero, List.set_cons_succ])
          rfl
        refine take_ (i := 10) (N := some 20) (v := ?_) (a' := ?_) #[true, true, true, true, true, true, true, true, true, true, true, true, false, false, false, false] rfl rfl (by kernel_rfl) (fun _ _ _ h => h) (Or.inl ⟨by rfl, ?_⟩) hHeld ?_ ?_
        rotate_left
        · rintro w' ⟨s0, s1, s2, s3, s4, s5, s6⟩
          go_simp
          with_reducible rfl
        rotate_left
        · (simp only [Act.put, List.setIfInBounds_toArray, i64_w, i32_w]; dsimp only [List.set_cons_zero, List.set_cons_succ])
          rfl
        refine pure_ (i := 12) (N := some 22) (v := ?_) (a' := ?_) #[true, true, true, true, true, true, true, true, true, true, true, true, true, false, false, false] rfl rfl (by kernel_rfl) (fun _ _ _ h => h) (Or.inl ⟨by rfl, ?_⟩) ?_ ?_
        rotate_left
        · intro w'
          go_simp
          with_reducible rfl
        rotate_left
        · (simp only [Act.put, List.setIfInBounds_toArray, i64_w, i32_w]; dsimp only [List.set_cons_zero, List.set_cons_succ])
          rfl
        refine take_ (i := 13) (N := some 23) (v := ?_) (a' := ?_) #[true, true, true, true, true, true, true, true, true, true, true, true, true, true, false, false] rfl rfl (by kernel_rfl) (fun _ _ _ h => h) (Or.inl ⟨by rfl, ?_⟩) hHeld ?_ ?_
        rotate_left
        · rintro w' ⟨s0, s1, s2, s3, s4, s5, s6⟩
          go_simp
          with_reducible rfl
        rotate_left
        · (simp only [Act.put, List.setIfInBounds_toArray, i64_w, i32_w]; dsimp only [List.set_cons_zero, List.set_cons_succ])
          rfl
        refine one_ (i := 14) (N := some 24) #[true, true, true, true, true, true, true, true, true, true, true, true, true, true, true, false] rfl rfl (by kernel_rfl) (by decide) (fun K hK => ?_)
        refine goes_ Try.func28 (by kernel_rfl) rfl #[.agg #[.int .u64 x.at_, .int .i64 x.id, .int .i64 x.tag], .agg #[.int .u64 y.at_, .int .i64 y.id, .int .i64 y.tag]] (by rfl) rfl rfl (by simp only [List.map_toArray, List.map_cons, List.map_nil]; rfl) ?_
        with_reducible refine (CA.out _).mono ?_
        rintro e w2 ⟨rfl, h2⟩
        refine ⟨_, rfl, ?_⟩
        refine hK.out _ _ ⟨((h2.cell (p := ⟨b, 0, none⟩) hbl (by simp)).trans hcb), ((h2.cell (p := ⟨g, i * 3, none⟩) hgl (by simp)).trans hx0), ((h2.cell (p := ⟨g, i * 3 + 1, none⟩) hgl (by simp)).trans hx1), ((h2.cell (p := ⟨g, i * 3 + 2, none⟩) hgl (by simp)).trans hx2), ((h2.cell (p := ⟨g, p * 3, none⟩) hgl (by simp)).trans hy0), ((h2.cell (p := ⟨g, p * 3 + 1, none⟩) hgl (by simp)).trans hy1), ((h2.cell (p := ⟨g, p * 3 + 2, none⟩) hgl (by simp)).trans hy2)⟩ (fun hHeld => ?_)
        clear hK K
        refine norm_ (a' := ?_) ?_ ?_
        rotate_left
        · show Act.put _ (some 24) _ = _
          (simp only [Act.put, List.setIfInBounds_toArray, i64_w, i32_w]; dsimp only [List.set_cons_zero, List.set_cons_succ])
          rfl
        refine pure_ (i := 15) (N := some 25) (v := ?_) (a' := ?_) #[true, true, true, true, true, true, true, true, true, true, true, true, true, true, true, true] rfl rfl (by kernel_rfl) (fun _ _ _ h => h) (Or.inl ⟨by rfl, ?_⟩) ?_ ?_
        rotate_left
        · intro w'
          go_simp
          with_reducible rfl
        rotate_left
        · (simp only [Act.put, List.setIfInBounds_toArray, i64_w, i32_w]; dsimp only [List.set_cons_zero, List.set_cons_succ])
          rfl
        refine done_ (by kernel_rfl) ?_
        have hw2 := hw.keep h2.of_drew (by simp) (by simp)
        have hip : i ≠ p := by omega
        clear hcb hx0 hx1 hx2 hy0 hy1 hy2
        have hcb : w2.cell? ⟨b, 0, none⟩ = some (.slice (some ⟨g, 0, none⟩) n cap) := hw2.blk.cell 0
        have hx0 := hw2.row.cell encO_len hx 0 (by omega); have hx1 := hw2.row.cell encO_len hx 1 (by omega); have hx2 := hw2.row.cell encO_len hx 2 (by omega)
        have hy0 := hw2.row.cell encO_len hy 0 (by omega); have hy1 := hw2.row.cell encO_len hy 1 (by omega); have hy2 := hw2.row.cell encO_len hy 2 (by omega)
        simp only [encO, Nat.add_zero, List.getElem?_cons_zero, List.getElem?_cons_succ] at hx0 hx1 hx2 hy0 hy1 hy2
        have hw2d : Wh w2.drew b (.slice (some ⟨g, 0, none⟩) n cap) ys most last := ⟨hw2.blk, hw2.row⟩
        have th0 := hw2d.there1 hil
        have th1 := hw2d.there2 (i := i) hpl y
        have hsw := hw2d.swap hil hpl x y
        have HSW := Lib.hid hsw
        clear hsw hw2d
        go_wp2_with fail
        refine start_ (n := 28) (S := fun w' => w'.cell? ⟨b, 0, none⟩ = some (.slice (some ⟨g, 0, none⟩) n cap) ∧ w'.cell? ⟨g, i * 3, none⟩ = some (.int .u64 x.at_) ∧ w'.cell? ⟨g, i * 3 + 1, none⟩ = some (.int .i64 x.id) ∧ w'.cell? ⟨g, i * 3 + 2, none⟩ = some (.int .i64 x.tag) ∧ w'.cell? ⟨g, p * 3, none⟩ = some (.int .u64 y.at_) ∧ w'.cell? ⟨g, p * 3 + 1, none⟩ = some (.int .i64 y.id) ∧ w'.cell? ⟨g, p * 3 + 2, none⟩ = some (.int .i64 y.tag)) (ds := [25, 27]) #[false, false, false, false, false, false, false, false, false, false, false, false, false, false, false, false, false, false, false, false, false, false, false, false, false, false, false, false] (by kernel_rfl) rfl rfl ⟨hcb, hx0, hx1, hx2, hy0, hy1, hy2⟩ (fun hHeld => ?_)
        refine pure_ (i := 0) (N := some 26) (v := ?_) (a' := ?_) #[true, false, false, false, false, false, false, false, false, false, false, false, false, false, false, false, false, false, false, false, false, false, false, false, false, false, false, false] rfl rfl (by kernel_rfl) (fun _ _ _ h => h) (Or.inl ⟨by rfl, ?_⟩) ?_ ?_
        rotate_left
        · intro w'
          go_simp
          with_reducible rfl
        rotate_left
        · (simp only [Act.put, List.setIfInBounds_toArray, i64_w, i32_w]; dsimp only [List.set_cons_zero, List.set_cons_succ])
          rfl
        refine pure_ (i := 1) (N := some 27) (v := ?_) (a' := ?_) #[true, true, false, false, false, false, false, false, false, false, false, false, false, false, false, false, false, false, false, false, false, false, false, false, false, false, false, false] rfl rfl (by kernel_rfl) (fun _ _ _ h => h) (Or.inl ⟨by rfl, ?_⟩) ?_ ?_
        rotate_left
        · intro w'
          go_simp
          with_reducible rfl
        rotate_left
        · (simp only [Act.put, List.setIfInBounds_toArray, i64_w, i32_w]; dsimp only [List.set_cons_zero, List.set_cons_succ])
          rfl
        refine pure_ (i := 2) (N := some 28) (v := ?_) (a' := ?_) #[true, true, true, false, false, false, false, false, false, false, false, false, false, false, false, false, false, false, false, false, false, false, false, false, false, false, false, false] rfl rfl (by kernel_rfl) (fun _ _ _ h => h) (Or.inl ⟨by rfl, ?_⟩) ?_ ?_
        rotate_left
        · intro w'
          go_simp
          with_reducible rfl
        rotate_left
        · (simp only [Act.put, List.setIfInBounds_toArray, i64_w, i32_w]; dsimp only [List.set_cons_zero, List.set_cons_succ])
          rfl
        refine pure_ (i := 4) (N := some 30) (v := ?_) (a' := ?_) #[true, true, true, false, true, false, false, false, false, false, false, false, false, false, false, false, false, false, false, false, false, false, false, false, false, false, false, false] rfl rfl (by kernel_rfl) (fun _ _ _ h => h) (Or.inl ⟨by rfl, ?_⟩) ?_ ?_
        rotate_left
        · intro w'
          go_simp
          with_reducible rfl
        rotate_left
        · (simp only [Act.put, List.setIfInBounds_toArray, i64_w, i32_w]; dsimp only [List.set_cons_zero, List.set_cons_succ])
          rfl
        refine pure_ (i := 5) (N := some 31) (v := ?_) (a' := ?_) #[true, true, true, false, true, true, false, false, false, false, false, false, false, false, false, false, false, false, false, false, false, false, false, false, false, false, false, false] rfl rfl (by kernel_rfl) (fun _ _ _ h => h) (Or.inl ⟨by rfl, ?_⟩) ?_ ?_
        rotate_left
        · intro w'
          go_simp
          with_reducible rfl
        rotate_left
        · (simp only [Act.put, List.setIfInBounds_toArray, i64_w, i32_w]; dsimp only [List.set_cons_zero, List.set_cons_succ])
          rfl
        refine pure_ (i := 6) (N := some 32) (v := ?_) (a' := ?_) #[true, true, true, false, true, true, true, false, false, false, false, false, false, false, false, false, false, false, false, false, false, false, false, false, false, false, false, false] rfl rfl (by kernel_rfl) (fun _ _ _ h => h) (Or.inl ⟨by rfl, ?_⟩) ?_ ?_
        rotate_left
        · intro w'
          go_simp
          with_reducible rfl
        rotate_left
        · (simp only [Act.put, List.setIfInBounds_toArray, i64_w, i32_w]; dsimp only [List.set_cons_zero, List.set_cons_succ])
          rfl
        refine pure_ (i := 7) (N := some 33) (v := ?_) (a' := ?_) #[true, true, true, false, true, true, true, true, false, false, false, false, false, false, false, false, false, false, false, false, false, false, false, false, false, false, false, false] rfl rfl (by kernel_rfl) (fun _ _ _ h => h) (Or.inl ⟨by rfl, ?_⟩) ?_ ?_
        rotate_left
        · intro w'
          go_simp
          with_reducible rfl
        rotate_left
        · (simp only [Act.put, List.setIfInBounds_toArray, i64_w, i32_w]; dsimp only [List.set_cons_zero, List.set_cons_succ])
          rfl
        refine pure_ (i := 9) (N := some 35) (v := ?_) (a' := ?_) #[true, true, true, false, true, true, true, true, false, true, false, false, false, false, false, false, false, false, false, false, false, false, false, false, false, false, false, false] rfl rfl (by kernel_rfl) (fun _ _ _ h => h) (Or.inl ⟨by rfl, ?_⟩) ?_ ?_
        rotate_left
        · intro w'
          go_simp
          with_reducible rfl
        rotate_left
        · (simp only [Act.put, List.setIfInBounds_toArray, i64_w, i32_w]; dsimp only [List.set_cons_zero, List.set_cons_succ])
          rfl
        refine pure_ (i := 10) (N := some 36) (v := ?_) (a' := ?_) #[true, true, true, false, true, true, true, true, false, true, true, false, false, false, false, false, false, false, false, false, false, false, false, false, false, false, false, false] rfl rfl (by kernel_rfl) (fun _ _ _ h => h) (Or.inl ⟨by rfl, ?_⟩) ?_ ?_
        rotate_left
        · intro w'
          go_simp
          with_reducible rfl
        rotate_left
        · (simp only [Act.put, List.setIfInBounds_toArray, i64_w, i32_w]; dsimp only [List.set_cons_zero, List.set_cons_succ])
          rfl
        refine pure_ (i := 11) (N := some 37) (v := ?_) (a' := ?_) #[true, true, true, false, true, true, true, true, false, true, true, true, false, false, false, false, false, false, false, false, false, false, false, false, false, false, false, false] rfl rfl (by kernel_rfl) (fun _ _ _ h => h) (Or.inl ⟨by rfl, ?_⟩) ?_ ?_
        rotate_left
        · intro w'
          go_simp
          with_reducible rfl
        rotate_left
        · (simp only [Act.put, List.setIfInBounds_toArray, i64_w, i32_w]; dsimp only [List.set_cons_zero, List.set_cons_succ])
          rfl
        refine pure_ (i := 12) (N := some 38) (v := ?_) (a' := ?_) #[true, true, true, false, true, true, true, true, false, true, true, true, true, false, false, false, false, false, false, false, false, false, false, false, false, false, false, false] rfl rfl (by kernel_rfl) (fun _ _ _ h => h) (Or.inl ⟨by rfl, ?_⟩) ?_ ?_
        rotate_left
        · intro w'
          go_simp
          with_reducible rfl
        rotate_left
        · (simp only [Act.put, List.setIfInBounds_toArray, i64_w, i32_w]; dsimp only [List.set_cons_zero, List.set_cons_succ])
          rfl
        refine pure_ (i := 14) (N := some 40) (v := ?_) (a' := ?_) #[true, true, true, false, true, true, true, true, false, true, true, true, true, false, true, false, false, false, false, false, false, false, false, false, false, false, false, false] rfl rfl (by kernel_rfl) (fun _ _ _ h => h) (Or.inl ⟨by rfl, ?_⟩) ?_ ?_
        rotate_left
        · intro w'
          go_simp
          with_reducible rfl
        rotate_left
        · (simp only [Act.put, List.setIfInBounds_toArray, i64_w, i32_w]; dsimp only [List.set_cons_zero, List.set_cons_succ])
          rfl
        refine pure_ (i := 17) (N := some 43) (v := ?_) (a' := ?_) #[true, true, true, false, true, true, true, true, false, true, true, true, true, false, true, false, false, true, false, false, false, false, false, false, false, false, false, false] rfl rfl (by kernel_rfl) (fun _ _ _ h => h) (Or.inl ⟨by rfl, ?_⟩) ?_ ?_
        rotate_left
        · intro w'
          go_simp
          with_reducible rfl
        rotate_left
        · (simp only [Act.put, List.setIfInBounds_toArray, i64_w, i32_w]; dsimp only [List.set_cons_zero, List.set_cons_succ])
          rfl
        refine pure_ (i := 18) (N := some 44) (v := ?_) (a' := ?_) #[true, true, true, false, true, true, true, true, false, true, true, true, true, false, true, false, false, true, true, false, false, false, false, false, false, false, false, false] rfl rfl (by kernel_rfl) (fun _ _ _ h => h) (Or.inl ⟨by rfl, ?_⟩) ?_ ?_
        rotate_left
        · intro w'
          go_simp
          with_reducible rfl
        rotate_left
        · (simp only [Act.put, List.setIfInBounds_toArray, i64_w, i32_w]; dsimp only [List.set_cons_zero, List.set_cons_succ])
          rfl
        refine pure_ (i := 19) (N := some 45) (v := ?_) (a' := ?_) #[true, true, true, false, true, true, true, true, false, true, true, true, true, false, true, false, false, true, true, true, false, false, false, false, false, false, false, false] rfl rfl (by kernel_rfl) (fun _ _ _ h => h) (Or.inl ⟨by rfl, ?_⟩) ?_ ?_
        rotate_left
        · intro w'
          go_simp
          with_reducible rfl
        rotate_left
        · (simp only [Act.put, List.setIfInBounds_toArray, i64_w, i32_w]; dsimp only [List.set_cons_zero, List.set_cons_succ])
          rfl
        refine pure_ (i := 21) (N := some 47) (v := ?_) (a' := ?_) #[true, true, true, false, true, true, true, true, false, true, true, true, true, false, true, false, false, true, true, true, false, true, false, false, false, false, false, false] rfl rfl (by kernel_rfl) (fun _ _ _ h => h) (Or.inl ⟨by rfl, ?_⟩) ?_ ?_
        rotate_left
        · intro w'
          go_simp
          with_reducible rfl
        rotate_left
        · (simp only [Act.put, List.setIfInBounds_toArray, i64_w, i32_w]; dsimp only [List.set_cons_zero, List.set_cons_succ])
          rfl
        refine take_ (i := 3) (N := some 29) (v := ?_) (a' := ?_) #[true, true, true, true, true, true, true, true, false, true, true, true, true, false, true, false, false, true, true, true, false, true, false, false, false, false, false, false] rfl rfl (by kernel_rfl) (fun _ _ _ h => h) (Or.inl ⟨by rfl, ?_⟩) hHeld ?_ ?_
        rotate_left
        · rintro w' ⟨s0, s1, s2, s3, s4, s5, s6⟩
          go_simp
          with_reducible rfl
        rotate_left
        · (simp only [Act.put, List.setIfInBounds_toArray, i64_w, i32_w]; dsimp only [List.set_cons_zero, List.set_cons_succ])
          rfl
        refine take_ (i := 8) (N := some 34) (v := ?_) (a' := ?_) #[true, true, true, true, true, true, true, true, true, true, true, true, true, false, true, false, false, true, true, true, false, true, false, false, false, false, false, false] rfl rfl (by kernel_rfl) (fun _ _ _ h => h) (Or.inl ⟨by rfl, ?_⟩) hHeld ?_ ?_
        rotate_left
        · rintro w' ⟨s0, s1, s2, s3, s4, s5, s6⟩
          go_simp
          with_reducible rfl
        rotate_left
        · (simp only [Act.put, List.setIfInBounds_toArray, i64_w, i32_w]; dsimp only [List.set_cons_zero, List.set_cons_succ])
          rfl
        refine take_ (i := 13) (N := some 39) (v := ?_) (a' := ?_) #[true, true, true, true, true, true, true, true, true, true, true, true, true, true, true, false, false, true, true, true, false, true, false, false, false, false, false, false] rfl rfl (by kernel_rfl) (fun _ _ _ h => h) (Or.inl ⟨by rfl, ?_⟩) hHeld ?_ ?_
        rotate_left
        · rintro w' ⟨s0, s1, s2, s3, s4, s5, s6⟩
          go_simp
          with_reducible rfl
        rotate_left
        · (simp only [Act.put, List.setIfInBounds_toArray, i64_w, i32_w]; dsimp only [List.set_cons_zero, List.set_cons_succ])
          rfl
        refine pure_ (i := 15) (N := some 41) (v := ?_) (a' := ?_) #[true, true, true, true, true, true, true, true, true, true, true, true, true, true, true, true, false, true, true, true, false, true, false, false, false, false, false, false] rfl rfl (by kernel_rfl) (fun _ _ _ h => h) (Or.inl ⟨by rfl, ?_⟩) ?_ ?_
        rotate_left
        · intro w'
          go_simp
          with_reducible rfl
        rotate_left
        · (simp only [Act.put, List.setIfInBounds_toArray, i64_w, i32_w]; dsimp only [List.set_cons_zero, List.set_cons_succ])
          rfl
        refine take_ (i := 16) (N := some 42) (v := ?_) (a' := ?_) #[true, true, true, true, true, true, true, true, true, true, true, true, true, true, true, true, true, true, true, true, false, true, false, false, false, false, false, false] rfl rfl (by kernel_rfl) (fun _ _ _ h => h) (Or.inl ⟨by rfl, ?_⟩) hHeld ?_ ?_
        rotate_left
        · rintro w' ⟨s0, s1, s2, s3, s4, s5, s6⟩
          go_simp
          with_reducible rfl
        rotate_left
        · (simp only [Act.put, List.setIfInBounds_toArray, i64_w, i32_w]; dsimp only [List.set_cons_zero, List.set_cons_succ])
          rfl
        refine take_ (i := 20) (N := some 46) (v := ?_) (a' := ?_) #[true, true, true, true, true, true, true, true, true, true, true, true, true, true, true, true, true, true, true, true, true, true, false, false, false, false, false, false] rfl rfl (by kernel_rfl) (fun _ _ _ h => h) (Or.inl ⟨by rfl, ?_⟩) hHeld ?_ ?_
        rotate_left
        · rintro w' ⟨s0, s1, s2, s3, s4, s5, s6⟩
          go_simp
          with_reducible rfl
        rotate_left
        · (simp only [Act.put, List.setIfInBounds_toArray, i64_w, i32_w]; dsimp only [List.set_cons_zero, List.set_cons_succ])
          rfl
        refine pure_ (i := 22) (N := some 48) (v := ?_) (a' := ?_) #[true, true, true, true, true, true, true, true, true, true, true, true, true, true, true, true, true, true, true, true, true, true, true, false, false, false, false, false] rfl rfl (by kernel_rfl) (fun _ _ _ h => h) (Or.inl ⟨by rfl, ?_⟩) ?_ ?_
        rotate_left
        · intro w'
          go_simp
          with_reducible rfl
        rotate_left
        · (simp only [Act.put, List.setIfInBounds_toArray, i64_w, i32_w]; dsimp only [List.set_cons_zero, List.set_cons_succ])
          rfl
        refine take_ (i := 23) (N := some 49) (v := ?_) (a' := ?_) #[true, true, true, true, true, true, true, true, true, true, true, true, true, true, true, true, true, true, true, true, true, true, true, true, false, false, false, false] rfl rfl (by kernel_rfl) (fun _ _ _ h => h) (Or.inl ⟨by rfl, ?_⟩) hHeld ?_ ?_
        rotate_left
        · rintro w' ⟨s0, s1, s2, s3, s4, s5, s6⟩
          go_simp
          with_reducible rfl
        rotate_left
        · (simp only [Act.put, List.setIfInBounds_toArray, i64_w, i32_w]; dsimp only [List.set_cons_zero, List.set_cons_succ])
          rfl
        refine pure_ (i := 24) (N := some 50) (v := ?_) (a' := ?_) #[true, true, true, true, true, true, true, true, true, true, true, true, true, true, true, true, true, true, true, true, true, true, true, true, true, false, false, false] rfl rfl (by kernel_rfl) (fun _ _ _ h => h) (Or.inl ⟨by rfl, ?_⟩) ?_ ?_
        rotate_left
        · intro w'
          go_simp
          with_reducible rfl
        rotate_left
        · (simp only [Act.put, List.setIfInBounds_toArray, i64_w, i32_w]; dsimp only [List.set_cons_zero, List.set_cons_succ])
          rfl
        refine last_ (i := 25) (N := none) #[true, true, true, true, true, true, true, true, true, true, true, true, true, true, true, true, true, true, true, true, true, true, true, true, true, true, false, false] rfl rfl (by kernel_rfl) (by decide) (fun K hK => ?_)
        refine store_arm (by rfl) rfl 62 _ _ rfl g (i * 3) #[.int .u64 y.at_, .int .i64 y.id, .int .i64 y.tag] (by rfl) (by rfl) th0 info_one (all_one _ _ _) ?_
        refine hK.out _ _ ?_
        clear hK K
        refine pure_ (i := 26) (N := some 51) (v := ?_) (a' := ?_) #[true, true, true, true, true, true, true, true, true, true, true, true, true, true, true, true, true, true, true, true, true, true, true, true, true, true, true, false] rfl rfl (by kernel_rfl) (fun _ _ _ h => h) (Or.inl ⟨by rfl, ?_⟩) ?_ ?_
        rotate_left
        · intro w'
          go_simp
          with_reducible rfl
        rotate_left
        · (simp only [Act.put, List.setIfInBounds_toArray, i64_w, i32_w]; dsimp only [List.set_cons_zero, List.set_cons_succ])
          rfl
        refine last_ (i := 27) (N := none) #[true, true, true, true, true, true, true, true, true, true, true, true, true, true, true, true, true, true, true, true, true, true, true, true, true, true, true, true] rfl rfl (by kernel_rfl) (by decide) (fun K hK => ?_)
        refine store_arm (by rfl) rfl 62 _ _ rfl g (p * 3) #[.int .u64 x.at_, .int .i64 x.id, .int .i64 x.tag] (by rfl) (by rfl) th1 info_one (all_one _ _ _) ?_
        refine hK.out _ _ ?_
        clear hK K
        refine done_ (by kernel_rfl) ?_
        go_wp2
        exact ⟨⟨p, (ys.set i y).set p x, by simpa using hpl, by simpa using hyl, rfl, HSW.out.1, HR, (her.trans h2.of_drew (by simp)).trans HSW.out.2.of_drew (by simp)⟩, by simp [intOf]; omega⟩

/-! ### down -/
/-- Which of a place and its first m children comes first. -/
def stepK (xs : List One) (i : Nat) : Nat → Nat
  | 0 => i
  | m + 1 => match xs[2 * i + 1 + m]?, xs[stepK xs i m]? with
    | some x, some y => if aheadB x y = true then 2 * i + 1 + m else stepK xs i m
    | _, _ => stepK xs i m

theorem stepK_bd (xs : List One) (i : Nat) (hi : i < xs.length) : ∀ m, stepK xs i m = i ∨ (i < stepK xs i m ∧ stepK xs i m < xs.length ∧ stepK xs i m < 2 * i + 1 + m)
  | 0 => .inl rfl
  | m + 1 => by
    rw [stepK]
    split
    · rename_i x y hx hy
      split
      · exact .inr ⟨by omega, (List.getElem?_eq_some_iff.1 hx).1, by omega⟩
      · rcases stepK_bd xs i hi m with h | ⟨h1, h2, h3⟩
        · exact .inl h
        · exact .inr ⟨h1, h2, by omega⟩
    · rcases stepK_bd xs i hi m with h | ⟨h1, h2, h3⟩
      · exact .inl h
      · exact .inr ⟨h1, h2, by omega⟩

theorem stepK_lt (xs : List One) (i : Nat) (hi : i < xs.length) (m : Nat) : stepK xs i m < xs.length := by
  rcases stepK_bd xs i hi m with h | ⟨_, h, _⟩ <;> omega

theorem stepK_over (xs : List One) (i m : Nat) (h : xs.length ≤ 2 * i + 1 + m) : stepK xs i (m + 1) = stepK xs i m := by
  rw [stepK, List.getElem?_eq_none h]

theorem stepK_yes (xs : List One) (i m : Nat) (x y : One) (hx : xs[2 * i + 1 + m]? = some x) (hy : xs[stepK xs i m]? = some y) (h : aheadB x y = true) : stepK xs i (m + 1) = 2 * i + 1 + m := by
  rw [stepK, hx, hy]; simp [h]
theorem stepK_no (xs : List One) (i m : Nat) (x y : One) (hx : xs[2 * i + 1 + m]? = some x) (hy : xs[stepK xs i m]? = some y) (h : aheadB x y = false) : stepK xs i (m + 1) = stepK xs i m := by
  rw [stepK, hx, hy]; simp [h]

/-- A timer is brought down to its place. -/
def downF (xs : List One) (i : Nat) : List One :=
  if h : i < stepK xs i 2 ∧ stepK xs i 2 < xs.length then
    match xs[i]?, xs[stepK xs i 2]? with
    | some x, some y => downF ((xs.set i y).set (stepK xs i 2) x) (stepK xs i 2)
    | _, _ => xs
  else xs
termination_by xs.length - i
decreasing_by simp; omega

theorem downF_stop (xs : List One) (i : Nat) (h : stepK xs i 2 = i) : downF xs i = xs := by rw [downF, dif_neg (by omega)]
theorem downF_go (xs : List One) (i k : Nat) (hi : i < xs.length) (hk : stepK xs i 2 = k) (hne : k ≠ i) (x y : One) (hx : xs[i]? = some x) (hy : xs[k]? = some y) : downF xs i = downF ((xs.set i y).set k x) k := by
  have hb := stepK_bd xs i hi 2
  rw [hk] at hb
  rw [downF, dif_pos (by rw [hk]; omega)]
  simp only [hk, hx, hy]

set_option maxHeartbeats 6400000 in
theorem down_any (b g n cap : Nat) (xs : List One) (most last : Int) (i0 : Nat) (hi0 : i0 < xs.length) (hx : xs.length < 1000000) (w : World) (h : Wh w b (.slice (some ⟨g, 0, none⟩) n cap) xs most last) :
    Calls Try.prog 29 #[.pointer (some ⟨b, 0, none⟩), .int .i64 i0] w fun e w' => e = .returned (.tuple #[]) ∧ Wh w' b (.slice (some ⟨g, 0, none⟩) n cap) (downF xs i0) most last ∧ Ext [g] w w' := by
  have hgb : g ≠ b := fun e => h.ne (by rw [e]; rfl)
  go_enter Try.func29, Try.ntmps29
  go_wp2
  go_loopw [1] (fun iv wr => ∃ (i : Nat) (ys : List One), i < ys.length ∧ Hid (ys.length = xs.length) ∧ iv = .int .i64 i ∧ Wh wr b (.slice (some ⟨g, 0, none⟩) n cap) ys most last ∧ Hid (downF ys i = downF xs i0) ∧ Ext [g] w wr) (fun iv _ => xs.length - (intOf iv).toNat)
  case atStart => exact ⟨i0, xs, hi0, rfl, rfl, h, rfl, Ext.refl _ _⟩
  case round =>
    obtain ⟨i, ys, hil, hyl, rfl, hw, hdn, her⟩ := hrel
    obtain ⟨wo, hwo⟩ : ∃ wo : World, wo = wr := ⟨_, rfl⟩
    have hil2 : i < 1000000 := by have := hyl.out; omega
    have hln : n = ys.length := by
      obtain ⟨a, c, hv⟩ := hw.row.val
      injection hv
    have HLN := Lib.hid hln
    have hnl : n < 1000000 := by have := hyl.out; omega
    have hin : i < n := by omega
    clear hln hx h
    go_wp2
    subst hwo
    go_loopw [4, 5] (fun kv cv wq => ∃ (m c k : Nat), m ≤ 2 ∧ Hid (c = 2 * i + 1 + m) ∧ cv = .int .i64 c ∧ kv = .int .i64 k ∧ Hid (stepK ys i m = k) ∧ k < n ∧ Wh wq b (.slice (some ⟨g, 0, none⟩) n cap) ys most last ∧ Ext [] wo wq) (fun _ cv _ => 2 * i + 3 - (intOf cv).toNat)
    case atStart => exact ⟨0, 2 * i + 1, i, by omega, rfl, by go_num, rfl, rfl, hin, hw, Ext.refl _ _⟩
    case round =>
      clear hw
      obtain ⟨m, c, k, hm, hc, rfl, rfl, hk, hkn, hw, her2⟩ := hrel
      have hbl : b < wr.heap.size := hw.blk.lt
      have hgl : g < wr.heap.size := hw.row.lt g rfl
      have hki : k < ys.length := by have := HLN.out; omega
      by_cases hgo : m < 2 ∧ c < n
      · obtain ⟨hm2, hcn⟩ := hgo
        have hci : c < ys.length := by have := HLN.out; omega
        have d1 : decide ((c : Int) ≤ 2 * (i : Int) + 2) = true := decide_eq_true (by have := hc.out; omega)
        have d1' : (c : Int) ≤ 2 * (i : Int) + 2 := by have := hc.out; omega
        have d2 : decide (c < n) = true := decide_eq_true hcn
        have b1 : (c : Int) < (n : Int) := by omega
        have b2 : (k : Int) < (n : Int) := by omega
        have b3 : (0 : Int) ≤ (k : Int) := by omega
        have b4 : (0 : Int) ≤ (c : Int) := by omega
        have hx := List.getElem?_eq_getElem hci
        have hy := List.getElem?_eq_getElem hki
        generalize ys[c] = x at hx
        generalize ys[k] = y at hy
        have hmm : 2 * i + 1 + m = c := hc.out.symm
        have hyes := stepK_yes ys i m x y (by rw [hmm]; exact hx) (by rw [hk.out]; exact hy)
        have hno := stepK_no ys i m x y (by rw [hmm]; exact hx) (by rw [hk.out]; exact hy)
        rw [hmm] at hyes
        rw [hk.out] at hno
        have HY := Lib.hid hyes; have HN := Lib.hid hno
        have HC1 : Hid (c + 1 = 2 * i + 1 + (m + 1)) := by show _ = _; omega
        clear hyes hno hmm
        have hcb : wr.cell? ⟨b, 0, none⟩ = some (.slice (some ⟨g, 0, none⟩) n cap) := hw.blk.cell 0
        have hx0 := hw.row.cell encO_len hx 0 (by omega); have hx1 := hw.row.cell encO_len hx 1 (by omega); have hx2 := hw.row.cell encO_len hx 2 (by omega)
        have hy0 := hw.row.cell encO_len hy 0 (by omega); have hy1 := hw.row.cell encO_len hy 1 (by omega); have hy2 := hw.row.cell encO_len hy 2 (by omega)
        simp only [encO, Nat.add_zero, List.getElem?_cons_zero, List.getElem?_cons_succ] at hx0 hx1 hx2 hy0 hy1 hy2
        have cA := fun w => ahead_any x y w
        have CA := Lib.hid cA
        clear cA
        go_wp2_with fail
        cases hab : aheadB x y
        · rw [hab] at CA HN
          have HK : Hid (stepK ys i (m + 1) = k) := HN.out rfl
          clear HN HY hab
          refine start_ (n := 15) (S := fun w' => w'.cell? ⟨b, 0, none⟩ = some (.slice (some ⟨g, 0, none⟩) n cap) ∧ w'.cell? ⟨g, c * 3, none⟩ = some (.int .u64 x.at_) ∧ w'.cell? ⟨g, c * 3 + 1, none⟩ = some (.int .i64 x.id) ∧ w'.cell? ⟨g, c * 3 + 2, none⟩ = some (.int .i64 x.tag) ∧ w'.cell? ⟨g, k * 3, none⟩ = some (.int .u64 y.at_) ∧ w'.cell? ⟨g, k * 3 + 1, none⟩ = some (.int .i64 y.id) ∧ w'.cell? ⟨g, k * 3 + 2, none⟩ = some (.int .i64 y.tag)) (ds := []) #[false, false, false, false, false, false, false, false, false, false, false, false, false, false, false] (by kernel_rfl) rfl rfl ⟨hcb, hx0, hx1, hx2, hy0, hy1, hy2⟩ (fun hHeld => ?_)
          refine pure_ (i := 0) (N := some 26) (v := ?_) (a' := ?_) #[true, false, false, false, false, false, false, false, false, false, false, false, false, false, false] rfl rfl (by kernel_rfl) (fun _ _ _ h => h) (Or.inl ⟨by rfl, ?_⟩) ?_ ?_
          rotate_left
          · intro w'
            go_simp
            with_reducible rfl
          rotate_left
          · (simp only [Act.put, List.setIfInBounds_toArray, i64_w, i32_w]; dsimp only [List.set_cons_zero, List.set_cons_succ])
            rfl
          refine pure_ (i := 1) (N := some 27) (v := ?_) (a' := ?_) #[true, true, false, false, false, false, false, false, false, false, false, false, false, false, false] rfl rfl (by kernel_rfl) (fun _ _ _ h => h) (Or.inl ⟨by rfl, ?_⟩) ?_ ?_
          rotate_left
          · intro w'
            go_simp
            with_reducible rfl
          rotate_left
          · (simp only [Act.put, List.setIfInBounds_toArray, i64_w, i32_w]; dsimp only [List.set_cons_zero, List.set_cons_succ])
            rfl
          refine pure_ (i := 2) (N := some 28) (v := ?_) (a' := ?_) #[true, true, true, false, false, false, false, false, false, false, false, false, false, false, false] rfl rfl (by kernel_rfl) (fun _ _ _ h => h) (Or.inl ⟨by rfl, ?_⟩) ?_ ?_
          rotate_left
          · intro w'
            go_simp
            with_reducible rfl
          rotate_left
          · (simp only [Act.put, List.setIfInBounds_toArray, i64_w, i32_w]; dsimp only [List.set_cons_zero, List.set_cons_succ])
            rfl
          refine pure_ (i := 4) (N := some 30) (v := ?_) (a' := ?_) #[true, true, true, false, true, false, false, false, false, false, false, false, false, false, false] rfl rfl (by kernel_rfl) (fun _ _ _ h => h) (Or.inl ⟨by rfl, ?_⟩) ?_ ?_
          rotate_left
          · intro w'
            go_simp
            with_reducible rfl
          rotate_left
          · (simp only [Act.put, List.setIfInBounds_toArray, i64_w, i32_w]; dsimp only [List.set_cons_zero, List.set_cons_succ])
            rfl
          refine pure_ (i := 7) (N := some 33) (v := ?_) (a' := ?_) #[true, true, true, false, true, false, false, true, false, false, false, false, false, false, false] rfl rfl (by kernel_rfl) (fun _ _ _ h => h) (Or.inl ⟨by rfl, ?_⟩) ?_ ?_
          rotate_left
          · intro w'
            go_simp
            with_reducible rfl
          rotate_left
          · (simp only [Act.put, List.setIfInBounds_toArray, i64_w, i32_w]; dsimp only [List.set_cons_zero, List.set_cons_succ])
            rfl
          refine pure_ (i := 8) (N := some 34) (v := ?_) (a' := ?_) #[true, true, true, false, true, false, false, true, true, false, false, false, false, false, false] rfl rfl (by kernel_rfl) (fun _ _ _ h => h) (Or.inl ⟨by rfl, ?_⟩) ?_ ?_
          rotate_left
          · intro w'
            go_simp
            with_reducible rfl
          rotate_left
          · (simp only [Act.put, List.setIfInBounds_toArray, i64_w, i32_w]; dsimp only [List.set_cons_zero, List.set_cons_succ])
            rfl
          refine pure_ (i := 9) (N := some 35) (v := ?_) (a' := ?_) #[true, true, true, false, true, false, false, true, true, true, false, false, false, false, false] rfl rfl (by kernel_rfl) (fun _ _ _ h => h) (Or.inl ⟨by rfl, ?_⟩) ?_ ?_
          rotate_left
          · intro w'
            go_simp
            with_reducible rfl
          rotate_left
          · (simp only [Act.put, List.setIfInBounds_toArray, i64_w, i32_w]; dsimp only [List.set_cons_zero, List.set_cons_succ])
            rfl
          refine pure_ (i := 11) (N := some 37) (v := ?_) (a' := ?_) #[true, true, true, false, true, false, false, true, true, true, false, true, false, false, false] rfl rfl (by kernel_rfl) (fun _ _ _ h => h) (Or.inl ⟨by rfl, ?_⟩) ?_ ?_
          rotate_left
          · intro w'
            go_simp
            with_reducible rfl
          rotate_left
          · (simp only [Act.put, List.setIfInBounds_toArray, i64_w, i32_w]; dsimp only [List.set_cons_zero, List.set_cons_succ])
            rfl
          refine take_ (i := 3) (N := some 29) (v := ?_) (a' := ?_) #[true, true, true, true, true, false, false, true, true, true, false, true, false, false, false] rfl rfl (by kernel_rfl) (fun _ _ _ h => h) (Or.inl ⟨by rfl, ?_⟩) hHeld ?_ ?_
          rotate_left
          · rintro w' ⟨s0, s1, s2, s3, s4, s5, s6⟩
            go_simp
            with_reducible rfl
          rotate_left
          · (simp only [Act.put, List.setIfInBounds_toArray, i64_w, i32_w]; dsimp only [List.set_cons_zero, List.set_cons_succ])
            rfl
          refine pure_ (i := 5) (N := some 31) (v := ?_) (a' := ?_) #[true, true, true, true, true, true, false, true, true, true, false, true, false, false, false] rfl rfl (by kernel_rfl) (fun _ _ _ h => h) (Or.inl ⟨by rfl, ?_⟩) ?_ ?_
          rotate_left
          · intro w'
            go_simp
            with_reducible rfl
          rotate_left
          · (simp only [Act.put, List.setIfInBounds_toArray, i64_w, i32_w]; dsimp only [List.set_cons_zero, List.set_cons_succ])
            rfl
          refine take_ (i := 6) (N := some 32) (v := ?_) (a' := ?_) #[true, true, true, true, true, true, true, true, true, true, false, true, false, false, false] rfl rfl (by kernel_rfl) (fun _ _ _ h => h) (Or.inl ⟨by rfl, ?_⟩) hHeld ?_ ?_
          rotate_left
          · rintro w' ⟨s0, s1, s2, s3, s4, s5, s6⟩
            go_simp
            with_reducible rfl
          rotate_left
          · (simp only [Act.put, List.setIfInBounds_toArray, i64_w, i32_w]; dsimp only [List.set_cons_zero, List.set_cons_succ])
            rfl
          refine take_ (i := 10) (N := some 36) (v := ?_) (a' := ?_) #[true, true, true, true, true, true, true, true, true, true, true, true, false, false, false] rfl rfl (by kernel_rfl) (fun _ _ _ h => h) (Or.inl ⟨by rfl, ?_⟩) hHeld ?_ ?_
          rotate_left
          · rintro w' ⟨s0, s1, s2, s3, s4, s5, s6⟩
            go_simp
            with_reducible rfl
          rotate_left
          · (simp only [Act.put, List.setIfInBounds_toArray, i64_w, i32_w]; dsimp only [List.set_cons_zero, List.set_cons_succ])
            rfl
          refine pure_ (i := 12) (N := some 38) (v := ?_) (a' := ?_) #[true, true, true, true, true, true, true, true, true, true, true, true, true, false, false] rfl rfl (by kernel_rfl) (fun _ _ _ h => h) (Or.inl ⟨by rfl, ?_⟩) ?_ ?_
          rotate_left
          · intro w'
            go_simp
            with_reducible rfl
          rotate_left
          · (simp only [Act.put, List.setIfInBounds_toArray, i64_w, i32_w]; dsimp only [List.set_cons_zero, List.set_cons_succ])
            rfl
          refine take_ (i := 13) (N := some 39) (v := ?_) (a' := ?_) #[true, true, true, true, true, true, true, true, true, true, true, true, true, true, false] rfl rfl (by kernel_rfl) (fun _ _ _ h => h) (Or.inl ⟨by rfl, ?_⟩) hHeld ?_ ?_
          rotate_left
          · rintro w' ⟨s0, s1, s2, s3, s4, s5, s6⟩
            go_simp
            with_reducible rfl
          rotate_left
          · (simp only [Act.put, List.setIfInBounds_toArray, i64_w, i32_w]; dsimp only [List.set_cons_zero, List.set_cons_succ])
            rfl
          refine one_ (i := 14) (N := some 40) #[true, true, true, true, true, true, true, true, true, true, true, true, true, true, true] rfl rfl (by kernel_rfl) (by decide) (fun K hK => ?_)
          refine goes_ Try.func28 (by kernel_rfl) rfl #[.agg #[.int .u64 x.at_, .int .i64 x.id, .int .i64 x.tag], .agg #[.int .u64 y.at_, .int .i64 y.id, .int .i64 y.tag]] (by rfl) rfl rfl (by simp only [List.map_toArray, List.map_cons, List.map_nil]; rfl) ?_
          with_reducible refine (CA.out _).mono ?_
          rintro e w2 ⟨rfl, h2⟩
          refine ⟨_, rfl, ?_⟩
          refine hK.out _ _ ⟨((h2.cell (p := ⟨b, 0, none⟩) hbl (by simp)).trans hcb), ((h2.cell (p := ⟨g, c * 3, none⟩) hgl (by simp)).trans hx0), ((h2.cell (p := ⟨g, c * 3 + 1, none⟩) hgl (by simp)).trans hx1), ((h2.cell (p := ⟨g, c * 3 + 2, none⟩) hgl (by simp)).trans hx2), ((h2.cell (p := ⟨g, k * 3, none⟩) hgl (by simp)).trans hy0), ((h2.cell (p := ⟨g, k * 3 + 1, none⟩) hgl (by simp)).trans hy1), ((h2.cell (p := ⟨g, k * 3 + 2, none⟩) hgl (by simp)).trans hy2)⟩ (fun hHeld => ?_)
          clear hK K
          refine norm_ (a' := ?_) ?_ ?_
          rotate_left
          · show Act.put _ (some 40) _ = _
            (simp only [Act.put, List.setIfInBounds_toArray, i64_w, i32_w]; dsimp only [List.set_cons_zero, List.set_cons_succ])
            rfl
          refine done_ (by kernel_rfl) ?_
          go_wp2
          go_roundw
          case rel => exact ⟨m + 1, c + 1, k, by omega, HC1, by go_num, rfl, HK, hkn, hw.keep h2.of_drew (by simp) (by simp), her2.trans h2.of_drew (by simp)⟩
          case measure => have := hc.out; simp [intOf]; omega
        · rw [hab] at CA HY
          have HK : Hid (stepK ys i (m + 1) = c) := HY.out rfl
          clear HN HY hab
          refine start_ (n := 15) (S := fun w' => w'.cell? ⟨b, 0, none⟩ = some (.slice (some ⟨g, 0, none⟩) n cap) ∧ w'.cell? ⟨g, c * 3, none⟩ = some (.int .u64 x.at_) ∧ w'.cell? ⟨g, c * 3 + 1, none⟩ = some (.int .i64 x.id) ∧ w'.cell? ⟨g, c * 3 + 2, none⟩ = some (.int .i64 x.tag) ∧ w'.cell? ⟨g, k * 3, none⟩ = some (.int .u64 y.at_) ∧ w'.cell? ⟨g, k * 3 + 1, none⟩ = some (.int .i64 y.id) ∧ w'.cell? ⟨g, k * 3 + 2, none⟩ = some (.int .i64 y.tag)) (ds := []) #[false, false, false, false, false, false, false, false, false, false, false, false, false, false, false] (by kernel_rfl) rfl rfl ⟨hcb, hx0, hx1, hx2, hy0, hy1, hy2⟩ (fun hHeld => ?_)
          refine pure_ (i := 0) (N := some 26) (v := ?_) (a' := ?_) #[true, false, false, false, false, false, false, false, false, false, false, false, false, false, false] rfl rfl (by kernel_rfl) (fun _ _ _ h => h) (Or.inl ⟨by rfl, ?_⟩) ?_ ?_
          rotate_left
          · intro w'
            go_simp
            with_reducible rfl
          rotate_left
          · (simp only [Act.put, List.setIfInBounds_toArray, i64_w, i32_w]; dsimp only [List.set_cons_zero, List.set_cons_succ])
            rfl
          refine pure_ (i := 1) (N := some 27) (v := ?_) (a' := ?_) #[true, true, false, false, false, false, false, false, false, false, false, false, false, false, false] rfl rfl (by kernel_rfl) (fun _ _ _ h => h) (Or.inl ⟨by rfl, ?_⟩) ?_ ?_
          rotate_left
          · intro w'
            go_simp
            with_reducible rfl
          rotate_left
          · (simp only [Act.put, List.setIfInBounds_toArray, i64_w, i32_w]; dsimp only [List.set_cons_zero, List.set_cons_succ])
            rfl
          refine pure_ (i := 2) (N := some 28) (v := ?_) (a' := ?_) #[true, true, true, false, false, false, false, false, false, false, false, false, false, false, false] rfl rfl (by kernel_rfl) (fun _ _ _ h => h) (Or.inl ⟨by rfl, ?_⟩) ?_ ?_
          rotate_left
          · intro w'
            go_simp
            with_reducible rfl
          rotate_left
          · (simp only [Act.put, List.setIfInBounds_toArray, i64_w, i32_w]; dsimp only [List.set_cons_zero, List.set_cons_succ])
            rfl
          refine pure_ (i := 4) (N := some 30) (v := ?_) (a' := ?_) #[true, true, true, false, true, false, false, false, false, false, false, false, false, false, false] rfl rfl (by kernel_rfl) (fun _ _ _ h => h) (Or.inl ⟨by rfl, ?_⟩) ?_ ?_
          rotate_left
          · intro w'
            go_simp
            with_reducible rfl
          rotate_left
          · (simp only [Act.put, List.setIfInBounds_toArray, i64_w, i32_w]; dsimp only [List.set_cons_zero, List.set_cons_succ])
            rfl
          refine pure_ (i := 7) (N := some 33) (v := ?_) (a' := ?_) #[true, true, true, false, true, false, false, true, false, false, false, false, false, false, false] rfl rfl (by kernel_rfl) (fun _ _ _ h => h) (Or.inl ⟨by rfl, ?_⟩) ?_ ?_
          rotate_left
          · intro w'
            go_simp
            with_reducible rfl
          rotate_left
          · (simp only [Act.put, List.setIfInBounds_toArray, i64_w, i32_w]; dsimp only [List.set_cons_zero, List.set_cons_succ])
            rfl
          refine pure_ (i := 8) (N := some 34) (v := ?_) (a' := ?_) #[true, true, true, false, true, false, false, true, true, false, false, false, false, false, false] rfl rfl (by kernel_rfl) (fun _ _ _ h => h) (Or.inl ⟨by rfl, ?_⟩) ?_ ?_
          rotate_left
          · intro w'
            go_simp
            with_reducible rfl
          rotate_left
          · (simp only [Act.put, List.setIfInBounds_toArray, i64_w, i32_w]; dsimp only [List.set_cons_zero, List.set_cons_succ])
            rfl
          refine pure_ (i := 9) (N := some 35) (v := ?_) (a' := ?_) #[true, true, true, false, true, false, false, true, true, true, false, false, false, false, false] rfl rfl (by kernel_rfl) (fun _ _ _ h => h) (Or.inl ⟨by rfl, ?_⟩) ?_ ?_
          rotate_left
          · intro w'
            go_simp
            with_reducible rfl
          rotate_left
          · (simp only [Act.put, List.setIfInBounds_toArray, i64_w, i32_w]; dsimp only [List.set_cons_zero, List.set_cons_succ])
            rfl
          refine pure_ (i := 11) (N := some 37) (v := ?_) (a' := ?_) #[true, true, true, false, true, false, false, true, true, true, false, true, false, false, false] rfl rfl (by kernel_rfl) (fun _ _ _ h => h) (Or.inl ⟨by rfl, ?_⟩) ?_ ?_
          rotate_left
          · intro w'
            go_simp
            with_reducible rfl
          rotate_left
          · (simp only [Act.put, List.setIfInBounds_toArray, i64_w, i32_w]; dsimp only [List.set_cons_zero, List.set_cons_succ])
            rfl
          refine take_ (i := 3) (N := some 29) (v := ?_) (a' := ?_) #[true, true, true, true, true, false, false, true, true, true, false, true, false, false, false] rfl rfl (by kernel_rfl) (fun _ _ _ h => h) (Or.inl ⟨by rfl, ?_⟩) hHeld ?_ ?_
          rotate_left
          · rintro w' ⟨s0, s1, s2, s3, s4, s5, s6⟩
            go_simp
            with_reducible rfl
          rotate_left
          · (simp only [Act.put, List.setIfInBounds_toArray, i64_w, i32_w]; dsimp only [List.set_cons_zero, List.set_cons_succ])
            rfl
          refine pure_ (i := 5) (N := some 31) (v := ?_) (a' := ?_) #[true, true, true, true, true, true, false, true, true, true, false, true, false, false, false] rfl rfl (by kernel_rfl) (fun _ _ _ h => h) (Or.inl ⟨by rfl, ?_⟩) ?_ ?_
          rotate_left
          · intro w'
            go_simp
            with_reducible rfl
          rotate_left
          · (simp only [Act.put, List.setIfInBounds_toArray, i64_w, i32_w]; dsimp only [List.set_cons_zero, List.set_cons_succ])
            rfl
          refine take_ (i := 6) (N := some 32) (v := ?_) (a' := ?_) #[true, true, true, true, true, true, true, true, true, true, false, true, false, false, false] rfl rfl (by kernel_rfl) (fun _ _ _ h => h) (Or.inl ⟨by rfl, ?_⟩) hHeld ?_ ?_
          rotate_left
          · rintro w' ⟨s0, s1, s2, s3, s4, s5, s6⟩
            go_simp
            with_reducible rfl
          rotate_left
          · (simp only [Act.put, List.setIfInBounds_toArray, i64_w, i32_w]; dsimp only [List.set_cons_zero, List.set_cons_succ])
            rfl
          refine take_ (i := 10) (N := some 36) (v := ?_) (a' := ?_) #[true, true, true, true, true, true, true, true, true, true, true, true, false, false, false] rfl rfl (by kernel_rfl) (fun _ _ _ h => h) (Or.inl ⟨by rfl, ?_⟩) hHeld ?_ ?_
          rotate_left
          · rintro w' ⟨s0, s1, s2, s3, s4, s5, s6⟩
            go_simp
            with_reducible rfl
          rotate_left
          · (simp only [Act.put, List.setIfInBounds_toArray, i64_w, i32_w]; dsimp only [List.set_cons_zero, List.set_cons_succ])
            rfl
          refine pure_ (i := 12) (N := some 38) (v := ?_) (a' := ?_) #[true, true, true, true, true, true, true, true, true, true, true, true, true, false, false] rfl rfl (by kernel_rfl) (fun _ _ _ h => h) (Or.inl ⟨by rfl, ?_⟩) ?_ ?_
          rotate_left
          · intro w'
            go_simp
            with_reducible rfl
          rotate_left
          · (simp only [Act.put, List.setIfInBounds_toArray, i64_w, i32_w]; dsimp only [List.set_cons_zero, List.set_cons_succ])
            rfl
          refine take_ (i := 13) (N := some 39) (v := ?_) (a' := ?_) #[true, true, true, true, true, true, true, true, true, true, true, true, true, true, false] rfl rfl (by kernel_rfl) (fun _ _ _ h => h) (Or.inl ⟨by rfl, ?_⟩) hHeld ?_ ?_
          rotate_left
          · rintro w' ⟨s0, s1, s2, s3, s4, s5, s6⟩
            go_simp
            with_reducible rfl
          rotate_left
          · (simp only [Act.put, List.setIfInBounds_toArray, i64_w, i32_w]; dsimp only [List.set_cons_zero, List.set_cons_succ])
            rfl
          refine one_ (i := 14) (N := some 40) #[true, true, true, true, true, true, true, true, true, true, true, true, true, true, true] rfl rfl (by kernel_rfl) (by decide) (fun K hK => ?_)
          refine goes_ Try.func28 (by kernel_rfl) rfl #[.agg #[.int .u64 x.at_, .int .i64 x.id, .int .i64 x.tag], .agg #[.int .u64 y.at_, .int .i64 y.id, .int .i64 y.tag]] (by rfl) rfl rfl (by simp only [List.map_toArray, List.map_cons, List.map_nil]; rfl) ?_
          with_reducible refine (CA.out _).mono ?_
          rintro e w2 ⟨rfl, h2⟩
          refine ⟨_, rfl, ?_⟩
          refine hK.out _ _ ⟨((h2.cell (p := ⟨b, 0, none⟩) hbl (by simp)).trans hcb), ((h2.cell (p := ⟨g, c * 3, none⟩) hgl (by simp)).trans hx0), ((h2.cell (p := ⟨g, c * 3 + 1, none⟩) hgl (by simp)).trans hx1), ((h2.cell (p := ⟨g, c * 3 + 2, none⟩) hgl (by simp)).trans hx2), ((h2.cell (p := ⟨g, k * 3, none⟩) hgl (by simp)).trans hy0), ((h2.cell (p := ⟨g, k * 3 + 1, none⟩) hgl (by simp)).trans hy1), ((h2.cell (p := ⟨g, k * 3 + 2, none⟩) hgl (by simp)).trans hy2)⟩ (fun hHeld => ?_)
          clear hK K
          refine norm_ (a' := ?_) ?_ ?_
          rotate_left
          · show Act.put _ (some 40) _ = _
            (simp only [Act.put, List.setIfInBounds_toArray, i64_w, i32_w]; dsimp only [List.set_cons_zero, List.set_cons_succ])
            rfl
          refine done_ (by kernel_rfl) ?_
          go_wp2
          go_roundw
          case rel => exact ⟨m + 1, c + 1, c, by omega, HC1, by go_num, rfl, HK, hcn, hw.keep h2.of_drew (by simp) (by simp), her2.trans h2.of_drew (by simp)⟩
          case measure => have := hc.out; simp [intOf]; omega
      · have hk2 : stepK ys i 2 = k := by
          have h1 := hc.out; have h3 := HLN.out
          rcases (by omega : m = 2 ∨ m = 1 ∧ n ≤ c ∨ m = 0 ∧ n ≤ c) with h | ⟨h, h4⟩ | ⟨h, h4⟩
          · rw [h] at hk; exact hk.out
          · subst h; rw [stepK_over ys i 1 (by omega)]; exact hk.out
          · subst h; rw [stepK_over ys i 1 (by omega), stepK_over ys i 0 (by omega)]; exact hk.out
        have hex : (decide ((c : Int) ≤ 2 * (i : Int) + 2) = false ∧ 2 * (i : Int) + 2 < (c : Int)) ∨ (decide ((c : Int) ≤ 2 * (i : Int) + 2) = true ∧ (c : Int) ≤ 2 * (i : Int) + 2 ∧ decide (c < n) = false) := by
          have h1 := hc.out
          by_cases h2 : (c : Int) ≤ 2 * (i : Int) + 2
          · exact .inr ⟨decide_eq_true h2, h2, decide_eq_false (by omega)⟩
          · exact .inl ⟨decide_eq_false h2, by omega⟩
        have HK2 := Lib.hid hk2
        clear hk2 hk hgo hm
        have hcb : wr.cell? ⟨b, 0, none⟩ = some (.slice (some ⟨g, 0, none⟩) n cap) := hw.blk.cell 0
        by_cases hki2 : k = i
        · have hq : ((k : Int) == (i : Int)) = true := by simp [hki2]
          have hq' : (k == i) = true := by simp [hki2]
          have hres : downF xs i0 = ys := by rw [← hdn.out]; exact downF_stop ys i (by rw [HK2.out]; exact hki2)
          have HR := Lib.hid hres
          clear hres hki2
          rcases hex with ⟨q1, q2⟩ | ⟨q1, q2, q3⟩
          all_goals
            go_wp2
            refine bodyPost_ret (results_none rfl _ _ _) rfl ?_
            exact ⟨rfl, by rw [HR.out]; exact hw, her.trans her2 (by simp)⟩
        · have hq : ((k : Int) == (i : Int)) = false := by simp; omega
          have hq' : (k == i) = false := by simp [hki2]
          have hx := List.getElem?_eq_getElem hil
          have hy := List.getElem?_eq_getElem hki
          generalize ys[i] = x at hx
          generalize ys[k] = y at hy
          have hres : downF ((ys.set i y).set k x) k = downF xs i0 := by rw [← hdn.out]; exact (downF_go ys i k hil HK2.out hki2 x y hx hy).symm
          have hik : i < k := by
            have := stepK_bd ys i hil 2
            rw [HK2.out] at this; omega
          have HR := Lib.hid hres
          clear hcb hres
          have b1 : (i : Int) < (n : Int) := by omega
          have b2 : (k : Int) < (n : Int) := by omega
          have b3 : (0 : Int) ≤ (k : Int) := by omega
          have b4 : (0 : Int) ≤ (i : Int) := by omega
          have hcb : wr.cell? ⟨b, 0, none⟩ = some (.slice (some ⟨g, 0, none⟩) n cap) := hw.blk.cell 0
          have hx0 := hw.row.cell encO_len hx 0 (by omega); have hx1 := hw.row.cell encO_len hx 1 (by omega); have hx2 := hw.row.cell encO_len hx 2 (by omega)
          have hy0 := hw.row.cell encO_len hy 0 (by omega); have hy1 := hw.row.cell encO_len hy 1 (by omega); have hy2 := hw.row.cell encO_len hy 2 (by omega)
          simp only [encO, Nat.add_zero, List.getElem?_cons_zero, List.getElem?_cons_succ] at hx0 hx1 hx2 hy0 hy1 hy2
          have hwd : Wh wr.drew b (.slice (some ⟨g, 0, none⟩) n cap) ys most last := ⟨hw.blk, hw.row⟩
          have th0 := hwd.there1 hil
          have th1 := hwd.there2 (i := i) hki y
          have hsw := hwd.swap hil hki x y
          have HSW := Lib.hid hsw
          clear hsw hwd
          rcases hex with ⟨q1, q2⟩ | ⟨q1, q2, q3⟩
          all_goals
            go_wp2_with fail
            refine start_ (n := 28) (S := fun w' => w'.cell? ⟨b, 0, none⟩ = some (.slice (some ⟨g, 0, none⟩) n cap) ∧ w'.cell? ⟨g, i * 3, none⟩ = some (.int .u64 x.at_) ∧ w'.cell? ⟨g, i * 3 + 1, none⟩ = some (.int .i64 x.id) ∧ w'.cell? ⟨g, i * 3 + 2, none⟩ = some (.int .i64 x.tag) ∧ w'.cell? ⟨g, k * 3, none⟩ = some (.int .u64 y.at_) ∧ w'.cell? ⟨g, k * 3 + 1, none⟩ = some (.int .i64 y.id) ∧ w'.cell? ⟨g, k * 3 + 2, none⟩ = some (.int .i64 y.tag)) (ds := [25, 27]) #[false, false, false, false, false, false, false, false, false, false, false, false, false, false, false, false, false, false, false, false, false, false, false, false, false, false, false, false] (by kernel_rfl) rfl rfl ⟨hcb, hx0, hx1, hx2, hy0, hy1, hy2⟩ (fun hHeld => ?_)
            refine pure_ (i := 0) (N := some 45) (v := ?_) (a' := ?_) #[true, false, false, false, false, false, false, false, false, false, false, false, false, false, false, false, false, false, false, false, false, false, false, false, false, false, false, false] rfl rfl (by kernel_rfl) (fun _ _ _ h => h) (Or.inl ⟨by rfl, ?_⟩) ?_ ?_
            rotate_left
            · intro w'
              go_simp
              with_reducible rfl
            rotate_left
            · (simp only [Act.put, List.setIfInBounds_toArray, i64_w, i32_w]; dsimp only [List.set_cons_zero, List.set_cons_succ])
              rfl
            refine pure_ (i := 1) (N := some 46) (v := ?_) (a' := ?_) #[true, true, false, false, false, false, false, false, false, false, false, false, false, false, false, false, false, false, false, false, false, false, false, false, false, false, false, false] rfl rfl (by kernel_rfl) (fun _ _ _ h => h) (Or.inl ⟨by rfl, ?_⟩) ?_ ?_
            rotate_left
            · intro w'
              go_simp
              with_reducible rfl
            rotate_left
            · (simp only [Act.put, List.setIfInBounds_toArray, i64_w, i32_w]; dsimp only [List.set_cons_zero, List.set_cons_succ])
              rfl
            refine pure_ (i := 2) (N := some 47) (v := ?_) (a' := ?_) #[true, true, true, false, false, false, false, false, false, false, false, false, false, false, false, false, false, false, false, false, false, false, false, false, false, false, false, false] rfl rfl (by kernel_rfl) (fun _ _ _ h => h) (Or.inl ⟨by rfl, ?_⟩) ?_ ?_
            rotate_left
            · intro w'
              go_simp
              with_reducible rfl
            rotate_left
            · (simp only [Act.put, List.setIfInBounds_toArray, i64_w, i32_w]; dsimp only [List.set_cons_zero, List.set_cons_succ])
              rfl
            refine pure_ (i := 4) (N := some 49) (v := ?_) (a' := ?_) #[true, true, true, false, true, false, false, false, false, false, false, false, false, false, false, false, false, false, false, false, false, false, false, false, false, false, false, false] rfl rfl (by kernel_rfl) (fun _ _ _ h => h) (Or.inl ⟨by rfl, ?_⟩) ?_ ?_
            rotate_left
            · intro w'
              go_simp
              with_reducible rfl
            rotate_left
            · (simp only [Act.put, List.setIfInBounds_toArray, i64_w, i32_w]; dsimp only [List.set_cons_zero, List.set_cons_succ])
              rfl
            refine pure_ (i := 5) (N := some 50) (v := ?_) (a' := ?_) #[true, true, true, false, true, true, false, false, false, false, false, false, false, false, false, false, false, false, false, false, false, false, false, false, false, false, false, false] rfl rfl (by kernel_rfl) (fun _ _ _ h => h) (Or.inl ⟨by rfl, ?_⟩) ?_ ?_
            rotate_left
            · intro w'
              go_simp
              with_reducible rfl
            rotate_left
            · (simp only [Act.put, List.setIfInBounds_toArray, i64_w, i32_w]; dsimp only [List.set_cons_zero, List.set_cons_succ])
              rfl
            refine pure_ (i := 6) (N := some 51) (v := ?_) (a' := ?_) #[true, true, true, false, true, true, true, false, false, false, false, false, false, false, false, false, false, false, false, false, false, false, false, false, false, false, false, false] rfl rfl (by kernel_rfl) (fun _ _ _ h => h) (Or.inl ⟨by rfl, ?_⟩) ?_ ?_
            rotate_left
            · intro w'
              go_simp
              with_reducible rfl
            rotate_left
            · (simp only [Act.put, List.setIfInBounds_toArray, i64_w, i32_w]; dsimp only [List.set_cons_zero, List.set_cons_succ])
              rfl
            refine pure_ (i := 7) (N := some 52) (v := ?_) (a' := ?_) #[true, true, true, false, true, true, true, true, false, false, false, false, false, false, false, false, false, false, false, false, false, false, false, false, false, false, false, false] rfl rfl (by kernel_rfl) (fun _ _ _ h => h) (Or.inl ⟨by rfl, ?_⟩) ?_ ?_
            rotate_left
            · intro w'
              go_simp
              with_reducible rfl
            rotate_left
            · (simp only [Act.put, List.setIfInBounds_toArray, i64_w, i32_w]; dsimp only [List.set_cons_zero, List.set_cons_succ])
              rfl
            refine pure_ (i := 9) (N := some 54) (v := ?_) (a' := ?_) #[true, true, true, false, true, true, true, true, false, true, false, false, false, false, false, false, false, false, false, false, false, false, false, false, false, false, false, false] rfl rfl (by kernel_rfl) (fun _ _ _ h => h) (Or.inl ⟨by rfl, ?_⟩) ?_ ?_
            rotate_left
            · intro w'
              go_simp
              with_reducible rfl
            rotate_left
            · (simp only [Act.put, List.setIfInBounds_toArray, i64_w, i32_w]; dsimp only [List.set_cons_zero, List.set_cons_succ])
              rfl
            refine pure_ (i := 10) (N := some 55) (v := ?_) (a' := ?_) #[true, true, true, false, true, true, true, true, false, true, true, false, false, false, false, false, false, false, false, false, false, false, false, false, false, false, false, false] rfl rfl (by kernel_rfl) (fun _ _ _ h => h) (Or.inl ⟨by rfl, ?_⟩) ?_ ?_
            rotate_left
            · intro w'
              go_simp
              with_reducible rfl
            rotate_left
            · (simp only [Act.put, List.setIfInBounds_toArray, i64_w, i32_w]; dsimp only [List.set_cons_zero, List.set_cons_succ])
              rfl
            refine pure_ (i := 11) (N := some 56) (v := ?_) (a' := ?_) #[true, true, true, false, true, true, true, true, false, true, true, true, false, false, false, false, false, false, false, false, false, false, false, false, false, false, false, false] rfl rfl (by kernel_rfl) (fun _ _ _ h => h) (Or.inl ⟨by rfl, ?_⟩) ?_ ?_
            rotate_left
            · intro w'
              go_simp
              with_reducible rfl
            rotate_left
            · (simp only [Act.put, List.setIfInBounds_toArray, i64_w, i32_w]; dsimp only [List.set_cons_zero, List.set_cons_succ])
              rfl
            refine pure_ (i := 12) (N := some 57) (v := ?_) (a' := ?_) #[true, true, true, false, true, true, true, true, false, true, true, true, true, false, false, false, false, false, false, false, false, false, false, false, false, false, false, false] rfl rfl (by kernel_rfl) (fun _ _ _ h => h) (Or.inl ⟨by rfl, ?_⟩) ?_ ?_
            rotate_left
            · intro w'
              go_simp
              with_reducible rfl
            rotate_left
            · (simp only [Act.put, List.setIfInBounds_toArray, i64_w, i32_w]; dsimp only [List.set_cons_zero, List.set_cons_succ])
              rfl
            refine pure_ (i := 14) (N := some 59) (v := ?_) (a' := ?_) #[true, true, true, false, true, true, true, true, false, true, true, true, true, false, true, false, false, false, false, false, false, false, false, false, false, false, false, false] rfl rfl (by kernel_rfl) (fun _ _ _ h => h) (Or.inl ⟨by rfl, ?_⟩) ?_ ?_
            rotate_left
            · intro w'
              go_simp
              with_reducible rfl
            rotate_left
            · (simp only [Act.put, List.setIfInBounds_toArray, i64_w, i32_w]; dsimp only [List.set_cons_zero, List.set_cons_succ])
              rfl
            refine pure_ (i := 17) (N := some 62) (v := ?_) (a' := ?_) #[true, true, true, false, true, true, true, true, false, true, true, true, true, false, true, false, false, true, false, false, false, false, false, false, false, false, false, false] rfl rfl (by kernel_rfl) (fun _ _ _ h => h) (Or.inl ⟨by rfl, ?_⟩) ?_ ?_
            rotate_left
            · intro w'
              go_simp
              with_reducible rfl
            rotate_left
            · (simp only [Act.put, List.setIfInBounds_toArray, i64_w, i32_w]; dsimp only [List.set_cons_zero, List.set_cons_succ])
              rfl
            refine pure_ (i := 18) (N := some 63) (v := ?_) (a' := ?_) #[true, true, true, false, true, true, true, true, false, true, true, true, true, false, true, false, false, true, true, false, false, false, false, false, false, false, false, false] rfl rfl (by kernel_rfl) (fun _ _ _ h => h) (Or.inl ⟨by rfl, ?_⟩) ?_ ?_
            rotate_left
            · intro w'
              go_simp
              with_reducible rfl
            rotate_left
            · (simp only [Act.put, List.setIfInBounds_toArray, i64_w, i32_w]; dsimp only [List.set_cons_zero, List.set_cons_succ])
              rfl
            refine pure_ (i := 19) (N := some 64) (v := ?_) (a' := ?_) #[true, true, true, false, true, true, true, true, false, true, true, true, true, false, true, false, false, true, true, true, false, false, false, false, false, false, false, false] rfl rfl (by kernel_rfl) (fun _ _ _ h => h) (Or.inl ⟨by rfl, ?_⟩) ?_ ?_
            rotate_left
            · intro w'
              go_simp
              with_reducible rfl
            rotate_left
            · (simp only [Act.put, List.setIfInBounds_toArray, i64_w, i32_w]; dsimp only [List.set_cons_zero, List.set_cons_succ])
              rfl
            refine pure_ (i := 21) (N := some 66) (v := ?_) (a' := ?_) #[true, true, true, false, true, true, true, true, false, true, true, true, true, false, true, false, false, true, true, true, false, true, false, false, false, false, false, false] rfl rfl (by kernel_rfl) (fun _ _ _ h => h) (Or.inl ⟨by rfl, ?_⟩) ?_ ?_
            rotate_left
            · intro w'
              go_simp
              with_reducible rfl
            rotate_left
            · (simp only [Act.put, List.setIfInBounds_toArray, i64_w, i32_w]; dsimp only [List.set_cons_zero, List.set_cons_succ])
              rfl
            refine take_ (i := 3) (N := some 48) (v := ?_) (a' := ?_) #[true, true, true, true, true, true, true, true, false, true, true, true, true, false, true, false, false, true, true, true, false, true, false, false, false, false, false, false] rfl rfl (by kernel_rfl) (fun _ _ _ h => h) (Or.inl ⟨by rfl, ?_⟩) hHeld ?_ ?_
            rotate_left
            · rintro w' ⟨s0, s1, s2, s3, s4, s5, s6⟩
              go_simp
              with_reducible rfl
            rotate_left
            · (simp only [Act.put, List.setIfInBounds_toArray, i64_w, i32_w]; dsimp only [List.set_cons_zero, List.set_cons_succ])
              rfl
            refine take_ (i := 8) (N := some 53) (v := ?_) (a' := ?_) #[true, true, true, true, true, true, true, true, true, true, true, true, true, false, true, false, false, true, true, true, false, true, false, false, false, false, false, false] rfl rfl (by kernel_rfl) (fun _ _ _ h => h) (Or.inl ⟨by rfl, ?_⟩) hHeld ?_ ?_
            rotate_left
            · rintro w' ⟨s0, s1, s2, s3, s4, s5, s6⟩
              go_simp
              with_reducible rfl
            rotate_left
            · (simp only [Act.put, List.setIfInBounds_toArray, i64_w, i32_w]; dsimp only [List.set_cons_zero, List.set_cons_succ])
              rfl
            refine take_ (i := 13) (N := some 58) (v := ?_) (a' := ?_) #[true, true, true, true, true, true, true, true, true, true, true, true, true, true, true, false, false, true, true, true, false, true, false, false, false, false, false, false] rfl rfl (by kernel_rfl) (fun _ _ _ h => h) (Or.inl ⟨by rfl, ?_⟩) hHeld ?_ ?_
            rotate_left
            · rintro w' ⟨s0, s1, s2, s3, s4, s5, s6⟩
              go_simp
              with_reducible rfl
            rotate_left
            · (simp only [Act.put, List.setIfInBounds_toArray, i64_w, i32_w]; dsimp only [List.set_cons_zero, List.set_cons_succ])
              rfl
            refine pure_ (i := 15) (N := some 60) (v := ?_) (a' := ?_) #[true, true, true, true, true, true, true, true, true, true, true, true, true, true, true, true, false, true, true, true, false, true, false, false, false, false, false, false] rfl rfl (by kernel_rfl) (fun _ _ _ h => h) (Or.inl ⟨by rfl, ?_⟩) ?_ ?_
            rotate_left
            · intro w'
              go_simp
              with_reducible rfl
            rotate_left
            · (simp only [Act.put, List.setIfInBounds_toArray, i64_w, i32_w]; dsimp only [List.set_cons_zero, List.set_cons_succ])
              rfl
            refine take_ (i := 16) (N := some 61) (v := ?_) (a' := ?_) #[true, true, true, true, true, true, true, true, true, true, true, true, true, true, true, true, true, true, true, true, false, true, false, false, false, false, false, false] rfl rfl (by kernel_rfl) (fun _ _ _ h => h) (Or.inl ⟨by rfl, ?_⟩) hHeld ?_ ?_
            rotate_left
            · rintro w' ⟨s0, s1, s2, s3, s4, s5, s6⟩
              go_simp
              with_reducible rfl
            rotate_left
            · (simp only [Act.put, List.setIfInBounds_toArray, i64_w, i32_w]; dsimp only [List.set_cons_zero, List.set_cons_succ])
              rfl
            refine take_ (i := 20) (N := some 65) (v := ?_) (a' := ?_) #[true, true, true, true, true, true, true, true, true, true, true, true, true, true, true, true, true, true, true, true, true, true, false, false, false, false, false, false] rfl rfl (by kernel_rfl) (fun _ _ _ h => h) (Or.inl ⟨by rfl, ?_⟩) hHeld ?_ ?_
            rotate_left
            · rintro w' ⟨s0, s1, s2, s3, s4, s5, s6⟩
              go_simp
              with_reducible rfl
            rotate_left
            · (simp only [Act.put, List.setIfInBounds_toArray, i64_w, i32_w]; dsimp only [List.set_cons_zero, List.set_cons_succ])
              rfl
            refine pure_ (i := 22) (N := some 67) (v := ?_) (a' := ?_) #[true, true, true, true, true, true, true, true, true, true, true, true, true, true, true, true, true, true, true, true, true, true, true, false, false, false, false, false] rfl rfl (by kernel_rfl) (fun _ _ _ h => h) (Or.inl ⟨by rfl, ?_⟩) ?_ ?_
            rotate_left
            · intro w'
              go_simp
              with_reducible rfl
            rotate_left
            · (simp only [Act.put, List.setIfInBounds_toArray, i64_w, i32_w]; dsimp only [List.set_cons_zero, List.set_cons_succ])
              rfl
            refine take_ (i := 23) (N := some 68) (v := ?_) (a' := ?_) #[true, true, true, true, true, true, true, true, true, true, true, true, true, true, true, true, true, true, true, true, true, true, true, true, false, false, false, false] rfl rfl (by kernel_rfl) (fun _ _ _ h => h) (Or.inl ⟨by rfl, ?_⟩) hHeld ?_ ?_
            rotate_left
            · rintro w' ⟨s0, s1, s2, s3, s4, s5, s6⟩
              go_simp
              with_reducible rfl
            rotate_left
            · (simp only [Act.put, List.setIfInBounds_toArray, i64_w, i32_w]; dsimp only [List.set_cons_zero, List.set_cons_succ])
              rfl
            refine pure_ (i := 24) (N := some 69) (v := ?_) (a' := ?_) #[true, true, true, true, true, true, true, true, true, true, true, true, true, true, true, true, true, true, true, true, true, true, true, true, true, false, false, false] rfl rfl (by kernel_rfl) (fun _ _ _ h => h) (Or.inl ⟨by rfl, ?_⟩) ?_ ?_
            rotate_left
            · intro w'
              go_simp
              with_reducible rfl
            rotate_left
            · (simp only [Act.put, List.setIfInBounds_toArray, i64_w, i32_w]; dsimp only [List.set_cons_zero, List.set_cons_succ])
              rfl
            refine last_ (i := 25) (N := none) #[true, true, true, true, true, true, true, true, true, true, true, true, true, true, true, true, true, true, true, true, true, true, true, true, true, true, false, false] rfl rfl (by kernel_rfl) (by decide) (fun K hK => ?_)
            refine store_arm (by rfl) rfl 62 _ _ rfl g (i * 3) #[.int .u64 y.at_, .int .i64 y.id, .int .i64 y.tag] (by rfl) (by rfl) th0 info_one (all_one _ _ _) ?_
            refine hK.out _ _ ?_
            clear hK K
            refine pure_ (i := 26) (N := some 70) (v := ?_) (a' := ?_) #[true, true, true, true, true, true, true, true, true, true, true, true, true, true, true, true, true, true, true, true, true, true, true, true, true, true, true, false] rfl rfl (by kernel_rfl) (fun _ _ _ h => h) (Or.inl ⟨by rfl, ?_⟩) ?_ ?_
            rotate_left
            · intro w'
              go_simp
              with_reducible rfl
            rotate_left
            · (simp only [Act.put, List.setIfInBounds_toArray, i64_w, i32_w]; dsimp only [List.set_cons_zero, List.set_cons_succ])
              rfl
            refine last_ (i := 27) (N := none) #[true, true, true, true, true, true, true, true, true, true, true, true, true, true, true, true, true, true, true, true, true, true, true, true, true, true, true, true] rfl rfl (by kernel_rfl) (by decide) (fun K hK => ?_)
            refine store_arm (by rfl) rfl 62 _ _ rfl g (k * 3) #[.int .u64 x.at_, .int .i64 x.id, .int .i64 x.tag] (by rfl) (by rfl) th1 info_one (all_one _ _ _) ?_
            refine hK.out _ _ ?_
            clear hK K
            refine done_ (by kernel_rfl) ?_
            go_wp2
            exact ⟨⟨k, (ys.set i y).set k x, by simpa using hki, (by show _ = _; have := hyl.out; simpa using this), rfl, HSW.out.1, HR, (her.trans her2 (by simp)).trans HSW.out.2.of_drew (by simp)⟩, by have := hyl.out; simp [intOf]; omega⟩
end Go.Proofs.Ytlnablnnnnkeaaa
