/- The cache: New, Sweep, Clear, the eldest, has, Entries, by contract. -/
import Derived.Test.YtkbjpackijdnkaaEnDel
import Derived.Deep.DeepCutAuto
namespace Go.Proofs.Ytkbjpackijdnkaa
open Go.RowKit
set_option linter.unusedVariables false
set_option linter.unusedSimpArgs false

abbrev CT (most : Int) := @Ob Ent encE 6 35 (fun v => #[v, .int .i64 most]) 89
abbrev CO (most : Int) := @OO Ent encE 6 35 (fun v => #[v, .int .i64 most]) 89

def clampC (m : Int) : Int := max 1 (min m 64)

set_option maxHeartbeats 800000 in
theorem newC_any (m : Int) (w : World) : Calls Try.prog 14 #[.int .i64 m] w fun e w' => e = .returned (.pointer (some ⟨w.heap.size, 0, none⟩)) ∧ CT (clampC m) w' w.heap.size (.slice none 0 0) [] ∧ Ext [] w w' := by
  have key : ∀ most : Int, CT most (w.alloc (.cells #[.slice none 0 0, .int .i64 most] 89)) w.heap.size (.slice none 0 0) [] := fun most => ⟨Blk.new _ _ _, Rw.nil _, by simp [Value.ownBlock]⟩
  have K := Lib.hid key
  clear key
  go_enter Try.func14, Try.ntmps14
  go_wp2
  all_goals
    go_ret
    refine ⟨rfl, ?_, (Ext.refl _ _).alloc _⟩
    first
      | exact K.out _
      | (have e : clampC m = 64 := by (unfold clampC; omega)
         rw [e]; exact K.out _)
      | (have e : clampC m = 1 := by (unfold clampC; omega)
         rw [e]; exact K.out _)
      | (have e : clampC m = m := by (unfold clampC; omega)
         rw [e]; exact K.out _)

/-- What a DeleteFunc over the cache's row leaves. -/
def DropP (most : Int) (b : Nat) (S : List Nat) (p : Ent → Bool) (xs : List Ent) (w : World) (e : Ending) (w' : World) : Prop :=
  e = .returned (.int .i64 ((xs.length : Int) - ((xs.filter fun x => !p x).length : Int))) ∧ CO most w' b S (xs.filter fun x => !p x) ∧ Ext S w w'

set_option maxHeartbeats 1600000 in
theorem drop_any (most : Int) (b : Nat) (S : List Nat) (xs : List Ent) (p : Ent → Bool) (gf : Nat) (lb : Array Value) (eg : ∀ args w, (callFunc gf args).run Try.prog w = .ok (.enter gf args) w) (hx : xs.length < 1000000) (w : World) (h : CO most w b S xs)
    (hp : ∀ W, Ext S w W → PredE Try.prog gf lb encE p W) :
    Calls Try.prog 55 #[.pointer (some ⟨b, 0, none⟩), .func (.func gf) #[] lb] w (DropP most b S p xs w) := by
  obtain ⟨v, h, rfl⟩ := h
  obtain ⟨a, cap, rfl⟩ := h.row.val
  obtain ⟨n, hn⟩ : ∃ n, n = xs.length := ⟨_, rfl⟩
  have hdel := ent_deleteFunc p gf lb eg _ xs hx w h.row (fun W hW => hp W (hW.mono (fun x hx => .inl (List.mem_cons_of_mem _ hx))))
  have hll : (xs.filter fun x => !p x).length ≤ xs.length := List.length_filter_le _ _
  rw [← hn] at h hdel hx hll
  unfold DropP
  rw [← hn]
  have hcv : w.cell? ⟨b, 0, none⟩ = some (.slice a n cap) := h.blk.cell 0
  have HDEL := Lib.hid hdel; have HH := Lib.hid h
  obtain ⟨ys, hys⟩ : ∃ ys, ys = xs.filter fun x => !p x := ⟨_, rfl⟩
  unfold DelF at HDEL
  rw [← hys] at HDEL hll ⊢
  obtain ⟨m, hm⟩ : ∃ m, m = ys.length := ⟨_, rfl⟩
  rw [← hm] at hll ⊢
  have HM := Lib.hid hm
  have hw : wrap64 ((n : Int) - (m : Int)) = (n : Int) - (m : Int) := by unfold wrap64; omega
  clear h hdel hp hn hys hm
  go_enter Try.func55, Try.ntmps55
  go_wp2_with fail
  refine HDEL.out.mono ?_
  rintro e w1 ⟨a1, m1, c1, rfl, hr1, ho1, e1⟩
  have hm1 : m1 = m := by rw [HM.out]; exact hr1.len
  subst hm1
  have hne := HH.out.ne
  have hb1 : Blk w1 b #[.slice a n cap, .int .i64 most] 89 := HH.out.blk.keep e1 (by intro hm; exact hne (by simpa using hm))
  have hcv1 : w1.cell? ⟨b, 0, none⟩ = some (.slice a n cap) := hb1.cell 0
  have hfv1 : w1.frozen? ⟨b, 0, none⟩ = false := hb1.free 0
  have hob : CT most (w1.setCell ⟨b, 0, none⟩ (.slice a1 m1 c1)) b (.slice a1 m1 c1) ys := Ob.put (cs := fun v => #[v, .int .i64 most]) hb1 hr1 (by rw [ho1]; exact hne) (by simp)
  have hex : Ext (b :: (Value.slice a n cap).ownBlock.toList) w (w1.setCell ⟨b, 0, none⟩ (.slice a1 m1 c1)) := (e1.mono (fun x hx => .inl (List.mem_cons_of_mem _ hx))).setCell (Or.inl (by simp)) _
  have hcv2 : (w1.setCell ⟨b, 0, none⟩ (.slice a1 m1 c1)).cell? ⟨b, 0, none⟩ = some (.slice a1 m1 c1) := hob.blk.cell 0
  have HO := Lib.hid hob; have HEX := Lib.hid hex; have HO1 := Lib.hid ho1
  clear hr1 ho1 hb1 hob hex hcv e1 hne
  go_wp2_with fail
  go_ret
  refine ⟨rfl, ⟨_, HO.out, ?_⟩, HEX.out⟩
  rw [HO1.out]

theorem co_new (m : Int) (w : World) : Calls Try.prog 14 #[.int .i64 m] w fun e w' => e = .returned (.pointer (some ⟨w.heap.size, 0, none⟩)) ∧ CO (clampC m) w' w.heap.size [w.heap.size] [] ∧ Ext [] w w' :=
  (newC_any m w).mono fun _ _ ⟨h1, h2, h3⟩ => ⟨h1, ⟨_, h2, rfl⟩, h3⟩

def sweepL (now : Int) (xs : List Ent) : List Ent := xs.filter fun x => !lateE now x
def clearL (c : Cel) (xs : List Ent) : List Ent := xs.filter fun x => !ofCell c x

set_option maxHeartbeats 800000 in
theorem co_sweep (most : Int) (b : Nat) (S : List Nat) (xs : List Ent) (now : Int) (hx : xs.length < 1000000) (w : World) (h : CO most w b S xs) :
    Calls Try.prog 35 #[.pointer (some ⟨b, 0, none⟩), .int .u64 now] w (DropP most b S (lateE now) xs w) := by
  have eg := enters_of Try.func68 (by kernel_rfl) rfl
  have hlt := h.lt
  have hd := drop_any most b S xs (lateE now) _ #[.pointer (some ⟨w.heap.size, 0, none⟩)] eg hx (w.alloc (.cells #[.int .u64 now] 28 (0, 0))) (h.keep0 ((Ext.refl _ _).alloc _)) (fun W hW => isLate w.heap.size now W (by
    have := ((Blk.new w #[.int .u64 now] 28).keep hW (fun hm => by have := hlt _ hm; omega)).cell 0
    exact this))
  have HD := Lib.hid hd
  clear hd h
  go_enter Try.func35, Try.ntmps35
  go_wp2_with fail
  refine HD.out.mono ?_
  rintro e w1 ⟨rfl, h1, e1⟩
  go_wp2_with fail
  go_ret
  exact ⟨rfl, h1, (((Ext.refl [] w).alloc _).mono (by simp)).trans e1 (fun x hx => .inl hx)⟩

set_option maxHeartbeats 800000 in
theorem co_clear (most : Int) (b : Nat) (S : List Nat) (xs : List Ent) (c : Cel) (hx : xs.length < 1000000) (w : World) (h : CO most w b S xs) :
    Calls Try.prog 19 #[.pointer (some ⟨b, 0, none⟩), .agg (encC c).toArray] w (DropP most b S (ofCell c) xs w) := by
  have eg := enters_of Try.func56 (by kernel_rfl) rfl
  have hlt := h.lt
  have hd := drop_any most b S xs (ofCell c) _ #[.pointer (some ⟨w.heap.size, 0, none⟩)] eg hx (w.alloc (.cells (encC c).toArray 33 (0, 0))) (h.keep0 ((Ext.refl _ _).alloc _)) (fun W hW => isCell w.heap.size c W
    ((Blk.new w (encC c).toArray 33).keep hW (fun hm => by have := hlt _ hm; omega)))
  have HD := Lib.hid hd
  clear hd h
  unfold encC at HD ⊢
  go_enter Try.func19, Try.ntmps19
  go_wp2_with fail
  refine HD.out.mono ?_
  rintro e w1 ⟨rfl, h1, e1⟩
  go_wp2_with fail
  go_ret
  exact ⟨rfl, h1, (((Ext.refl [] w).alloc _).mono (by simp)).trans e1 (fun x hx => .inl hx)⟩

set_option maxHeartbeats 800000 in
theorem co_has (most : Int) (b : Nat) (S : List Nat) (xs : List Ent) (a : Ent) (now : Int) (hx : xs.length < 1000000) (w : World) (h : CO most w b S xs) :
    Calls Try.prog 57 #[.pointer (some ⟨b, 0, none⟩), .agg (encE a).toArray, .int .u64 now] w fun e w' => e = .returned (.bool (xs.any (goodE a now))) ∧ Ext [] w w' := by
  obtain ⟨v, h, rfl⟩ := h
  have eg := enters_of Try.func76 (by kernel_rfl) rfl
  obtain ⟨va, cap, rfl⟩ := h.row.val
  have hcv : w.cell? ⟨b, 0, none⟩ = some (.slice va xs.length cap) := h.blk.cell 0
  have hlt := h.blk.lt
  have e2 : Ext [] w ((w.alloc (.cells (encE a).toArray 35 (0, 0))).alloc (.cells #[.int .u64 now] 28 (0, 0))) := ((Ext.refl _ _).alloc _).alloc _
  have hc := ent_containsFunc (goodE a now) _ #[.pointer (some ⟨w.heap.size, 0, none⟩), .pointer (some ⟨w.heap.size + 1, 0, none⟩)] eg _ xs hx _ (h.row.keep e2 (by simp))
    (isGood w.heap.size (w.heap.size + 1) a now _ ((Blk.new w (encE a).toArray 35).alloc _) (by have := (Blk.new (w.alloc (.cells (encE a).toArray 35 (0, 0))) #[.int .u64 now] 28).cell 0; rw [World.size_alloc] at this; exact this))
  have HC := Lib.hid hc; have E2 := Lib.hid e2
  clear h hc e2
  unfold encE at HC E2 ⊢
  go_enter Try.func57, Try.ntmps57
  go_wp2_with fail
  refine HC.out.mono ?_
  rintro e w1 ⟨rfl, e1⟩
  go_wp2_with fail
  go_ret
  exact ⟨rfl, E2.out.trans e1 (by simp)⟩
end Go.Proofs.Ytkbjpackijdnkaa
