/- due of the statements: all that are due, in order. -/
import Derived.Test.YtlnablnnnnkeaaaAwake
namespace Go.Proofs.Ytlnablnnnnkeaaa
open Go.RowKit Go.Proofs.YtlnablnnnnkeaaaW.PrintLast
set_option linter.unusedVariables false
set_option linter.unusedSimpArgs false

def enc1 (x : Int) : List Value := [.int .i64 x]
theorem enc1_len (x : Int) : (enc1 x).length = 1 := rfl
theorem oneC_enc1 (x : Int) : ∀ u ∈ enc1 x, u.oneCell' = true := by intro u hu; simp [enc1] at hu; rw [hu]; rfl

/-- What was taken out, in order, and what is left. -/
structure Dues (now : Int) (L D R : List One) : Prop where
  perm : (D ++ R).Perm L
  sort : D.Pairwise leO
  due : ∀ t ∈ D, t.at_ ≤ now
  rest : ∀ t ∈ D, ∀ x ∈ R, leO t x

theorem Dues.nil (now : Int) (L : List One) : Dues now L [] L := ⟨.refl _, .nil, by simp, by simp⟩
theorem Dues.more {now : Int} {L D R R' : List One} {t : One} (h : Dues now L D R) (hp : (t :: R').Perm R) (hl : ∀ x ∈ R', leO t x) (ht : t.at_ ≤ now) : Dues now L (D ++ [t]) R' := by
  refine ⟨?_, ?_, ?_, ?_⟩
  · have := (List.Perm.append_left D hp).trans h.perm
    simpa using this
  · rw [List.pairwise_append]
    refine ⟨h.sort, by simp, ?_⟩
    intro a ha b hb
    rw [List.mem_singleton.1 hb]
    exact h.rest a ha t (hp.mem_iff.1 (by simp))
  · intro x hx
    rcases List.mem_append.1 hx with hx | hx
    · exact h.due x hx
    · rw [List.mem_singleton.1 hx]; exact ht
  · intro x hx y hy
    rcases List.mem_append.1 hx with hx | hx
    · exact h.rest x hx y (hp.mem_iff.1 (by simp [hy]))
    · rw [List.mem_singleton.1 hx]; exact hl y hy

set_option maxHeartbeats 3200000 in
theorem due_all (b : Nat) (S : List Nat) (L : List One) (most last now : Int) (v : Value) (ys : List Int) (hx : L.length < 300) (hy : ys.length < 1000) (w : World) (h : WO w b S L most last) (hr : Rw enc1 1 3 w v ys) (hd : ∀ g, v.ownBlock = some g → g ∉ S) :
    Calls Try.prog 11 #[.pointer (some ⟨b, 0, none⟩), .int .u64 now, v] w fun e w' =>
      ∃ v' D R, e = .returned v' ∧ Dues now L D R ∧ (∀ t ∈ R, now < t.at_) ∧ WO w' b S R most last ∧ Rw enc1 1 3 w' v' (ys ++ D.map (·.id)) ∧ Ext (S ++ v.ownBlock.toList) w w' ∧ (∀ g, v'.ownBlock = some g → v.ownBlock = some g ∨ w.heap.size ≤ g) := by
  have hS := h.lt
  go_enter Try.func11, Try.ntmps11
  go_wp2_with fail
  go_loopw [2, 7] (fun lv iv wr => ∃ (i : Nat) (D R : List One), iv = .int .i64 i ∧ D.length = i ∧ Dues now L D R ∧ WO wr b S R most last ∧ Rw enc1 1 3 wr lv (ys ++ D.map (·.id)) ∧ Ext (S ++ v.ownBlock.toList) w wr ∧ (∀ g, lv.ownBlock = some g → v.ownBlock = some g ∨ w.heap.size ≤ g)) (fun _ iv _ => 300 - (intOf iv).toNat)
  case atStart => exact ⟨0, [], L, rfl, rfl, Dues.nil _ _, h, by simpa using hr, Ext.refl _ _, fun g hg => .inl hg⟩
  case round =>
    obtain ⟨i, D, R, rfl, hi, hdu, hw, hrow, her, hown⟩ := hrel
    have hlen := hdu.perm.length_eq
    simp only [List.length_append] at hlen
    have d1 : (i : Int) < 300 := by omega
    go_wp2_with fail
    refine (wo_due b S R most last now (by omega) wr hw).mono ?_
    rintro e w1 (⟨h1, rfl, h2, h3⟩ | ⟨t, R', h1, h2, h3, rfl, h4, h5⟩)
    · go_wp2_with fail
      go_ret
      exact ⟨u2, D, R, rfl, hdu, h1, h2, hrow.keep h3 (by simp), her.trans h3 (by simp), hown⟩
    · have hgS : ∀ g, u2.ownBlock = some g → g ∉ S := by
        intro g hg
        rcases hown g hg with h | h
        · exact hd g h
        · intro hm; have := hS g hm; omega
      have hr1 := hrow.keep h5 hgS
      have hl1 : (ys ++ D.map (·.id)).length < 1000000 := by simp; omega
      have he1 : Ext (S ++ v.ownBlock.toList) w w1 := her.trans h5 (fun x hx => .inl (by simp [hx]))
      have hs1 := her.size
      have hs2 := he1.size
      obtain ⟨a, cap, rfl⟩ := hr1.val
      generalize hzs : ys ++ D.map (·.id) = zs at *
      have HZS := Lib.hid hzs
      clear hzs
      have hr2 : ∀ o : Obj, Rw enc1 1 3 (w1.alloc o) (.slice a zs.length cap) zs := fun o => hr1.keep ((Ext.refl [] _).alloc o) (by simp)
      have hu1 : Try.prog.underlying 30 = some (.slice 3) := by kernel_rfl
      have hu2 : Try.prog.info? 3 = some Try.t3 := by kernel_rfl
      have hu3 : Try.t3.bytes = 8 := by rfl
      have hu4 : Try.t3.size = 1 := by rfl
      have hu5 : Try.t3.zero = some (.int .i64 0) := by rfl
      go_wp2_with (at_builtin; refine wpList_app enc1_len oneC_enc1 rfl _ _ 30 rfl 3 Try.t3 _ 8 hu1 hu2 hu5 hu4 hu3 (by simp [Value.cells]) (by omega) (hr2 _) rfl t.id _ _ rfl ?_ hl1 (by omega) ?_)
      · exact fun j _ => new_cells w1 (enc1 t.id) _ j
      intro g cap' w2 hr3 hE hn hg
      have he2 := hE (Value.slice a zs.length cap).ownBlock.toList (by simp)
      have hw2 : WO w2 b S R' most last := (h4.keep (T := []) ((Ext.refl _ _).alloc _) (by simp)).keep he2 (by
        intro x hx hx2
        exact hgS x (by simpa using hx2) hx)
      go_wp2_with fail
      refine ⟨⟨i + 1, D ++ [t], R', rfl, by simp [hi], hdu.more h1 h2 h3, hw2, ?_, ?_, ?_⟩, by simp [intOf]; omega⟩
      · have := hr3
        rw [← HZS.out] at this
        rw [List.map_append, ← List.append_assoc, ← HZS.out]
        exact this
      · refine (he1.alloc _).trans he2 ?_
        intro x hx
        rcases hown x (by simpa using hx) with h | h
        · exact .inl (by simp [h])
        · exact .inr h
      · intro g' hg'
        injection hg' with hg'
        have hg' : g = g' := hg'
        subst hg'
        rcases hn with hn | hn
        · exact hown g hn
        · exact .inr (by omega)
end Go.Proofs.Ytlnablnnnnkeaaa
