/- The cache: the eldest, Entries, Put, by contract. -/
import Derived.Test.YtkbjpackijdnkaaCache
import Derived.Test.YtkbjpackijdnkaaWLast
namespace Go.Proofs.Ytkbjpackijdnkaa
open Go.RowKit Go.Proofs.YtkbjpackijdnkaaW.PrintLast
set_option linter.unusedVariables false
set_option linter.unusedSimpArgs false

/-- The eldest one of the first k. -/
def eldA (xs : List Ent) : Nat → Nat
  | 0 => 0
  | k + 1 => match xs[k]?, xs[eldA xs k]? with
    | some e, some f => if e.til < f.til then k else eldA xs k
    | _, _ => eldA xs k
def eldM (xs : List Ent) : Nat := eldA xs xs.length
theorem eldA_le (xs : List Ent) : ∀ k, eldA xs k ≤ k
  | 0 => Nat.le_refl _
  | k + 1 => by
    have := eldA_le xs k
    rw [eldA]
    split
    · split <;> omega
    · omega
theorem eldA_lt {xs : List Ent} {k : Nat} (h : 0 < k) : eldA xs k < k := by
  cases k with
  | zero => omega
  | succ k =>
    have := eldA_le xs k
    rw [eldA]
    split
    · split <;> omega
    · omega
theorem eldA_step {xs : List Ent} {k : Nat} {e f : Ent} (h : xs[k]? = some e) (h' : xs[eldA xs k]? = some f) : eldA xs (k + 1) = if e.til < f.til then k else eldA xs k := by
  rw [eldA, h, h']

set_option maxHeartbeats 3200000 in
set_option maxRecDepth 100000 in
theorem eldest_any (most : Int) (b : Nat) (v : Value) (xs : List Ent) (hx : xs.length < 1000000) (w : World) (h : CT most w b v xs) :
    Calls Try.prog 53 #[.pointer (some ⟨b, 0, none⟩)] w fun e w' => e = .returned (.int .i64 (eldM xs)) ∧ Ext [] w w' := by
  obtain ⟨a, cap, rfl⟩ := h.row.val
  obtain ⟨n, hn⟩ : ∃ n, n = xs.length := ⟨_, rfl⟩
  rw [← hn] at h
  have hcv : w.cell? ⟨b, 0, none⟩ = some (.slice a n cap) := h.blk.cell 0
  have hlb := h.blk.lt
  have hrow := h.row
  have HN := Lib.hid hn
  have hn1 : n < 1000000 := by omega
  clear hn hx h
  go_enter Try.func53, Try.ntmps53
  go_wp2_with fail
  go_loopw [3, 11] (fun av iv wr => ∃ (k : Nat), k ≤ n ∧ iv = .int .i64 k ∧ av = .int .i64 (eldA xs k) ∧ Ext [] w wr) (fun _ iv _ => n - (intOf iv).toNat)
  case atStart => exact ⟨0, Nat.zero_le _, rfl, rfl, Ext.refl _ _⟩
  case round =>
    obtain ⟨k, hkn, rfl, rfl, her⟩ := hrel
    by_cases hlt : k < n
    · have d1 : decide (k < n) = true := decide_eq_true hlt
      obtain ⟨x, hxk⟩ : ∃ x, xs[k]? = some x := ⟨_, List.getElem?_eq_getElem (by rw [← HN.out]; exact hlt)⟩
      have hek := eldA_le xs k
      obtain ⟨y, hyk⟩ : ∃ y, xs[eldA xs k]? = some y := ⟨_, List.getElem?_eq_getElem (by rw [← HN.out]; omega)⟩
      have hst := eldA_step hxk hyk
      have hr := hrow.keep her (by simp)
      obtain ⟨gb, rfl, hgl⟩ := hr.addr (by omega)
      have l0 := hr.cell encE_ok.len hxk 0 (by omega); have l1 := hr.cell encE_ok.len hxk 1 (by omega); have l2 := hr.cell encE_ok.len hxk 2 (by omega)
      have l3 := hr.cell encE_ok.len hxk 3 (by omega); have l4 := hr.cell encE_ok.len hxk 4 (by omega); have l5 := hr.cell encE_ok.len hxk 5 (by omega)
      have m5 := (hr.alloc (.cells (encE x).toArray 35 (0, 0))).cell encE_ok.len hyk 5 (by omega)
      have kB : (wr.alloc (.cells (encE x).toArray 35 (0, 0))).cell? ⟨wr.heap.size, 5, none⟩ = some (.int .u64 x.til) := (Blk.new wr (encE x).toArray 35).cell 5
      have hcw : (wr.alloc (.cells (encE x).toArray 35 (0, 0))).cell? ⟨b, 0, none⟩ = some (.slice (some ⟨gb, 0, none⟩) n cap) := ((her.alloc _).cell (p := ⟨b, 0, none⟩) hlb (by simp)).trans hcv
      have e3 : Ext [] w (wr.alloc (.cells (encE x).toArray 35 (0, 0))) := her.alloc _
      generalize eldA xs k = q at *
      unfold encE at kB hcw e3 m5
      simp only [encE, Nat.add_zero, List.getElem?_cons_zero, List.getElem?_cons_succ] at l0 l1 l2 l3 l4 l5 m5
      have b1 : (0 : Int) ≤ (k : Int) := by omega
      have b2 : (k : Int) < (n : Int) := by omega
      have b3 : (0 : Int) ≤ (q : Int) := by omega
      have b4 : (q : Int) < (n : Int) := by omega
      have HST := Lib.hid hst; have E3 := Lib.hid e3; have KB := Lib.hid kB; have HCW := Lib.hid hcw; have M5 := Lib.hid m5
      clear hr hxk hyk hst e3 her hrow kB hcw m5
      go_wp2_with fail
      have kB := KB.out; have hcw := HCW.out; have m5 := M5.out; have e3 := E3.out
      generalize wr.alloc (Obj.cells #[Value.string x.org, Value.string x.url, Value.bool x.creds, Value.string x.meth, Value.string x.head, Value.int .u64 x.til] 35) = w3 at kB hcw m5 e3 ⊢
      clear KB HCW M5 E3 l0 l1 l2 l3 l4 l5
      by_cases hc : x.til < y.til
      · have d2 : decide (x.til < y.til) = true := decide_eq_true hc
        rw [if_pos hc] at HST
        go_quiet (fail)
        go_wp2_with fail
        exact ⟨⟨k + 1, by omega, by go_num, by rw [HST.out], e3.drewN _⟩, by simp [intOf]; omega⟩
      · have d2 : decide (x.til < y.til) = false := decide_eq_false hc
        rw [if_neg hc] at HST
        go_quiet (fail)
        go_wp2_with fail
        exact ⟨⟨k + 1, by omega, by go_num, by rw [HST.out], e3.drewN _⟩, by simp [intOf]; omega⟩
    · have d1 : decide (k < n) = false := decide_eq_false hlt
      have hk : k = n := by omega
      go_wp2_with fail
      go_ret
      refine ⟨ret_int ?_, her⟩
      unfold eldM; rw [hk, HN.out]

def EntriesP (xs : List Ent) (w : World) (e : Ending) (w' : World) : Prop :=
  ∃ (a : Option Addr) (c : Nat), e = .returned (.slice a xs.length c) ∧ Rw encE 6 35 w' (.slice a xs.length c) xs ∧ Ext [] w w' ∧ (∀ g, (Value.slice a xs.length c).ownBlock = some g → w.heap.size ≤ g)

set_option maxHeartbeats 800000 in
theorem co_entries (most : Int) (b : Nat) (S : List Nat) (xs : List Ent) (hx : xs.length < 100000) (w : World) (h : CO most w b S xs) :
    Calls Try.prog 15 #[.pointer (some ⟨b, 0, none⟩)] w (EntriesP xs w) := by
  obtain ⟨v, h, rfl⟩ := h
  obtain ⟨a, cap, rfl⟩ := h.row.val
  obtain ⟨n, hn⟩ : ∃ n, n = xs.length := ⟨_, rfl⟩
  rw [← hn] at h
  have hcv : w.cell? ⟨b, 0, none⟩ = some (.slice a n cap) := h.blk.cell 0
  have hsl := h.row.sl
  have hrw : Rw encE 6 35 w (.slice none 0 0) ([] : List Ent) := Rw.nil _
  have hlen : LenIs ([] : List Ent) xs n := by unfold LenIs; rw [hn]; simp
  have h63 : n ≤ 1000000 := by omega
  have HN := Lib.hid hn
  clear hn h hx
  go_enter Try.func15, Try.ntmps15
  go_wp2_with (at_builtin; refine wpList_appN tyE encE_ok (by rfl) _ _ (by rfl) hrw (by rfl) hsl (by rfl) hlen h63 ?_)
  intro a' c' w5 hr5 hS5 hg5
  have HR5 := Lib.hid hr5
  have he5 := hS5 [] (by simp [Value.ownBlock])
  have HE5 := Lib.hid he5
  have HG5 := Lib.hid hg5
  clear hr5 hS5 he5 hg5 hsl hrw hlen
  go_wp2_with fail
  refine bodyPost_ret (v := .slice a' n c') (by simp [results, Try.results15, go_sem]) rfl ?_
  have hl := HN.out
  subst hl
  exact ⟨a', c', rfl, by simpa using HR5.out, HE5.out, fun g hg => (HG5.out g hg).elim (fun h => by simp [Value.ownBlock] at h) id⟩

theorem co_eldest (most : Int) (b : Nat) (S : List Nat) (xs : List Ent) (hx : xs.length < 1000000) (w : World) (h : CO most w b S xs) :
    Calls Try.prog 53 #[.pointer (some ⟨b, 0, none⟩)] w fun e w' => e = .returned (.int .i64 (eldM xs)) ∧ Ext [] w w' := by
  obtain ⟨v, h, rfl⟩ := h
  exact eldest_any most b v xs hx w h

def emp : ByteArray := ⟨#[]⟩
/-- Is an entry refused? -/
def badE (e : Ent) (now : Int) : Bool := (decide (e.meth = emp) == decide (e.head = emp)) || decide (e.til ≤ now)
/-- What a Put tells, and what is there then. -/
def putY (most : Int) (e : Ent) (ys : List Ent) : List Ent := match ys.findIdx? (fun x => sameE x e) with
  | some i => ys.set i { (ys[i]?.getD e) with til := e.til }
  | none => (if most ≤ (ys.length : Int) then ys.eraseIdx (eldM ys) else ys) ++ [e]
def putM (most : Int) (e : Ent) (now : Int) (xs : List Ent) : Bool × List Ent :=
  if badE e now then (false, xs) else (true, putY most e (sweepL now xs))
end Go.Proofs.Ytkbjpackijdnkaa
