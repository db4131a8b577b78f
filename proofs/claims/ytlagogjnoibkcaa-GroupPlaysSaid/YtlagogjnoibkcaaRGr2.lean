/- The document's groups: Of, by contract. -/
import Derived.Test.YtlagogjnoibkcaaRGr1
namespace Go.Proofs.Ytlagogjnoibkcaa
open Go.RowKit
set_option linter.unusedVariables false
set_option linter.unusedSimpArgs false

theorem hasI_no {xs : List Int} {z : Int} (h : ∀ (j : Nat) y, xs[j]? = some y → (y == z) = false) : hasI xs z = false := by
  unfold hasI
  rw [List.any_eq_false]
  intro y hy
  obtain ⟨j, hj⟩ := List.mem_iff_getElem?.1 hy
  have := h j y hj
  simp at this ⊢
  exact fun e => this e.symm
theorem hasI_yes {xs : List Int} {z : Int} {j : Nat} (h : xs[j]? = some z) : hasI xs z = true := by
  unfold hasI
  rw [List.any_eq_true]
  exact ⟨z, List.mem_of_getElem? h, by simp⟩
theorem idx_first {α : Type} {p : α → Bool} {xs : List α} {i : Nat} {x : α} (h1 : xs[i]? = some x) (h2 : p x = true) (h3 : ∀ (j : Nat) y, j < i → xs[j]? = some y → p y = false) : idxI p xs = (i : Int) := by
  unfold idxI
  rw [find_ofG h1 h2 h3]
theorem idx_nope {α : Type} {p : α → Bool} {xs : List α} (h : ∀ (j : Nat) y, xs[j]? = some y → p y = false) : idxI p xs = -1 := by
  unfold idxI
  rw [List.findIdx?_eq_none_iff.2 (fun x hx => by
    obtain ⟨j, hj⟩ := List.mem_iff_getElem?.1 hx
    exact h j x hj)]

set_option maxHeartbeats 6400000 in
set_option maxRecDepth 100000 in
theorem rg_of (b : Nat) (S : List Nat) (M : List Gk) (id : Int) (hx : M.length < 10000) (hu : OkG M) (w : World) (h : GQ w b S M) :
    Calls Try.prog 40 #[.pointer (some ⟨b, 0, none⟩), .int .i64 id] w fun e w' => e = .returned (.int .i64 (ofG M id)) ∧ w = w' := by
  obtain ⟨v, L, h, hS, rfl⟩ := h
  rw [absG_len] at hx
  have hof : ofG (absG L) id = 1 + idxI (inG id) L := by unfold ofG; rw [idx_absG (p := inG id) (q := inA id) (fun s => rfl)]
  have hi := hu.L
  obtain ⟨a, cap, rfl⟩ := h.ob.row.val
  obtain ⟨n, hn⟩ : ∃ n, n = L.length := ⟨_, rfl⟩
  rw [← hn] at h
  have hcv : w.cell? ⟨b, 0, none⟩ = some (.slice a n cap) := h.ob.blk.cell 0
  have HN := Lib.hid hn; have HT := Lib.hid h; have HI := Lib.hid hi; have HOF := Lib.hid hof
  have hn1 : n < 1000000 := by omega
  clear hn hx h hi hu hS hof
  go_enter Try.func40, Try.ntmps40
  go_wp2_with fail
  go_loop [5] (fun iv => ∃ (k : Nat), k ≤ n ∧ iv = .int .i64 k ∧ Hid (∀ (j : Nat) x, j < k → L[j]? = some x → inG id x = false)) (fun iv => n - (intOf iv).toNat)
  case atStart => exact ⟨0, Nat.zero_le _, rfl, fun j x hj => absurd hj (Nat.not_lt_zero _)⟩
  case round =>
    obtain ⟨k, hkn, rfl, hall⟩ := hrel
    by_cases hlt : k < n
    · obtain ⟨x, hxk⟩ : ∃ x, L[k]? = some x := ⟨_, List.getElem?_eq_getElem (by rw [← HN.out]; exact hlt)⟩
      have d1 : decide (k < n) = true := decide_eq_true hlt
      have hr := HT.out.ob.row
      obtain ⟨gb, rfl, hgl⟩ := hr.addr (by omega)
      have c0 := hr.cell encG_ok.len hxk 0 (by omega)
      simp only [encG, Gr.row, Nat.add_zero, List.getElem?_cons_zero, List.getElem?_cons_succ] at c0
      have b1 : (0 : Int) ≤ (k : Int) := by omega
      have b2 : (k : Int) < (n : Int) := by omega
      have hxm := List.mem_of_getElem? hxk
      have hri := HT.out.inn x hxm
      have hxl := HI.out x hxm
      unfold Gr.row at hri
      obtain ⟨l, hl⟩ : ∃ l, l = x.ids.length := ⟨_, rfl⟩
      rw [← hl] at c0 hri hxl
      have HXK := Lib.hid hxk; have HRI := Lib.hid hri; have HL := Lib.hid hl
      clear hr hxk hri hl hxm
      go_wp2_with fail
      go_loop [6] (fun jv => ∃ (j : Nat), j ≤ l ∧ jv = .int .i64 j ∧ Hid (∀ (q : Nat) y, q < j → x.ids[q]? = some y → (y == id) = false)) (fun jv => l - (intOf jv).toNat)
      case atStart => exact ⟨0, Nat.zero_le _, rfl, fun j x hj => absurd hj (Nat.not_lt_zero _)⟩
      case round =>
        obtain ⟨j, hjl, rfl, hall2⟩ := hrel
        by_cases hjt : j < l
        · have d2 : decide (j < l) = true := decide_eq_true hjt
          obtain ⟨y, hy⟩ : ∃ y, x.ids[j]? = some y := ⟨_, List.getElem?_eq_getElem (by rw [← HL.out]; exact hjt)⟩
          obtain ⟨ig, hma, hig⟩ := HRI.out.addr (by omega)
          rw [hma] at c0
          have hri2 := HRI.out
          rw [hma] at hri2
          have i0 := hri2.cell encI_ok.len hy 0 (by omega)
          simp only [encI, Nat.add_zero, Nat.mul_one, List.getElem?_cons_zero] at i0
          have b3 : (0 : Int) ≤ (j : Int) := by omega
          have b4 : (j : Int) < (l : Int) := by omega
          have HY := Lib.hid hy
          clear hy hma hri2
          cases hq : (y == id)
          · have HQ := Lib.hid hq
            have f2 := ws2 (i := j) (by omega)
            go_wp2_with fail
            refine ⟨⟨j + 1, by omega, by go_num, ?_⟩, by simp [intOf]; omega⟩
            intro q z hqj hz
            rcases Nat.lt_or_ge q j with h1 | h1
            · exact hall2.out q z h1 hz
            · have : q = j := by omega
              rw [this, HY.out] at hz
              injection hz with hz
              rw [← hz]; exact HQ.out
          · have hm : ofG (absG L) id = (k : Int) + 1 := by
              have hye : y = id := by simpa using hq
              have hh : inG id x = true := by unfold inG; exact hasI_yes (by rw [← hye]; exact HY.out)
              rw [HOF.out, idx_first HXK.out hh hall.out]; omega
            have HM := Lib.hid hm
            have f1 := ws2 (i := k) (by omega)
            clear hm
            go_wp2_with fail
            go_ret
            exact ⟨ret_int HM.out, rfl⟩
        · have d2 : decide (j < l) = false := decide_eq_false hjt
          have hh : inG id x = false := by
            unfold inG
            exact hasI_no (fun q y hy => hall2.out q y (by have := (List.getElem?_eq_some_iff.1 hy).1; have := HL.out; omega) hy)
          have HHO := Lib.hid hh
          have f1 := ws2 (i := k) (by omega)
          clear hh
          go_wp2_with fail
          refine ⟨⟨k + 1, by omega, by go_num, ?_⟩, by simp [intOf]; omega⟩
          intro q z hqk hz
          rcases Nat.lt_or_ge q k with h1 | h1
          · exact hall.out q z h1 hz
          · have : q = k := by omega
            rw [this, HXK.out] at hz
            injection hz with hz
            rw [← hz]; exact HHO.out
    · have d1 : decide (k < n) = false := decide_eq_false hlt
      have hm : ofG (absG L) id = 0 := by
        rw [HOF.out, idx_nope (fun j x hx => hall.out j x (by have := (List.getElem?_eq_some_iff.1 hx).1; have := HN.out; omega) hx)]; omega
      have HM := Lib.hid hm
      clear hm
      go_wp2_with fail
      go_ret
      exact ⟨ret_int HM.out, rfl⟩
end Go.Proofs.Ytlagogjnoibkcaa
