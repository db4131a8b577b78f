/- Long of the statements' own package: have texts more than n bytes together, one for each of them too? -/
import Derived.Test.YtkbjpackijdnkaaCore
namespace Go.Proofs.Ytkbjpackijdnkaa
open Go.RowKit

def longL (n : Int) : List ByteArray → Bool
  | [] => false
  | s :: r => if n ≤ (s.size : Int) then true else longL (n - s.size - 1) r

def encS (s : ByteArray) : List Value := [.string s]

theorem Slc.str_at {w : World} {a : Option Addr} {n : Nat} {xs : List ByteArray} (h : Slc encS 1 w a n xs) :
    ∃ b off, ∀ i z, xs[i]? = some z → a = some ⟨b, off, none⟩ ∧ b < w.heap.size ∧ w.cell? ⟨b, off + i, none⟩ = some (.string z) := by
  by_cases hn : 0 < n
  · obtain ⟨b, off, ha, hb, hc⟩ := h.2 hn
    exact ⟨b, off, fun i z hz => ⟨ha, hb, by have := hc i z hz 0 (.string z) rfl; simpa using this⟩⟩
  · have : xs = [] := List.length_eq_zero_iff.1 (by have := h.1; omega)
    subst this
    exact ⟨0, 0, fun i z hz => by simp at hz⟩

set_option maxHeartbeats 800000 in
theorem long_any (n0 : Int) (h0 : 0 ≤ n0) (h1 : n0 < 4611686018427387904) (a : Option Addr) (m c : Nat) (ss : List ByteArray) (w : World) (hs : Slc encS 1 w a m ss) (hm : m < 9223372036854775808) :
    Calls Try.prog 18 #[.int .i64 n0, .slice a m c] w fun e w' => e = .returned (.bool (longL n0 ss)) ∧ w = w' := by
  obtain ⟨b, off, hat⟩ := hs.str_at
  have HA := Lib.hid hat
  have HN := Lib.hid hs.1
  clear hat hs
  go_enter Try.func18, Try.ntmps18
  go_wp2
  go_loop [0, 5] (fun n i => ∃ (k : Nat) (q : Int), k ≤ m ∧ i = .int .i64 k ∧ n = .int .i64 q ∧ 0 ≤ q ∧ q ≤ n0 ∧ Hid (longL n0 ss = longL q (ss.drop k))) (fun _ i => m - (intOf i).toNat)
  case atStart => exact ⟨0, n0, Nat.zero_le _, rfl, rfl, h0, Int.le_refl _, rfl⟩
  case round =>
    obtain ⟨k, q, hk, rfl, rfl, q0, q1, hq⟩ := hrel
    by_cases hlt : k < m
    · have hsk := List.getElem?_eq_getElem (l := ss) (i := k) (by have := HN.out; omega)
      have hdr : ss.drop k = ss[k]'(by have := HN.out; omega) :: ss.drop (k + 1) := List.drop_eq_getElem_cons (by have := HN.out; omega)
      generalize ss[k]'(by have := HN.out; omega) = s at hsk hdr
      obtain ⟨rfl, hb, hc⟩ := HA.out k s hsk
      have HQ : Hid (longL n0 ss = if q ≤ (s.size : Int) then true else longL (q - s.size - 1) (ss.drop (k + 1))) := by
        show _ = _
        rw [hq.out, hdr]; rfl
      clear hsk hdr hq
      by_cases hsz : q ≤ (s.size : Int)
      · rw [if_pos hsz] at HQ
        go_wp2
        go_ret
        exact ⟨ret_bool HQ.out, rfl⟩
      · rw [if_neg hsz] at HQ
        have hsz' : (s.size : Int) < q := by omega
        go_wp2
        go_round
        case rel => exact ⟨k + 1, q - s.size - 1, by omega, by go_num, rfl, by omega, by omega, HQ⟩
        case measure => simp [intOf]; omega
    · have hd : decide (k < m) = false := decide_eq_false hlt
      have hres : longL n0 ss = false := by
        rw [hq.out, List.drop_eq_nil_of_le (by have := HN.out; omega)]; rfl
      have HR := Lib.hid hres
      clear hres hq
      go_wp2
      go_ret
      exact ⟨ret_bool HR.out, rfl⟩
end Go.Proofs.Ytkbjpackijdnkaa
