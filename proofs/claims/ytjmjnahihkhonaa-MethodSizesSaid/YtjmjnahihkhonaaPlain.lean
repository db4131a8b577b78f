/- What the methods' functions tell depends on a text's small letters alone, and is the reference's: plain facts on bytes. -/
import Derived.Test.YtjmjnahihkhonaaMeth2
namespace Go.Proofs.Ytjmjnahihkhonaa
open Go.RowKit

def lowL (s : ByteArray) : List UInt8 := s.data.toList.map lowB

theorem lowS_list (s : ByteArray) : (lowS s).toList = lowL s := by rw [ByteArray.toList_eq]; rfl
theorem foldB_eq (a b : ByteArray) : foldB a b = (lowL a == lowL b) := by unfold foldB; rw [lowS_list, lowS_list]

def kn (l : List UInt8) : ByteArray := (names.find? fun m => l == lowL m).getD ⟨#[]⟩
def br (l : List UInt8) : Bool := (l == lowL b0) || ((l == lowL b1) || (l == lowL b2))
def tk (l : List UInt8) : Bool := l.all (fun b => tokN (b.toNat : Int)) && !l.isEmpty

theorem knownS_eq (s : ByteArray) : knownS s = kn (lowL s) := by
  unfold knownS kn
  congr 2
  funext m
  exact foldB_eq s m
theorem barsS_eq (s : ByteArray) : barsS s = br (lowL s) := by unfold barsS br; rw [foldB_eq, foldB_eq, foldB_eq]

theorem bytes_all (s : ByteArray) (p : Int → Bool) : (List.range s.size).all (fun j => p (byteN s j)) = s.data.toList.all (fun b => p (b.toNat : Int)) := by
  rw [Bool.eq_iff_iff, List.all_eq_true, List.all_eq_true]
  constructor
  · intro h b hb
    obtain ⟨j, hj, rfl⟩ := List.getElem_of_mem hb
    have := h j (List.mem_range.2 (by rw [← size_toList]; exact hj))
    unfold byteN at this
    rw [List.getD_eq_getElem?_getD, List.getElem?_eq_getElem hj, Option.getD_some] at this
    exact this
  · intro h j hj
    have hj' : j < s.data.toList.length := by rw [size_toList]; exact List.mem_range.1 hj
    have := h _ (List.getElem_mem hj')
    unfold byteN
    rw [List.getD_eq_getElem?_getD, List.getElem?_eq_getElem hj', Option.getD_some]
    exact this

theorem tok_low (c : Int) (h0 : 0 ≤ c) (h1 : c < 256) : tokN (lowN c) = tokN c := by
  have := byte_all (fun c => tokN (lowN c) == tokN c) (by decide +kernel) c h0 h1
  simpa using this

theorem tokS_eq (s : ByteArray) : tokS s = tk (lowL s) := by
  unfold tokS tk lowL
  rw [bytes_all s tokN, List.all_map, ByteArray.toList_eq]
  congr 1
  · congr 1
    funext b
    have hb := UInt8.toNat_lt b
    show tokN (b.toNat : Int) = tokN ((lowB b).toNat : Int)
    rw [lowB_N, tok_low _ (by omega) (by omega)]
  · cases s.data.toList <;> rfl

theorem kn_cases (l : List UInt8) : (kn l = ⟨#[]⟩ ∧ ∀ m ∈ names, l ≠ lowL m) ∨ ∃ m ∈ names, kn l = m ∧ l = lowL m := by
  unfold kn
  cases h : names.find? fun m => l == lowL m with
  | none =>
    refine .inl ⟨rfl, fun m hm he => ?_⟩
    have := List.find?_eq_none.1 h m hm
    simp [he] at this
  | some m =>
    refine .inr ⟨m, List.mem_of_find?_eq_some h, rfl, ?_⟩
    have := List.find?_some h
    simpa using this

theorem names_ne (m : ByteArray) (h : m ∈ names) : m.toList.isEmpty = false := by
  simp only [names, List.mem_cons, List.not_mem_nil, or_false] at h
  rcases h with rfl | rfl | rfl | rfl | rfl | rfl <;> (rw [ByteArray.toList_eq]; rfl)

theorem empty_is : (⟨#[]⟩ : ByteArray).toList.isEmpty = true := by rw [ByteArray.toList_eq]; rfl

theorem kn_low (m : ByteArray) (h : m ∈ names) : kn (lowL m) = m := by
  simp only [names, List.mem_cons, List.not_mem_nil, or_false] at h
  rcases h with rfl | rfl | rfl | rfl | rfl | rfl <;> decide +kernel

/-- Norm: the same text, or a name that is the text but for the case of letters. -/
theorem normS_cases (s : ByteArray) : (normS s = s ∧ kn (lowL s) = ⟨#[]⟩ ∧ ∀ m ∈ names, lowL s ≠ lowL m) ∨ ∃ m ∈ names, normS s = m ∧ lowL s = lowL m ∧ kn (lowL s) = m := by
  unfold normS
  rw [knownS_eq]
  rcases kn_cases (lowL s) with ⟨h, h2⟩ | ⟨m, hm, h, h2⟩
  · rw [h, empty_is]; exact .inl ⟨rfl, rfl, h2⟩
  · rw [h, names_ne m hm]; exact .inr ⟨m, hm, rfl, h2, rfl⟩

theorem rnorm_eq (s : ByteArray) : rnormS s = normS s := by
  unfold rnormS normS
  rw [knownS_eq]
  have e : (names.find? fun m => foldB s m) = names.find? fun m => lowL s == lowL m := by congr 1; funext m; exact foldB_eq s m
  rw [e]
  unfold kn
  cases h : names.find? fun m => lowL s == lowL m with
  | none => simp only [Option.getD_none]; rw [empty_is]; rfl
  | some m => simp only [Option.getD_some]; rw [names_ne m (List.mem_of_find?_eq_some h)]; rfl

theorem lowL_norm (s : ByteArray) : lowL (normS s) = lowL s := by
  rcases normS_cases s with ⟨h, -⟩ | ⟨m, -, h, h2, -⟩
  · rw [h]
  · rw [h, h2]

theorem lowL_size {a b : ByteArray} (h : lowL a = lowL b) : a.size = b.size := by
  have := congrArg List.length h
  unfold lowL at this
  rwa [List.length_map, List.length_map, size_toList, size_toList] at this

theorem norm_norm (s : ByteArray) : normS (normS s) = normS s := by
  rcases normS_cases s with ⟨h, -⟩ | ⟨m, hm, h, h2, h3⟩
  · rw [h, h]
  · have hk : knownS (normS s) = m := by rw [knownS_eq, lowL_norm, h3]
    rw [show normS (normS s) = if (knownS (normS s)).toList.isEmpty then normS s else knownS (normS s) from rfl, hk, names_ne m hm, h]
    rfl

theorem safe_low {a b : ByteArray} (h : lowL a = lowL b) : safeS a = safeS b := by unfold safeS; rw [knownS_eq, knownS_eq, h]
theorem bars_low {a b : ByteArray} (h : lowL a = lowL b) : barsS a = barsS b := by rw [barsS_eq, barsS_eq, h]
theorem check_low {a b : ByteArray} (h : lowL a = lowL b) : checkS a = checkS b := by
  unfold checkS
  rw [tokS_eq, tokS_eq, barsS_eq, barsS_eq, h, lowL_size h]

theorem rsafe_eq (s : ByteArray) : rsafeS s = safeS s := by
  unfold rsafeS safeS
  rw [rnorm_eq, knownS_eq]
  rcases normS_cases s with ⟨h, h2, h3⟩ | ⟨m, hm, h, h2, h3⟩
  · rw [h, h2]
    have e : ∀ m ∈ names, (s.toList == m.toList) = false := by
      intro m hm
      rw [ByteArray.toList_eq, ByteArray.toList_eq]
      rw [beq_eq_false_iff_ne]
      intro he
      exact h3 m hm (by unfold lowL; rw [he])
    rw [e m1 (by simp [names]), e m2 (by simp [names]), e m4 (by simp [names]), m1_list, m2_list, m4_list, ByteArray.toList_eq]
    rfl
  · rw [h, h3]

/-- Whoever is safe is let. -/
theorem safe_check (s : ByteArray) (h : safeS s = true) : checkS s = 0 := by
  rcases kn_cases (lowL s) with ⟨h1, -⟩ | ⟨m, hm, h1, h2⟩
  · unfold safeS at h
    rw [knownS_eq, h1, m1_list, m2_list, m4_list, ByteArray.toList_eq] at h
    exact absurd h (by decide)
  · rw [check_low h2]
    unfold checkS
    rw [tokS_eq, barsS_eq]
    simp only [names, List.mem_cons, List.not_mem_nil, or_false] at hm
    rcases hm with rfl | rfl | rfl | rfl | rfl | rfl <;> decide +kernel
end Go.Proofs.Ytjmjnahihkhonaa
