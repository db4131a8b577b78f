/- ShareLast: its walk. -/
import Derived.Test.YtkbjpackijdnkaaShareWants
import Derived.Test.YtkbjpackijdnkaaShMembers
import Derived.Test.YtkbjpackijdnkaaLow
import Derived.Test.YtkbjpackijdnkaaIntsAny
import Derived.Deep.DeepCutAuto
namespace Go.Proofs.Ytkbjpackijdnkaa
open Go.RowKit Go.Proofs.YtkbjpackijdnkaaW.PrintLast
set_option linter.unusedVariables false
set_option linter.unusedSimpArgs false

def lastW : Wt := ⟨⟨#[]⟩, ⟨#[]⟩, false, ⟨#[]⟩, ⟨#[120]⟩⟩
theorem wn1 {q : Nat} (h : q ≤ 1000000) : wrap64 ((q : Int) + 1) = (q : Int) + 1 := by unfold wrap64; omega
def oneM : List Int → List Sk
  | [] => []
  | x :: r => [⟨1, lastW, x :: r⟩]
theorem oneM_of {L : List Int} (h : L ≠ []) : oneM L = [⟨1, lastW, L⟩] := by cases L with | nil => exact absurd rfl h | cons x r => rfl
theorem oneM_ok {L : List Int} (h : L.length < 100000) : MemOk (oneM L) := by
  intro s hs
  cases L with
  | nil => simp [oneM] at hs
  | cons x r => simp [oneM] at hs; subst hs; exact h
theorem oneM_len (L : List Int) : (oneM L).length ≤ 1 := by cases L <;> simp [oneM]
theorem hasI_false {L : List Int} {id : Int} (h : id ∉ L) : hasI L id = false := by
  cases hq : hasI L id with
  | false => rfl
  | true => unfold hasI at hq; simp at hq; exact absurd hq h
theorem join_next {L : List Int} {id : Int} (h : L ≠ []) (h1 : 1 ≤ id) (hn : id ∉ L) (hl : L.length < 64) : joinA (oneM L) 1 lastW id = ((1, false, 0), 1, oneM (L ++ [id])) := by
  rw [oneM_of h, oneM_of (by simp)]
  unfold joinA
  rw [if_neg (by omega)]
  have : ([⟨1, lastW, L⟩] : List Sk).any (holdsA id) = false := by simp [holdsA, hasI_false hn]
  rw [this, if_neg (by decide), if_neg (by simp [cntA]; omega)]
  simp [wantIsA, sw_refl]
theorem filter_ne {L : List Int} (hd : L.Nodup) {p : Nat} {id : Int} (h : L[p]? = some id) : (L.filter fun x => !(x == id)) = L.take p ++ L.drop (p + 1) := by
  have hp := (List.getElem?_eq_some_iff.1 h).1
  have hL : L = L.take p ++ id :: L.drop (p + 1) := by
    have hv := (List.getElem?_eq_some_iff.1 h).2
    rw [← hv, ← List.drop_eq_getElem_cons hp, List.take_append_drop]
  have hd' := hd
  rw [hL, List.nodup_append] at hd'
  obtain ⟨_, h2, h3⟩ := hd'
  rw [List.nodup_cons] at h2
  have e1 : (L.take p).filter (fun x => !(x == id)) = L.take p := by
    rw [List.filter_eq_self]; intro x hx
    have := h3 x hx id (by simp)
    simpa using this
  have e2 : (L.drop (p + 1)).filter (fun x => !(x == id)) = L.drop (p + 1) := by
    rw [List.filter_eq_self]; intro x hx
    have : x ≠ id := fun e => h2.1 (by rw [← e]; exact hx)
    simpa using this
  conv => lhs; rw [hL]
  rw [List.filter_append, List.filter_cons, e1, e2]
  simp
theorem leave_one {L : List Int} (hd : L.Nodup) {p : Nat} {id : Int} (h : L[p]? = some id) : leaveA (oneM L) id = ((1, (((L.take p ++ L.drop (p + 1)).length : Int) == 0), true), oneM (L.take p ++ L.drop (p + 1))) := by
  have hm : id ∈ L := List.mem_of_getElem? h
  have hne : L ≠ [] := fun e => by rw [e] at hm; simp at hm
  rw [oneM_of hne]
  unfold leaveA
  have hh : holdsA id ⟨1, lastW, L⟩ = true := by unfold holdsA hasI; simpa using hm
  rw [List.findIdx?_cons, hh]
  simp only [if_true, List.getElem?_cons_zero]
  rw [filter_ne hd h]
  cases hq : L.take p ++ L.drop (p + 1) with
  | nil => simp [oneM]
  | cons x r => rw [if_neg (by simp)]; simp [oneM]; omega
theorem of_one {L : List Int} {id : Int} (h : id ∉ L) : ofA (oneM L) id = 0 := by
  cases L with
  | nil => rfl
  | cons x r => unfold oneM ofA; simp [holdsA, hasI_false h]
theorem mem_one {L : List Int} (h : L ≠ []) : memA (oneM L) 1 = L := by rw [oneM_of h]; unfold memA; simp [numA]
theorem len_one (L : List Int) : ((oneM L).length : Int) = min (L.length : Int) 1 := by
  cases L with
  | nil => rfl
  | cons x r => simp [oneM]; omega
def idsL (l : Nat) : List Int := (List.range l).map fun (j : Nat) => (j : Int) + 1
theorem idsL_len (l : Nat) : (idsL l).length = l := by simp [idsL]
theorem idsL_succ (l : Nat) : idsL (l + 1) = idsL l ++ [(l : Int) + 1] := by unfold idsL; rw [List.range_succ, List.map_append]; rfl
theorem idsL_mem {l : Nat} {z : Int} (h : z ∈ idsL l) : z ≤ l := by
  unfold idsL at h
  obtain ⟨j, hj, rfl⟩ := List.mem_map.1 h
  have := List.mem_range.1 hj
  omega
theorem idsL_nodup (l : Nat) : (idsL l).Nodup := by
  induction l with
  | zero => simp [idsL]
  | succ l ih =>
    rw [idsL_succ, List.nodup_append]
    refine ⟨ih, by simp, fun a ha b hb e => ?_⟩
    have := idsL_mem ha
    simp at hb
    omega
theorem join_ids (l : Nat) (hl : l < 64) (M : List Sk) (last : Int) (h : (l = 0 ∧ last = 0 ∧ M = []) ∨ (0 < l ∧ last = 1 ∧ M = oneM (idsL l))) : joinA M last lastW ((l : Int) + 1) = ((1, (((l : Int) + 1) == 1), 0), 1, oneM (idsL (l + 1))) := by
  rcases h with ⟨rfl, rfl, rfl⟩ | ⟨h0, rfl, rfl⟩
  · have := sw_first lastW
    simp only [Int.ofNat_zero, Int.zero_add]
    first | (rw [this]; rfl) | (rw [show ((0 : Nat) : Int) + 1 = 1 by rfl, this]; rfl)
  · rw [join_next (fun e => by have := idsL_len l; rw [e] at this; simp at this; omega) (by omega) (fun hm => by have := idsL_mem hm; omega) (by rw [idsL_len]; exact hl), idsL_succ]
    have : (((l : Int) + 1) == 1) = false := by rw [beq_eq_false_iff_ne]; omega
    rw [this]
theorem join_end : joinA [] 1 lastW 1 = ((2, true, 0), 2, [⟨2, lastW, [1]⟩]) := by unfold joinA; simp [cntA]

set_option maxHeartbeats 16000000 in
set_option maxRecDepth 100000 in
theorem shareLast_walk (w : World) (nq : Int) (_hn : (Lit.int .i64 nq).wf = true) (oa : Option Addr) (ol oc : Nat) (ys : List Int) (hs : Slc (encI .i64) 1 w oa ol ys) (_hg : ∀ z ∈ ys, (Lit.int .i64 z).wf = true) :
    Calls Try.prog 7 #[.int .i64 nq, .slice oa ol oc] w fun e w' => e = .returned (.bool true) ∧ Ext [] w w' := by
  clear _hn _hg
  have hlb := lowI_bd nq 60 (by omega)
  have hLow := low_any nq 60 (by omega) (by omega)
  obtain ⟨k, hk⟩ : ∃ k : Nat, lowI nq 60 = (k : Int) - 1 := ⟨(1 + lowI nq 60).toNat, by omega⟩
  rw [hk] at hLow hlb
  have hk1 : 1 ≤ k := by omega
  have hk60 : k ≤ 60 := by omega
  have HLOW := Lib.hid hLow; have HS := Lib.hid hs
  clear hLow hs hlb hk
  by_cases h100 : 100 < ol
  · have d0 : decide (100 < (ol : Int)) = true := decide_eq_true (by omega)
    go_enter Try.func7, Try.ntmps7
    go_wp2_with fail
    refine (HLOW.out _).mono ?_
    rintro e w1 ⟨rfl, rfl⟩
    go_wp2_with fail
    refine (awakeP_any _).mono ?_
    rintro e w1 ⟨rfl, e1⟩
    go_wp2_with fail
    go_ret
    exact ⟨rfl, e1⟩
  have d0 : decide (100 < (ol : Int)) = false := decide_eq_false (by omega)
  have hol : ol ≤ 100 := by omega
  clear h100
  go_enter Try.func7, Try.ntmps7
  go_wp2_with fail
  refine (HLOW.out _).mono ?_
  rintro e w1 ⟨rfl, rfl⟩
  go_wp2_with fail
  rw [show (1 : Int) + ((k : Int) - 1) = k by omega]
  refine (sh_new w).mono ?_
  rintro e w1 ⟨rfl, h1, e1⟩
  have o1 := Own.start e1 (S := [w.heap.size]) (by simp)
  obtain ⟨b, hb⟩ : ∃ b, w.heap.size = b := ⟨_, rfl⟩
  rw [hb] at h1 o1
  clear e1 HLOW
  go_wp2_with fail
  go_loopw [7, 8] (fun inv iv wr => ∃ (l : Nat) (a : Option Addr) (c : Nat) (S : List Nat) (last : Int) (M : List Sk), l ≤ k ∧ iv = .int .i64 ((l : Int) + 1) ∧ inv = .slice a l c ∧ RI wr (.slice a l c) (idsL l) ∧ SH wr b S last M ∧ Own w wr S ∧ Hid (∀ q, (Value.slice a l c).ownBlock = some q → q ∉ S ∧ w.heap.size ≤ q) ∧ Hid ((l = 0 ∧ last = 0 ∧ M = []) ∨ (0 < l ∧ last = 1 ∧ M = oneM (idsL l)))) (fun _ iv _ => k + 1 - (intOf iv).toNat)
  case atStart => exact ⟨0, none, 0, _, 0, [], Nat.zero_le _, rfl, rfl, Rw.nil _, h1, o1, fun q hq => by simp [Value.ownBlock] at hq, .inl ⟨rfl, rfl, rfl⟩⟩
  case round =>
    obtain ⟨l, a, c, S, last, M, hlk, rfl, rfl, hR, hw, ow, hfr, hst⟩ := hrel
    clear h1 o1 hb
    by_cases hl : l < k
    · have d1 : decide ((l : Int) + 1 ≤ (k : Int)) = true := decide_eq_true (by omega)
      have d1' : decide (l < k) = true := decide_eq_true hl
      have hlast : 0 ≤ last ∧ last < 1000000 ∧ M.length < 1000 ∧ MemOk M := by
        rcases hst.out with ⟨_, rfl, rfl⟩ | ⟨_, rfl, rfl⟩
        · exact ⟨by omega, by omega, by simp, fun s hs => by simp at hs⟩
        · exact ⟨by omega, by omega, by have := oneM_len (idsL l); omega, oneM_ok (by rw [idsL_len]; omega)⟩
      have hj := sh_join b S last hlast.1 hlast.2.1 M lastW ((l : Int) + 1) hlast.2.2.1 hlast.2.2.2 wr hw
      unfold JoinP at hj
      rw [join_ids l (by omega) M last hst.out] at hj
      have hj : Calls Try.prog 25 #[.pointer (some ⟨b, 0, none⟩), .agg #[.string ⟨#[]⟩, .string ⟨#[]⟩, .bool false, .string ⟨#[]⟩, .string ⟨#[120]⟩], .int .i64 ((l : Int) + 1)] wr fun e w' => e = .returned (.tuple #[.int .i64 1, .bool (((l : Int) + 1) == 1), .int .i64 0]) ∧ Chg (fun w' S' => SH w' b S' 1 (oneM (idsL (l + 1)))) S wr w' := hj
      have HJ := Lib.hid hj; have HR := Lib.hid hR; have HOW := Lib.hid ow; have HWL := Lib.hid hw.lt
      have hsz := ow.ext.size
      clear hj hlast hst hR hw ow
      go_wp2_with fail
      refine HJ.out.mono ?_
      rintro e w2 ⟨rfl, S2, h2, x2, g2⟩
      have o2 := HOW.out.step x2 g2
      have hR2 := HR.out.keep x2 (fun q hq hm => (hfr.out q hq).1 hm)
      have hlen : LenIs (idsL l) [(l : Int) + 1] (l + 1) := by unfold LenIs; rw [idsL_len]; rfl
      have h63 : l + 1 ≤ 1000000 := by omega
      have hsl := Sl.new (enc := encI .i64) w2 ((l : Int) + 1) 3
      have hrw := hR2.alloc (.cells (encI .i64 ((l : Int) + 1)).toArray 3 (0, 0))
      have hrl := HR.out.lt
      have hn2 : ∀ q, (Value.slice a l c).ownBlock = some q → q ∉ S2 := fun q hq hm => by
        rcases g2 q hm with h8 | h8
        · exact (hfr.out q hq).1 h8
        · have := hrl q hq; omega
      have H2 := Lib.hid h2; have O2 := Lib.hid o2; have HN2 := Lib.hid hn2; have HL2 := Lib.hid h2.lt
      have hs2 := x2.size
      clear hR2 h2 o2 x2 g2 hn2 hrl HJ HR HOW
      go_wp2_with (at_builtin; refine wpList_appN tyI encI_ok (by rfl) _ _ (by rfl) hrw (by rfl) hsl (by rfl) hlen h63 ?_)
      intro a5 c5 w5 hr5 hS5 hg5
      rw [← idsL_succ] at hr5
      have hS6 := hS5 (Value.slice a l c).ownBlock.toList (by simp +contextual)
      have e6 : Ext (Value.slice a l c).ownBlock.toList w2 w5 := (((Ext.refl [] _).alloc _).mono (by simp)).trans hS6 (fun q hq => .inl hq)
      have h5 := H2.out.keep e6 (fun q hq hm => HN2.out q (by simpa using hm) hq)
      have o5 : Own w w5 S2 := ⟨O2.out.ext.fresh e6 (fun q hq => (hfr.out q (by simpa using hq)).2), O2.out.ge⟩
      have hg6 : Hid (∀ q, (Value.slice a5 (l + 1) c5).ownBlock = some q → q ∉ S2 ∧ w.heap.size ≤ q) := fun q hq => (hg5 q hq).elim (fun h => ⟨HN2.out q h, (hfr.out q h).2⟩) (fun h => by
        try simp only [World.size_alloc] at h
        exact ⟨fun hm => by have := HL2.out q hm; omega, by omega⟩)
      have H5 := Lib.hid h5; have O5 := Lib.hid o5; have HR5 := Lib.hid hr5
      clear hS5 hS6 hg5 e6 h5 o5 hr5 hsl hrw hlen hfr H2 O2 HN2
      go_wp2_with fail
      exact ⟨⟨l + 1, a5, c5, S2, 1, _, by omega, by go_num, rfl, HR5.out, H5.out, O5.out, hg6, .inr ⟨by omega, rfl, rfl⟩⟩, by simp [intOf]; omega⟩
    · have d1 : decide ((l : Int) + 1 ≤ (k : Int)) = false := decide_eq_false (by omega)
      have hlk2 : l = k := by omega
      obtain ⟨hlast, hM⟩ : last = 1 ∧ M = oneM (idsL l) := by
        rcases hst.out with ⟨h8, _, _⟩ | ⟨_, h8, h9⟩
        · omega
        · exact ⟨h8, h9⟩
      rw [hlast, hM] at hw
      have hnd := idsL_nodup l
      have hll := idsL_len l
      generalize idsL l = L0 at hw hR hnd hll
      have hlk3 := hlk2.symm
      clear hlk2
      subst hlk3
      have HW := Lib.hid hw; have HR := Lib.hid hR; have HOW := Lib.hid ow; have HND := Lib.hid hnd
      clear hw hR ow hst hlast hM hnd
      generalize hwo : wr = wb at *
      clear hwo
      go_wp2_with fail
      go_loopw [7, 12] (fun inv jv wr => ∃ (j l2 : Nat) (a : Option Addr) (c : Nat) (S : List Nat) (L : List Int), j + l2 = k ∧ jv = .int .i64 j ∧ inv = .slice a l2 c ∧ RI wr (.slice a l2 c) L ∧ SH wr b S 1 (oneM L) ∧ Own w wr S ∧ Hid (∀ q, (Value.slice a l2 c).ownBlock = some q → q ∉ S ∧ w.heap.size ≤ q) ∧ Hid L.Nodup ∧ Hid (l2 = L.length)) (fun _ jv _ => k - (intOf jv).toNat)
      case atStart => exact ⟨0, k, a, c, S, L0, by omega, rfl, rfl, HR.out, HW.out, HOW.out, hfr.out, HND.out, hll.symm⟩
      case round =>
        clear HW HR HOW HND hfr
        obtain ⟨j, l2, a, c, S, L, hjl, rfl, rfl, hR, hw, ow, hfr, hnd, hln⟩ := hrel
        by_cases hl2 : 0 < l2
        · have d2 : decide (0 < l2) = true := decide_eq_true hl2
          have HR := Lib.hid hR; have HW := Lib.hid hw; have HOW := Lib.hid ow
          clear hR hw ow
          go_upto_if 68 with fail
          go_cut [13] (fun s13 wx => ∃ p : Nat, p < l2 ∧ s13 = .int .i64 p ∧ Ext [] wr wx)
          case first =>
            by_cases hjo : j < ol
            · have d3 : decide (j < ol) = true := decide_eq_true hjo
              obtain ⟨z, hz⟩ : ∃ z, ys[j]? = some z := ⟨_, List.getElem?_eq_getElem (by rw [HS.out.1]; exact hjo)⟩
              have hza : ∃ ab ao, oa = some ⟨ab, ao, none⟩ ∧ ab < w.heap.size ∧ w.cell? ⟨ab, ao + j, none⟩ = some (.int .i64 z) := by
                obtain ⟨ab, ao, h1, h2, h3⟩ := HS.out.2 (by omega)
                have := h3 j z hz 0 _ rfl
                rw [Nat.mul_one, Nat.add_zero] at this
                exact ⟨ab, ao, h1, h2, this⟩
              obtain ⟨ab, ao, rfl, hab, hz0⟩ := hza
              have hz1 := (HOW.out.ext.cell (p := ⟨ab, ao + j, none⟩) hab (by simp)).trans hz0
              have b1 : (0 : Int) ≤ (j : Int) := by omega
              have b2 : (j : Int) < (ol : Int) := by omega
              have hb2 := lowI_bd z l2 (by omega)
              have hLow := low_any z l2 (by omega) (by omega)
              obtain ⟨p, hp⟩ : ∃ p : Nat, lowI z l2 = (p : Int) := ⟨(lowI z l2).toNat, by omega⟩
              rw [hp] at hLow hb2
              have HLOW := Lib.hid hLow
              have hpl : p < l2 := by omega
              clear hLow hp hz hz0 hab hb2
              go_wp2_with fail
              refine (HLOW.out _).mono ?_
              rintro e w3 ⟨rfl, rfl⟩
              go_wp2_with fail
              go_meet
              exact ⟨p, hpl, rfl, Ext.refl _ _⟩
            · have d3 : decide (j < ol) = false := decide_eq_false hjo
              go_wp2_with fail
              go_meet
              exact ⟨0, hl2, rfl, Ext.refl _ _⟩
          case rest =>
            obtain ⟨p, hpl, rfl, ec⟩ := hcut
            have hLne : L ≠ [] := fun e => by have := hln.out; rw [e] at this; simp at this; omega
            have hL60 : L.length ≤ 60 := by have := hln.out; omega
            have hmem := fun W (hW : SH W b S 1 (oneM L)) => sh_members b S 1 (oneM L) 1 (by have := oneM_len L; omega) (oneM_ok (by omega)) W hW
            unfold MemP at hmem
            rw [mem_one hLne, ← hln.out] at hmem
            have hint := fun W v v' (h : RI W v L) (h' : RI W v' L) => ints_any v v' L L (by omega) (by omega) W h h'
            rw [show decide (L = L) = true from decide_eq_true rfl] at hint
            obtain ⟨id, hid⟩ : ∃ id, L[p]? = some id := ⟨_, List.getElem?_eq_getElem (by rw [← hln.out]; exact hpl)⟩
            have hlv := fun W (hW : SH W b S 1 (oneM L)) => sh_leave b S 1 (oneM L) id (by have := oneM_len L; omega) (oneM_ok (by omega)) W hW
            unfold LeaveP at hlv
            rw [leave_one hnd.out hid] at hlv
            have hnd2 : (L.take p ++ L.drop (p + 1)).Nodup := by rw [← filter_ne hnd.out hid]; exact hnd.out.filter _
            have hid2 : id ∉ L.take p ++ L.drop (p + 1) := by rw [← filter_ne hnd.out hid]; simp
            have hl3 : l2 - 1 = (L.take p ++ L.drop (p + 1)).length := by rw [List.length_append, List.length_take, List.length_drop]; have := hln.out; omega
            have hlA : LenIs ([] : List Int) (L.take p) p := by unfold LenIs; rw [List.length_take]; have := hln.out; simp; omega
            have hlB : LenIs (L.take p) (L.drop (p + 1)) (l2 - 1) := by unfold LenIs; rw [List.length_take, List.length_drop]; have := hln.out; omega
            generalize hL' : L.take p ++ L.drop (p + 1) = L' at hlv hnd2 hid2 hl3
            have HLE := Lib.hid hL'
            obtain ⟨l3, hl3e⟩ : ∃ l3, l3 = l2 - 1 := ⟨_, rfl⟩
            rw [← hl3e] at hl3 hlB
            rw [← hl3] at hlv
            have hof := fun S' W (hW : SH W b S' 1 (oneM L')) => sh_of b S' 1 (oneM L') id (by have := oneM_len L'; omega) (oneM_ok (by omega)) W hW
            rw [of_one hid2] at hof
            have hle2 := fun S' W (hW : SH W b S' 1 (oneM L')) => sh_len b S' 1 (oneM L') W hW
            rw [len_one L', ← hl3] at hle2
            have hw := HW.out.keep0 ec; have hR := HR.out.keep ec (by simp); have ow := HOW.out.quiet ec
            obtain ⟨ig, rfl, hig⟩ := hR.addr hl2
            have hcap := hR.cap_le
            have c0 := hR.cell encI_ok.len hid 0 (by omega)
            simp only [encI, Nat.add_zero, Nat.mul_one, List.getElem?_cons_zero] at c0
            have b1 : (0 : Int) ≤ (p : Int) := by omega
            have b2 : (p : Int) < (l2 : Int) := by omega
            have hl36 : l3 ≤ 1000000 := by omega
            have HL3E := Lib.hid hl3e
            clear hl3e
            have HMEM := Lib.hid hmem; have HINT := Lib.hid hint; have HLV := Lib.hid hlv; have HND2 := Lib.hid hnd2; have HL3 := Lib.hid hl3; have HLA := Lib.hid hlA; have HLB := Lib.hid hlB; have HOF := Lib.hid hof; have HLE2 := Lib.hid hle2
            have HW2 := Lib.hid hw; have HR2 := Lib.hid hR; have HOW2 := Lib.hid ow; have HWL := Lib.hid hw.lt
            clear hmem hint hlv hnd2 hid2 hl3 hlA hlB hof hle2 hw hR ow HW HR HOW hL' hid hnd hLne hL60
            go_wp2_with fail
            refine (HMEM.out _ HW2.out).mono ?_
            rintro e w3 ⟨ma, mc, rfl, hrm, e3, hfm⟩
            have hR3 := HR2.out.keep e3 (by simp)
            have hi3 := HINT.out w3 _ _ hrm hR3
            have HI3 := Lib.hid hi3; have HR3 := Lib.hid hR3
            clear hrm hfm hR3 hi3
            go_wp2_with fail
            refine HI3.out.mono ?_
            rintro e w4 ⟨rfl, e4⟩
            have x4 := e3.trans e4 (by simp)
            have hw4 := HW2.out.keep0 x4; have hR4 := HR3.out.keep e4 (by simp); have ow4 := HOW2.out.quiet x4
            have c4 := (x4.cell (p := ⟨ig, p, none⟩) hig (by simp)).trans c0
            have hig4 : ig < w4.heap.size := Nat.lt_of_lt_of_le hig x4.size
            have HW4 := Lib.hid hw4; have HR4 := Lib.hid hR4; have HO4 := Lib.hid ow4
            have hsz4 := x4.size
            clear hw4 hR4 ow4 e3 e4 x4 c0 HI3 HR3 HW2 HR2 HOW2 HMEM HINT hig
            go_wp2_with fail
            have hsa := HR4.out.drew.takeSl encI_ok.len (i := p) (by omega) c
            have hsb := HR4.out.drew.tailSl encI_ok.len (i := p + 1) (by omega)
            rw [Nat.mul_one] at hsb
            have f1 : (p : Int) ≤ (c : Int) := by omega
            have f2 : (p : Int) + 1 ≤ (l2 : Int) := by omega
            have f3 : (0 : Int) ≤ (p : Int) + 1 := by omega
            have f4 : ((p : Int) + 1).toNat = p + 1 := by omega
            have hp6 : p ≤ 1000000 := by omega
            have HSA := Lib.hid hsa; have HSB := Lib.hid hsb
            clear hsa hsb
            have f5 := wn1 hp6
            refine start_ (n := 10) (S := fun w' => True) (ds := []) #[false, false, false, false, false, false, false, false, false, false] (by kernel_rfl) rfl rfl trivial (fun hHeld => ?_)
            refine pure_ (i := 0) (N := some 85) (v := ?_) (a' := ?_) #[true, false, false, false, false, false, false, false, false, false] rfl rfl (by kernel_rfl) (fun _ _ _ h => h) (Or.inl ⟨by rfl, ?_⟩) ?_ ?_
            rotate_left
            · intro w'
              go_simp
              with_reducible rfl
            rotate_left
            · simp only [Act.put, List.setIfInBounds_toArray, List.set_cons_zero, List.set_cons_succ, i64_w, i32_w]
              rfl
            refine pure_ (i := 1) (N := some 86) (v := ?_) (a' := ?_) #[true, true, false, false, false, false, false, false, false, false] rfl rfl (by kernel_rfl) (fun _ _ _ h => h) (Or.inl ⟨by rfl, ?_⟩) ?_ ?_
            rotate_left
            · intro w'
              go_simp
              with_reducible rfl
            rotate_left
            · simp only [Act.put, List.setIfInBounds_toArray, List.set_cons_zero, List.set_cons_succ, i64_w, i32_w]
              rfl
            refine pure_ (i := 2) (N := some 87) (v := ?_) (a' := ?_) #[true, true, true, false, false, false, false, false, false, false] rfl rfl (by kernel_rfl) (fun _ _ _ h => h) (Or.inl ⟨by rfl, ?_⟩) ?_ ?_
            rotate_left
            · intro w'
              go_simp
              with_reducible rfl
            rotate_left
            · simp only [Act.put, List.setIfInBounds_toArray, List.set_cons_zero, List.set_cons_succ, i64_w, i32_w]
              rfl
            refine pure_ (i := 4) (N := some 89) (v := ?_) (a' := ?_) #[true, true, true, false, true, false, false, false, false, false] rfl rfl (by kernel_rfl) (fun _ _ _ h => h) (Or.inl ⟨by rfl, ?_⟩) ?_ ?_
            rotate_left
            · intro w'
              go_simp
              with_reducible rfl
            rotate_left
            · simp only [Act.put, List.setIfInBounds_toArray, List.set_cons_zero, List.set_cons_succ, i64_w, i32_w]
              rfl
            refine pure_ (i := 5) (N := some 90) (v := ?_) (a' := ?_) #[true, true, true, false, true, true, false, false, false, false] rfl rfl (by kernel_rfl) (fun _ _ _ h => h) (Or.inl ⟨by rfl, ?_⟩) ?_ ?_
            rotate_left
            · intro w'
              go_simp
              with_reducible rfl
            rotate_left
            · simp only [Act.put, List.setIfInBounds_toArray, List.set_cons_zero, List.set_cons_succ, i64_w, i32_w]
              rfl
            refine pure_ (i := 6) (N := some 91) (v := ?_) (a' := ?_) #[true, true, true, false, true, true, true, false, false, false] rfl rfl (by kernel_rfl) (fun _ _ _ h => h) (Or.inl ⟨by rfl, ?_⟩) ?_ ?_
            rotate_left
            · intro w'
              go_simp
              with_reducible rfl
            rotate_left
            · simp only [Act.put, List.setIfInBounds_toArray, List.set_cons_zero, List.set_cons_succ, i64_w, i32_w]
              rfl
            refine pure_ (i := 7) (N := some 92) (v := ?_) (a' := ?_) #[true, true, true, false, true, true, true, true, false, false] rfl rfl (by kernel_rfl) (fun _ _ _ h => h) (Or.inl ⟨by rfl, ?_⟩) ?_ ?_
            rotate_left
            · intro w'
              go_simp
              with_reducible rfl
            rotate_left
            · simp only [Act.put, List.setIfInBounds_toArray, List.set_cons_zero, List.set_cons_succ, i64_w, i32_w]
              rfl
            refine one_ (i := 3) (N := some 88) #[true, true, true, true, true, true, true, true, false, false] rfl rfl (by kernel_rfl) (by decide) (fun K hK => ?_)
            refine step_appN tyI encI_ok (by rfl) _ _ (by rfl) (Rw.nil w4.drew) (by rfl) HSA.out (by rfl) HLA.out hp6 ?_
            intro a1 c1 w5 hr1 hS1 hg1
            have he1 : Ext [] w4 w5 := Ext.of_drew (hS1 [] (by simp [Value.ownBlock]))
            have hg1' : ∀ q, (Value.slice a1 p c1).ownBlock = some q → w4.heap.size ≤ q := fun q hq => (hg1 q hq).elim (fun h => by simp [Value.ownBlock] at h) (fun h => h)
            rw [List.nil_append] at hr1
            clear hS1 hg1
            refine hK.out _ _ trivial (fun hHeld => ?_)
            clear hK K
            refine norm_ (a' := ?_) ?_ ?_
            rotate_left
            · show Act.put _ (some 88) _ = _
              simp only [Act.put, List.setIfInBounds_toArray, List.set_cons_zero, List.set_cons_succ, i64_w, i32_w]
              rfl
            refine one_ (i := 8) (N := some 93) #[true, true, true, true, true, true, true, true, true, false] rfl rfl (by kernel_rfl) (by decide) (fun K hK => ?_)
            refine step_appN tyI encI_ok (by rfl) _ _ (by rfl) hr1 (by rfl) (HSB.out.keep (Ext.of_drew_left he1) (by simp)) (by rfl) HLB.out hl36 ?_
            intro a2 c2 w6 hr2 hS2 hg2
            have he2 : Ext [] w4 w6 := fresh_app he1 hg1' hS2
            refine hK.out _ _ trivial (fun hHeld => ?_)
            clear hK K
            refine norm_ (a' := ?_) ?_ ?_
            rotate_left
            · show Act.put _ (some 93) _ = _
              simp only [Act.put, List.setIfInBounds_toArray, List.set_cons_zero, List.set_cons_succ, i64_w, i32_w]
              rfl
            refine pure_ (i := 9) (N := some 7) (v := ?_) (a' := ?_) #[true, true, true, true, true, true, true, true, true, true] rfl rfl (by kernel_rfl) (fun _ _ _ h => h) (Or.inl ⟨by rfl, ?_⟩) ?_ ?_
            rotate_left
            · intro w'
              go_simp
              with_reducible rfl
            rotate_left
            · simp only [Act.put, List.setIfInBounds_toArray, List.set_cons_zero, List.set_cons_succ, i64_w, i32_w]
              rfl
            refine done_ (by kernel_rfl) ?_
            rw [HLE.out] at hr2
            have hw6 := HW4.out.keep0 he2; have ow6 := HO4.out.quiet he2
            have hfr6 : ∀ q, (Value.slice a2 l3 c2).ownBlock = some q → w4.heap.size ≤ q := fun q hq => (hg2 q hq).elim (hg1' q) (fun h => Nat.le_trans he1.size h)
            have hS4 : ∀ q ∈ S, q < w4.heap.size := HW4.out.lt
            have hge4 : w.heap.size ≤ w4.heap.size := HO4.out.ext.size
            have HW6 := Lib.hid hw6; have HO6 := Lib.hid ow6; have HR6 := Lib.hid hr2; have HFR6 := Lib.hid hfr6; have HS4 := Lib.hid hS4; have HHE := Lib.hid he2
            clear f1 f2 f3 f4 f5 hr1 hr2 hS2 hg2 hg1' he1 hw6 ow6 hfr6 hS4 he2 HSA HSB HLA HLB c4 HW4 HO4 HR4
            go_wp2_with fail
            all_goals
              refine (HLV.out w6 HW6.out).mono ?_
              rintro e w7 ⟨rfl, S7, h7, x7, g7⟩
              have o7 := HO6.out.step x7 g7
              have hsz6 := HHE.out.size
              have hR7 := HR6.out.keep x7 (fun q hq hm => by have h8 := HFR6.out q hq; have h9 := HS4.out q hm; omega)
              have hn7 : ∀ q, (Value.slice a2 l3 c2).ownBlock = some q → q ∉ S7 ∧ w.heap.size ≤ q := fun q hq => by
                have h8 := HFR6.out q hq
                refine ⟨fun hm => ?_, by omega⟩
                rcases g7 q hm with h9 | h9
                · have := HS4.out q h9; omega
                · have := HR6.out.lt q hq; omega
              have H7 := Lib.hid h7; have O7 := Lib.hid o7; have HR7 := Lib.hid hR7; have HN7 := Lib.hid hn7
              clear h7 x7 g7 o7 hR7 hn7 HW6 HO6 HR6 HFR6 HS4 HHE HLV
              go_wp2_with fail
              refine (HOF.out S7 w7 H7.out).mono ?_
              rintro e w8 ⟨rfl, e8⟩
              have h8 := H7.out.keep0 e8
              have H8 := Lib.hid h8
              clear h8
              go_wp2_with fail
              refine (HLE2.out S7 w8 H8.out).mono ?_
              rintro e w9 ⟨rfl, rfl⟩
              go_wp2_with fail
              exact ⟨⟨j + 1, l3, a2, c2, S7, L', by have := HL3E.out; omega, by go_num, rfl, HR7.out.keep e8 (by simp), H8.out, O7.out.quiet e8, HN7.out, HND2.out, HL3.out⟩, by simp [intOf]; omega⟩
        · have d2 : decide (0 < l2) = false := decide_eq_false hl2
          have hL0 : L = [] := List.length_eq_zero_iff.1 (by have := hln.out; omega)
          rw [hL0] at hw
          have hj := sh_join b S 1 (by omega) (by omega) [] lastW 1 (by simp) (by intro s hs; simp at hs) wr hw
          unfold JoinP at hj
          rw [join_end] at hj
          have hj : Calls Try.prog 25 #[.pointer (some ⟨b, 0, none⟩), .agg #[.string ⟨#[]⟩, .string ⟨#[]⟩, .bool false, .string ⟨#[]⟩, .string ⟨#[120]⟩], .int .i64 1] wr fun e w' => e = .returned (.tuple #[.int .i64 2, .bool true, .int .i64 0]) ∧ Chg (fun w' S' => SH w' b S' 2 [⟨2, lastW, [1]⟩]) S wr w' := hj
          have HJ := Lib.hid hj; have HOW := Lib.hid ow
          clear hj hw ow hR hL0 hfr hnd hln
          go_wp2_with fail
          refine HJ.out.mono ?_
          rintro e w2 ⟨rfl, S2, h2, x2, g2⟩
          have o2 := HOW.out.step x2 g2
          clear h2 x2 g2
          go_wp2_with fail
          refine (awakeP_any _).mono ?_
          rintro e w3 ⟨rfl, e3⟩
          go_wp2_with fail
          go_ret
          exact ⟨rfl, o2.ext.trans e3 (by simp)⟩
end Go.Proofs.Ytkbjpackijdnkaa
