/- The document's signals: Under, by contract. -/
import Derived.Test.YtmmhpjodnceipaaRefMake
import Derived.Test.YtmmhpjodnceipaaStructs
import Derived.Test.YtmmhpjodnceipaaSgAbort
namespace Go.Proofs.Ytmmhpjodnceipaa
open Go.RowKit Go.Proofs.YtmmhpjodnceipaaW.PrintLast
set_option linter.unusedVariables false
set_option linter.unusedSimpArgs false

theorem encB_ok : EncOk encB 1 := ⟨fun _ => rfl, fun o u hu => by simp [encB] at hu; subst hu; rfl⟩
abbrev RB := @Rw Bool encB 1 4

theorem encB_flat (n : Nat) : (madeCells #[.bool false] (n * 1)).toList = (List.replicate n false).flatMap encB := by
  have h1 : (List.replicate n false).flatMap encB = List.replicate n (Value.bool false) := by
    induction n with
    | zero => rfl
    | succ n ih => rw [List.replicate_succ, List.flatMap_cons, ih, List.replicate_succ]; rfl
  rw [h1, Nat.mul_one]
  apply List.ext_getElem?
  intro i
  by_cases h : i < n
  · simp [madeCells, h, Nat.mod_one]
  · simp [madeCells, h]

/-- make([]bool, n), n a variable. -/
theorem wpList_mkB (w : World) {ops : Array Oper} {rest : List Oper} {o : Oper} {a : Act} {Q : Exit → Act → World → Prop}
    (hg : o.guard = none) (l c : Operand) (t : TypeId) (hop : o.op = Op.makeSlice t l c)
    (i : TypeInfo) (h1 : Try.prog.underlying t = some (.slice 4)) (h2 : Try.prog.info? 4 = some i) (h3 : i.zero = some (.bool false)) (h4 : i.size = 1) (h5 : i.bytes = 1)
    (kl kc : IntKind) (C : Int) (n : Nat) (hl : a.eval l = .int kl C) (hc : a.eval c = .int kc C) (hC : C = (n : Int)) (b2 : n ≤ 1000000)
    (hK : ∀ w', RB w' (.slice (some ⟨w.heap.size, 0, none⟩) n n) (List.replicate n false) → Ext [] w w' → wpList Try.prog ops Q rest (a.put o.dst (.slice (some ⟨w.heap.size, 0, none⟩) n n)) w') :
    wpList Try.prog ops Q (o :: rest) a w := by
  refine wpList_make_full w hg l c t hop 0 _ i _ 1 h1 h2 h3 h4 kl kc C C n hl hc hC hC (by rw [h5]; omega) (by unfold maxLen; omega) (Nat.zero_le _) ?_
  intro w' hr hgr
  refine hK w' ?_ ((Ext.refl [] w).grown hgr (by simp))
  unfold RB Rw
  rw [List.length_replicate, ← encB_flat]
  exact hr

/-- Which are in so far; k's own mark is c. -/
def inR (n : Nat) (U : List Int) (k : Nat) (c : Bool) : List Bool := (List.range (n + 1)).map fun z => if z = k then c else hasI U z
theorem inR_len (n : Nat) (U : List Int) (k : Nat) (c : Bool) : (inR n U k c).length = n + 1 := by simp [inR]
theorem inR_at {n : Nat} {U : List Int} {k : Nat} {c : Bool} {z : Nat} (h : z < n + 1) : (inR n U k c)[z]? = some (if z = k then c else hasI U z) := by
  unfold inR; rw [List.getElem?_map, List.getElem?_range h]; rfl
theorem inR_set (n : Nat) (U : List Int) (k : Nat) (c d : Bool) : (inR n U k c).set k d = inR n U k d := by
  apply List.ext_getElem?
  intro i
  rw [List.getElem?_set, inR_len]
  by_cases hi : i < n + 1
  · rw [inR_at hi, inR_at hi]
    by_cases hk : k = i
    · subst hk; simp [hi]
    · rw [if_neg hk, if_neg (Ne.symm hk), if_neg (Ne.symm hk)]
  · rw [List.getElem?_eq_none (by rw [inR_len]; omega), List.getElem?_eq_none (by rw [inR_len]; omega)]
    by_cases hk : k = i
    · subst hk; rw [if_pos rfl, if_neg hi]
    · rw [if_neg hk]
theorem inR_congr {n : Nat} {U U' : List Int} {k k' : Nat} {c c' : Bool} (h : ∀ z, z < n + 1 → (if z = k then c else hasI U z) = (if z = k' then c' else hasI U' z)) : inR n U k c = inR n U' k' c' := by
  apply List.ext_getElem?
  intro i
  by_cases hi : i < n + 1
  · rw [inR_at hi, inR_at hi, h i hi]
  · rw [List.getElem?_eq_none (by rw [inR_len]; omega), List.getElem?_eq_none (by rw [inR_len]; omega)]
theorem inR_zero (n k : Nat) : (List.replicate (n + 1) false).set k true = inR n [(k : Int)] k true := by
  apply List.ext_getElem?
  intro i
  by_cases hi : i < n + 1
  · rw [inR_at hi, List.getElem?_set]
    by_cases hk : k = i
    · subst hk; simp [hi]
    · rw [if_neg hk, if_neg (Ne.symm hk)]
      simp [hi, hasI]
      omega
  · rw [List.getElem?_eq_none (by simp; omega), List.getElem?_eq_none (by rw [inR_len]; omega)]

theorem hasI_mem {xs : List Int} {z : Int} : hasI xs z = true ↔ z ∈ xs := by simp [hasI]
theorem hasI_no {xs : List Int} {z : Int} (h : z ∉ xs) : hasI xs z = false := by
  cases hq : hasI xs z with
  | false => rfl
  | true => exact absurd (hasI_mem.1 hq) h
theorem undN_self (us : List (List Int)) (i : Nat) : ∀ m, (i : Int) + 1 ∈ undN us i m
  | 0 => by simp [undN]
  | m + 1 => by
    have := undN_self us i m
    rw [undN]
    split
    · split
      · exact List.mem_append_left _ this
      · exact this
    · exact this
/-- Those that are told so far, q + 1 being next. -/
def outA (us : List (List Int)) (i q : Nat) : List Int := if q = i then [] else undN us i (q - i - 1)
def inA (us : List (List Int)) (i q : Nat) : List Int := undN us i (q - i - 1)

theorem inA_start (n : Nat) (us : List (List Int)) (i q : Nat) : inR n (inA us i q) (i + 1) true = inR n (inA us i q) (q + 1) (hasI (inA us i q) ((q : Int) + 1)) := by
  refine inR_congr fun z hz => ?_
  have hs : hasI (inA us i q) ((i : Int) + 1) = true := hasI_mem.2 (undN_self us i _)
  by_cases h1 : z = i + 1
  · subst h1
    rw [if_pos rfl]
    by_cases h2 : i + 1 = q + 1
    · rw [if_pos h2, show q = i by omega]; rw [show q = i by omega] at hs; exact hs.symm
    · rw [if_neg h2]; push_cast; exact hs.symm
  · rw [if_neg h1]
    by_cases h2 : z = q + 1
    · subst h2; rw [if_pos rfl]; push_cast; rfl
    · rw [if_neg h2]

theorem inA_step (n : Nat) {us : List (List Int)} {i q : Nat} {u : List Int} (hiq : i ≤ q) (hu : us[q]? = some u) (c : Bool) (hc : c = (hasI (inA us i q) ((q : Int) + 1) || u.any (hasI (inA us i q)))) :
    outA us i (q + 1) = outA us i q ++ (if c then [(q : Int) + 1] else []) ∧ inR n (inA us i q) (q + 1) c = inR n (inA us i (q + 1)) (i + 1) true := by
  by_cases hq : q = i
  · subst hq
    have h0 : inA us q q = [(q : Int) + 1] := by unfold inA; rw [show q - q - 1 = 0 by omega]; rfl
    have h1 : inA us q (q + 1) = [(q : Int) + 1] := by unfold inA; rw [show q + 1 - q - 1 = 0 by omega]; rfl
    have hc1 : c = true := by rw [hc, h0]; simp [hasI]
    subst hc1
    refine ⟨?_, by rw [h0, h1]⟩
    unfold outA
    rw [if_neg (by omega), if_pos rfl, show q + 1 - q - 1 = 0 by omega]; rfl
  · obtain ⟨m, hm⟩ : ∃ m, q = i + 1 + m := ⟨q - i - 1, by omega⟩
    have e1 : q - i - 1 = m := by omega
    have e2 : q + 1 - i - 1 = m + 1 := by omega
    have hno : hasI (undN us i m) ((q : Int) + 1) = false := by
      apply hasI_no
      intro hmem
      obtain ⟨k, h1, _, h3⟩ := undN_range us i m _ hmem
      omega
    have hc2 : c = u.any (hasI (undN us i m)) := by
      rw [hc]; unfold inA; rw [e1, hno, Bool.false_or]
    have hst : undN us i (m + 1) = undN us i m ++ (if c then [(q : Int) + 1] else []) := by
      rw [undN, ← hm, hu]
      simp only
      rw [← hc2]
      have : (i : Int) + 2 + m = (q : Int) + 1 := by omega
      rw [this]
      cases c <;> simp
    refine ⟨?_, ?_⟩
    · unfold outA
      rw [if_neg (by omega), if_neg hq, e1, e2, hst]
    · unfold inA
      rw [e1, e2]
      refine inR_congr fun z hz => ?_
      have hself := hasI_mem.2 (undN_self us i m)
      by_cases h1 : z = q + 1
      · rw [if_pos h1, if_neg (by omega), hst]
        subst h1
        push_cast
        cases c with
        | true => symm; rw [hasI_mem]; simp
        | false => rw [if_neg (by decide), List.append_nil]; exact hno.symm
      · rw [if_neg h1]
        by_cases h2 : z = i + 1
        · subst h2; rw [if_pos rfl]; push_cast; exact hself
        · rw [if_neg h2, hst]
          unfold hasI
          rw [List.any_append]
          have : (if c = true then [(q : Int) + 1] else []).any (fun y => (z : Int) == y) = false := by
            cases c
            · rfl
            · simp; omega
          rw [this, Bool.or_false]

set_option maxHeartbeats 6400000 in
set_option maxRecDepth 100000 in
theorem rsgUnder_any (b : Nat) (v : Value) (L : List Sg) (id : Int) (hx : L.length < 100000) (hup : ∀ s ∈ L, s.up.length < 100000 ∧ ∀ z ∈ s.up, ∃ q : Nat, z = (q : Int) ∧ q ≤ L.length) (w : World) (h : TrR w b v L) :
    Calls Try.prog 31 #[.pointer (some ⟨b, 0, none⟩), .int .i64 id] w (NewI (undL L id) w) := by
  have hhas := rsgHas_any b v L id (by omega) w h
  cases hq : isS L.length id with
  | false =>
    rw [hq] at hhas
    have hU : undL L id = [] := by unfold undL; rw [hq]; rfl
    rw [hU]
    clear h hq hU
    go_enter Try.func31, Try.ntmps31
    go_wp2_with fail
    refine hhas.mono ?_
    rintro e w1 ⟨rfl, rfl⟩
    go_wp2_with fail
    go_ret
    exact NewI.nil _
  | true =>
    rw [hq] at hhas
    obtain ⟨i, rfl, hi⟩ := isS_true hq
    obtain ⟨n, hn⟩ : ∃ n, n = L.length := ⟨_, rfl⟩
    have hU : undL L ((i : Int) + 1) = undN (ups L) i (n - (i + 1)) := by
      unfold undL; rw [hq, if_pos rfl, hn]; congr 1 <;> omega
    rw [hU]
    obtain ⟨a, cap, rfl⟩ := h.ob.row.val
    obtain ⟨us, hus⟩ : ∃ us, us = ups L := ⟨_, rfl⟩
    rw [← hus]
    rw [← hn] at hi hx h hup
    have hob := h.ob
    obtain ⟨gb, rfl, hgl⟩ := hob.row.addr (by omega)
    have hcv : w.cell? ⟨b, 0, none⟩ = some (.slice (some ⟨gb, 0, none⟩) n cap) := hob.blk.cell 0
    have HN := Lib.hid hn; have HH := Lib.hid h; have HUS := Lib.hid hus; have HUP := Lib.hid hup
    clear h hq hn hob hU hus hup
    have hn1 : n + 1 ≤ 1000000 := by omega
    go_enter Try.func31, Try.ntmps31
    go_wp2_with fail
    refine hhas.mono ?_
    rintro e w1 ⟨rfl, rfl⟩
    clear hhas
    go_wp2_with (at_make; go_loud (refine wpList_mkB _ rfl _ _ 39 rfl Try.t4 (by kernel_rfl) (by kernel_rfl) (by rfl) (by rfl) (by rfl) .i64 .i64 ((n : Int) + 1) (n + 1) (by rfl) (by rfl) (by rfl) hn1 ?_))
    intro w1 hr1 he1
    obtain ⟨B, hB⟩ : ∃ B, B = w.heap.size := ⟨_, rfl⟩
    rw [← hB] at hr1 ⊢
    have hlg : i + 1 < (List.replicate (n + 1) false).length := by simp; omega
    have hset := hr1.put encB_ok.len hlg true
    rw [Nat.mul_one] at hset
    have hset1 : RB (w1.setCell ⟨B, i + 1, none⟩ (.bool true)) (.slice (some ⟨B, 0, none⟩) (n + 1) (n + 1)) (inR n (inA us i i) (i + 1) true) := by
      have h0 : inA us i i = [((i + 1 : Nat) : Int)] := by unfold inA; rw [show i - i - 1 = 0 by omega]; push_cast; rfl
      rw [h0, ← inR_zero]; exact hset
    have hf1 := hr1.free (i + 1)
    have hcx : w1.cell? ⟨B, i + 1, none⟩ = some (.bool false) := by
      have := hr1.cell encB_ok.len (i := i + 1) (x := false) (by rw [List.getElem?_replicate]; simp; omega) 0 (by omega)
      rw [Nat.mul_one, Nat.add_zero] at this
      rw [this]; rfl
    have c1 : (0 : Int) ≤ (i : Int) + 1 := by omega
    have c2 : (i : Int) + 1 < (n : Int) + 1 := by omega
    have e0 : Ext [] w (w1.setCell ⟨B, i + 1, none⟩ (.bool true)) := he1.setCell (Or.inr (Nat.le_of_eq hB.symm)) _
    have HB := Lib.hid hB
    clear hset hlg hr1 hcv he1 hB
    go_wp2_with fail
    go_loopw [6, 7, 8] (fun ov kv pv wr => ∃ (q : Nat) (a2 : Option Addr) (l2 c2 : Nat), i ≤ q ∧ q ≤ n ∧ l2 ≤ q ∧ kv = .int .i64 ((q : Int) + 1) ∧ ov = .slice a2 l2 c2 ∧ RB wr (.slice (some ⟨B, 0, none⟩) (n + 1) (n + 1)) (inR n (inA us i q) (i + 1) true) ∧ RI wr (.slice a2 l2 c2) (outA us i q) ∧ Ext [] w wr ∧ Hid (∀ g, (Value.slice a2 l2 c2).ownBlock = some g → w.heap.size ≤ g)) (fun _ kv _ _ => n + 2 - (intOf kv).toNat)
    case atStart => exact ⟨i, none, 0, 0, Nat.le_refl _, by omega, Nat.zero_le _, rfl, rfl, hset1, by rw [show outA us i i = [] from if_pos rfl]; exact Rw.nil _, e0, fun g hg => by simp [Value.ownBlock] at hg⟩
    case round =>
      generalize hwo : wr = wo at *
      clear hwo
      obtain ⟨q, a2, l2, c2', hiq, hqn, hl2, rfl, rfl, hRB, hR, her, hfr⟩ := hrel
      have hT := HH.out.keep0 her
      have hob := hT.ob
      have hcv : wo.cell? ⟨b, 0, none⟩ = some (.slice (some ⟨gb, 0, none⟩) n cap) := hob.blk.cell 0
      by_cases hq : q < n
      · have d1 : decide ((q : Int) + 1 ≤ (n : Int)) = true := decide_eq_true (by omega)
        obtain ⟨s, hs⟩ : ∃ s, L[q]? = some s := ⟨_, List.getElem?_eq_getElem (by rw [← HN.out]; exact hq)⟩
        have hus : us[q]? = some s.up := by rw [HUS.out]; unfold ups; rw [List.getElem?_map, hs]; rfl
        have hst := fun c hc => inA_step n hiq hus c hc
        have HST := Lib.hid hst
        obtain ⟨hsu, hsr⟩ := HUP.out s (List.mem_of_getElem? hs)
        have HSR := Lib.hid hsr
        have hin := hT.inn s (List.mem_of_getElem? hs)
        have hc0 := hob.row.cell encG_ok.len hs 0 (by omega)
        simp only [encG, Nat.add_zero, List.getElem?_cons_zero, Sg.row] at hc0
        rw [inA_start] at hRB
        obtain ⟨U, hU⟩ : ∃ U, U = inA us i q := ⟨_, rfl⟩
        rw [← hU] at hRB HST
        obtain ⟨un, hun⟩ : ∃ k, k = s.up.length := ⟨_, rfl⟩
        rw [← hun] at hc0 hsu
        have b1 : (0 : Int) ≤ (q : Int) := by omega
        have b2 : (q : Int) < (n : Int) := by omega
        have hqq : (q : Int) + 1 - 1 = q := by omega
        unfold Sg.row at hin
        rw [← hun] at hin
        have HUN := Lib.hid hun; have HT := Lib.hid hT; have HIN := Lib.hid hin; have HR := Lib.hid hR; have HC0 := Lib.hid hc0
        have HE := Lib.hid her; have HS := Lib.hid hs; have HU := Lib.hid hU
        clear hun hT hob hin hR hst hsr hs hus hU hset1 e0 hf1 hcx
        go_wp2_with fail
        go_loopw [8] (fun pv wx => ∃ (p : Nat) (c : Bool), p ≤ un ∧ pv = .int .i64 p ∧ RB wx (.slice (some ⟨B, 0, none⟩) (n + 1) (n + 1)) (inR n U (q + 1) c) ∧ Ext [B] wo wx ∧ Hid (c = (hasI U ((q : Int) + 1) || (s.up.take p).any (hasI U)))) (fun pv _ => un - (intOf pv).toNat)
        case atStart => exact ⟨0, _, Nat.zero_le _, rfl, hRB, Ext.refl _ _, by simp [Hid]⟩
        case round =>
          obtain ⟨p, c, hpu, rfl, hRBx, hex, hcx⟩ := hrel
          have hBne : ∀ x, x < w.heap.size → x ∉ [B] := fun x hx hm => by simp at hm; have := HB.out; omega
          have hTx := HT.out.keep hex (fun x hx => hBne x (HH.out.lt x hx))
          have hcvx : wr.cell? ⟨b, 0, none⟩ = some (.slice (some ⟨gb, 0, none⟩) n cap) := hTx.ob.blk.cell 0
          have hc0x := hTx.ob.row.cell encG_ok.len HS.out 0 (by omega)
          simp only [encG, Nat.add_zero, List.getElem?_cons_zero, Sg.row] at hc0x
          rw [← HUN.out] at hc0x
          by_cases hp : p < un
          · have d2 : decide (p < un) = true := decide_eq_true hp
            obtain ⟨z, hz⟩ : ∃ z, s.up[p]? = some z := ⟨_, List.getElem?_eq_getElem (by rw [← HUN.out]; exact hp)⟩
            have hinx := hTx.inn s (List.mem_of_getElem? HS.out)
            unfold Sg.row at hinx
            rw [← HUN.out] at hinx
            obtain ⟨ug, hua, hugl⟩ := hinx.addr (by omega)
            rw [hua] at hinx hc0x
            have hxz := hinx.cell encI_ok.len hz 0 (by omega)
            simp only [encI, Nat.add_zero, Nat.mul_one, List.getElem?_cons_zero] at hxz
            obtain ⟨zq, rfl, hzn⟩ := HSR.out z (List.mem_of_getElem? hz)
            have hcB := hRBx.cell encB_ok.len (inR_at (U := U) (k := q + 1) (c := c) (show q + 1 < n + 1 by omega)) 0 (by omega)
            have hcZ := hRBx.cell encB_ok.len (inR_at (U := U) (k := q + 1) (c := c) (show zq < n + 1 by omega)) 0 (by omega)
            simp only [encB, Nat.add_zero, Nat.mul_one, List.getElem?_cons_zero] at hcB hcZ
            rw [if_pos trivial] at hcB
            have hfB := hRBx.free (q + 1)
            have htk : s.up.take (p + 1) = s.up.take p ++ [(zq : Int)] := by
              rw [List.take_add_one, hz]; rfl
            have hput := fun d => hRBx.put encB_ok.len (i := q + 1) (by rw [inR_len]; omega) d
            have hset := fun d => inR_set n U (q + 1) c d
            have hlaw : (c || (if zq = q + 1 then c else hasI U zq)) = (hasI U ((q : Int) + 1) || (s.up.take (p + 1)).any (hasI U)) := by
              rw [htk, List.any_append]
              simp only [List.any_cons, List.any_nil, Bool.or_false]
              by_cases hzq : zq = q + 1
              · subst hzq
                rw [if_pos rfl]
                have := hcx.out
                push_cast
                rw [this]
                cases hasI U ((q : Int) + 1) <;> cases (s.up.take p).any (hasI U) <;> rfl
              · rw [if_neg hzq]
                have := hcx.out
                rw [this, Bool.or_assoc]
            generalize hv : (if zq = q + 1 then c else hasI U zq) = vz at hcZ hlaw
            have hex2 := fun d : Bool => hex.setCell (p := ⟨B, q + 1, none⟩) (Or.inl (by simp)) (.bool d)
            have HPUT : Hid (∀ d : Bool, RB (wr.setCell ⟨B, q + 1, none⟩ (.bool d)) (.slice (some ⟨B, 0, none⟩) (n + 1) (n + 1)) (inR n U (q + 1) d)) := fun d => by
              have := hput d
              rw [hset d, Nat.mul_one] at this; exact this
            have HEX2 := Lib.hid hex2; have HLAW := Lib.hid hlaw
            have c3 : (0 : Int) ≤ (p : Int) := by omega
            have c4 : (p : Int) < (un : Int) := by omega
            have c5 : (0 : Int) ≤ (zq : Int) := by omega
            have c6 : (zq : Int) < (n : Int) + 1 := by omega
            have c7 : (0 : Int) ≤ (q : Int) + 1 := by omega
            have c8 : (q : Int) + 1 < (n : Int) + 1 := by omega
            clear hput hset hlaw hex2 hv htk hTx hinx hcx hz hRBx hRB
            cases c with
            | true =>
              rw [Bool.true_or] at HLAW
              go_wp2_with fail
              exact ⟨⟨p + 1, true, by omega, by go_num, HPUT.out true, HEX2.out true, HLAW.out⟩, by simp [intOf]; omega⟩
            | false =>
              rw [Bool.false_or] at HLAW
              go_wp2_with fail
              exact ⟨⟨p + 1, vz, by omega, by go_num, HPUT.out vz, HEX2.out vz, HLAW.out⟩, by simp [intOf]; omega⟩
          · have d2 : decide (p < un) = false := decide_eq_false hp
            have hall : s.up.take p = s.up := List.take_of_length_le (by have := HUN.out; omega)
            have hc := hcx.out
            rw [hall] at hc
            obtain ⟨hO, hI⟩ := HST.out c hc
            have hcB := hRBx.cell encB_ok.len (inR_at (U := U) (k := q + 1) (c := c) (show q + 1 < n + 1 by omega)) 0 (by omega)
            simp only [encB, Nat.add_zero, Nat.mul_one, List.getElem?_cons_zero] at hcB
            rw [if_pos trivial] at hcB
            rw [hI] at hRBx
            have c7 : (0 : Int) ≤ (q : Int) + 1 := by omega
            have c8 : (q : Int) + 1 < (n : Int) + 1 := by omega
            have hBf : (Value.slice a2 l2 c2').ownBlock ≠ some B := fun hb => (HR.out.apart (hRBx.keep (Ext.refl [] _) (by simp) |> fun h => hRB) (by decide)) B hb rfl
            have hRx := HR.out.keep hex (fun g hg hm => hBf (by simp at hm; rw [hg, hm]))
            have hEx : Ext [] w wr := HE.out.trans hex (fun x hx => .inr (by simp at hx; have := HB.out; omega))
            have HRB := Lib.hid hRBx; have HRX := Lib.hid hRx; have HEX := Lib.hid hEx
            have HO := Lib.hid hO; have HBF := Lib.hid hBf
            clear hall hc hcx hI hO hRBx hRx hEx hTx hRB hBf
            cases c with
            | false =>
              have hO2 : outA us i (q + 1) = outA us i q := by rw [HO.out]; simp
              have HO2 := Lib.hid hO2
              clear hO2
              go_wp2_with fail
              exact ⟨⟨q + 1, a2, l2, c2', by omega, by omega, by omega, by go_num, rfl, HRB.out, by rw [HO2.out]; exact HRX.out, HEX.out, hfr⟩, by simp [intOf]; omega⟩
            | true =>
              have hl63 : l2 + 1 ≤ 1000000 := by omega
              have hlen : LenIs (outA us i q) [(q : Int) + 1] (l2 + 1) := by unfold LenIs; rw [← HRX.out.len]; rfl
              have hsl := Sl.new (enc := encI .i64) wr ((q : Int) + 1) 3
              have hrw := HRX.out.alloc (.cells (encI .i64 ((q : Int) + 1)).toArray 3 (0, 0))
              go_wp2_with (at_builtin; refine wpList_appN tyI encI_ok (by rfl) _ _ (by rfl) hrw (by rfl) hsl (by rfl) hlen hl63 ?_)
              intro a5 c5 w5 hr5 hS5 hg5
              have e5 : Ext [] w w5 := fresh_app (v1 := .slice a2 l2 c2') (HEX.out.alloc _) hfr.out hS5
              have hS6 := hS5 (Value.slice a2 l2 c2').ownBlock.toList (by simp +contextual)
              have hB5 := (HRB.out.alloc (.cells (encI .i64 ((q : Int) + 1)).toArray 3 (0, 0))).keep hS6 (fun g hg hm => by
                simp [Value.ownBlock] at hg
                subst hg
                exact HBF.out (by simpa using hm))
              have hg6 : Hid (∀ g, (Value.slice a5 (l2 + 1) c5).ownBlock = some g → w.heap.size ≤ g) := fun g hg => (hg5 g hg).elim (hfr.out g) (fun h => by have := HEX.out.size; omega)
              have ho5 : outA us i (q + 1) = outA us i q ++ [(q : Int) + 1] := by rw [HO.out]; simp
              rw [← ho5] at hr5
              have HR5 := Lib.hid hr5; have HB5 := Lib.hid hB5; have HE5 := Lib.hid e5
              clear hr5 hB5 e5 hS5 hS6 hg5 ho5 hrw hsl hlen hfr
              go_wp2_with fail
              exact ⟨⟨q + 1, a5, l2 + 1, c5, by omega, by omega, by omega, by go_num, rfl, HB5.out, HR5.out, HE5.out, hg6⟩, by simp [intOf]; omega⟩
      · have d1 : decide ((q : Int) + 1 ≤ (n : Int)) = false := decide_eq_false (by omega)
        obtain rfl : q = n := by omega
        have ho : outA us i q = undN us i (q - (i + 1)) := by unfold outA; rw [if_neg (by omega)]; congr 1
        rw [ho] at hR
        have hll := hR.len
        have HLL := Lib.hid hll
        clear hq hT hob hll hRB hset1 ho
        go_wp2_with fail
        go_ret
        rw [HLL.out] at hR hfr ⊢
        exact ⟨a2, c2', rfl, hR, her, hfr.out⟩
end Go.Proofs.Ytmmhpjodnceipaa
