/- SignalPlays: its walk. -/
import Derived.Test.YtmmhpjodnceipaaRefSgO
import Derived.Test.YtmmhpjodnceipaaLow
import Derived.Test.YtmmhpjodnceipaaStructs
import Derived.Deep.DeepCutAuto
namespace Go.Proofs.Ytmmhpjodnceipaa
open Go.Joins Go.ChangeShapes Go.WideShapes Go.RowKit Go.Deep Go.Proofs.YtmmhpjodnceipaaW.PrintLast
set_option linter.unusedVariables false
set_option linter.unusedSimpArgs false

structure DeedS where
  op : Int
  id : Int
  pa : Option Addr
  pc : Nat
  ids : List Int
def DeedS.row (d : DeedS) : Value := .slice d.pa d.ids.length d.pc
def encDS (d : DeedS) : List Value := [.int .i64 d.op, .int .i64 d.id, d.row]

theorem FieldsOf.ints {H : Type} {enc : TypeId × Value → H} {P : Program} {W : World} {fs : Array Field} {cs : List Value} (h : FieldsOf enc P W fs cs) (j : Nat) (f : Field) (e : TypeId) (hf : fs[j]? = some f) (ht : P.underlying f.type = some (.slice e)) (he : P.underlying e = some (.int .i64)) (hC : P.cellsOf e = 1) :
    ∃ (pa : Option Addr) (pc : Nat) (ids : List Int), cs[j]? = some (.slice pa ids.length pc) ∧ SrcI W (.slice pa ids.length pc) ids := by
  have hj : j < fs.size := (Array.getElem?_eq_some_iff.1 hf).1
  have hc := List.getElem?_eq_getElem (l := cs) (i := j) (by rw [h.1]; exact hj)
  obtain ⟨n, y, hy⟩ := h.2 j f _ hf hc
  rcases open_ints ht he hC hy with ⟨hcs, _⟩ | ⟨x, l, cp, zs, hcs, _, hl, hm, hz, _, hcell, hwz⟩
  · have hcs : cs[j]'(by rw [h.1]; exact hj) = .slice none 0 0 := by simpa using hcs
    exact ⟨none, 0, [], by rw [hc, hcs]; rfl, .inl ⟨none, 0, rfl, fun _ => rfl, rfl⟩⟩
  · have hcs : cs[j]'(by rw [h.1]; exact hj) = .slice (some x) l cp := by simpa using hcs
    have hz' : zs.length = cp := by simpa using hz
    have hlen : (zs.take l).length = l := by simp; omega
    refine ⟨some x, cp, zs.take l, by rw [hc, hcs, hlen], ?_⟩
    by_cases h0 : l = 0
    · subst h0
      exact .inl ⟨some x, cp, by simp, by simp, by simp⟩
    · have hc0 := hcell 0 (by omega)
      obtain ⟨b, off, rfl⟩ := addr_of_spot (spot_of_cell hc0)
      have hadd : ∀ i, (⟨b, off, none⟩ : Addr).add i = ⟨b, off + i, none⟩ := fun i => Addr.add_mk _ _ _
      refine .inr ⟨b, off, cp, rfl, by have := lt_of_cell hc0; rw [hadd] at this; exact this, fun i z hi => ?_⟩
      have hi2 : i < l ∧ zs[i]? = some z := by
        rw [List.getElem?_take] at hi
        split at hi
        · exact ⟨‹_›, hi⟩
        · cases hi
      have := hcell i (by omega)
      rw [hadd] at this
      rw [this]
      simp [List.getD_eq_getElem?_getD, hi2.2]

theorem SrcI.lt_of {w : World} {sv : Value} {ps : List Int} (h : SrcI w sv ps) (hp : ps ≠ []) : ∀ g, sv.ownBlock = some g → g < w.heap.size := by
  rcases h with ⟨a, c, rfl, hc, h0⟩ | ⟨b, off, c, rfl, hb, hc⟩
  · exact absurd h0 hp
  · intro g hg
    have : b = g := by simpa [Value.ownBlock] using hg
    omega
theorem SrcI.keep' {R : List Nat} {w w' : World} {sv : Value} {ps : List Int} (h : SrcI w sv ps) (he : Ext R w w') (hR : ps ≠ [] → ∀ g, sv.ownBlock = some g → g ∉ R) : SrcI w' sv ps := by
  by_cases hp : ps = []
  · rcases h with h | ⟨b, off, c, rfl, hb, hc⟩
    · exact .inl h
    · exact .inl ⟨_, c, by rw [hp]; rfl, by simp, hp⟩
  · exact h.keep he (hR hp)

theorem open_deedS {H : Type} {enc : TypeId × Value → H} {W : World} {a : Option Addr} {n c : Nat} {d : DataW H} {p : List MemPlace} (h : DataW.Trod enc Try.prog W 0 (fun _ => true) true 47 (.slice a n c) d p) :
    ∃ zs : List DeedS, Slc encDS 3 W a n zs ∧ ∀ z ∈ zs, SrcI W z.row z.ids := by
  refine Slc.open_structs (E := encDS) (good := fun z => SrcI W z.row z.ids) Try.underlying47 Try.underlying51 (by kernel_rfl) (by kernel_rfl) (by decide) ?_ h
  intro cs hc
  obtain ⟨z0, h0, _⟩ := hc.int 0 _ .i64 rfl Try.underlying3
  obtain ⟨z1, h1, _⟩ := hc.int 1 _ .i64 rfl Try.underlying3
  obtain ⟨pa, pc, ids, h2, h3⟩ := hc.ints 2 _ _ rfl Try.underlying37 Try.underlying3 (by kernel_rfl)
  have hl : cs.length = 3 := hc.1
  match cs, hl with
  | [c0, c1, c2], _ =>
    simp at h0 h1 h2
    exact ⟨⟨z0, z1, pa, pc, ids⟩, by simp [encDS, DeedS.row, h0, h1, h2], h3⟩

theorem Slc.struct_at {α : Type} {enc : α → List Value} {k : Nat} {w : World} {a : Option Addr} {n : Nat} {xs : List α} (h : Slc enc k w a n xs) :
    ∃ b off, ∀ i z, xs[i]? = some z → a = some ⟨b, off, none⟩ ∧ b < w.heap.size ∧ ∀ (j : Nat) (v : Value), (enc z)[j]? = some v → w.cell? ⟨b, off + (i * k + j), none⟩ = some v := by
  by_cases hn : 0 < n
  · obtain ⟨b, off, ha, hb, hc⟩ := h.2 hn
    exact ⟨b, off, fun i z hz => ⟨ha, hb, hc i z hz⟩⟩
  · have : xs = [] := List.length_eq_zero_iff.1 (by have := h.1; omega)
    subst this
    exact ⟨0, 0, fun i z hz => by simp at hz⟩

/-- What holds in the midst of a round. -/
def AfterS (w : World) (z : DeedS) (b r B j : Nat) (wx : World) : Prop :=
  Blk wx B (encDS z).toArray 51 ∧ ∃ S R M, SO wx b S M ∧ RS wx r R M ∧ Own2 w wx S R ∧ UpIn M ∧ M.length ≤ j + 1 ∧ (∀ x ∈ S, x ≠ B) ∧ (∀ x ∈ R, x ≠ B)

set_option maxHeartbeats 6400000 in
set_option maxRecDepth 100000 in
theorem signalPlays_walk (w : World) (a : Option Addr) (n c : Nat) (xs : List DeedS) (hs : Slc encDS 3 w a n xs) (hg : ∀ z ∈ xs, SrcI w z.row z.ids) (ask : Int) (hask : (Lit.int .i64 ask).wf = true) :
    Calls Try.prog 6 #[.slice a n c, .int .i64 ask] w fun e w' => e = .returned (.bool true) ∧ Ext [] w w' := by
  clear hask
  by_cases hn : 150 < n
  · clear hg
    go_enter Try.func6, Try.ntmps6
    go_wp2_with fail
    refine (awakeS_any _).mono ?_
    rintro e w1 ⟨rfl, e1⟩
    go_wp2_with fail
    go_ret
    exact ⟨rfl, e1⟩
  have hn' : n ≤ 150 := by omega
  have HS := Lib.hid hs; have HG := Lib.hid hg
  clear hs hn hg
  go_enter Try.func6, Try.ntmps6
  go_wp2_with fail
  refine (so_new w).mono ?_
  rintro e w1 ⟨rfl, h1, e1⟩
  have o1 := Own.start e1 (S := [w.heap.size]) (by simp)
  obtain ⟨b, hb⟩ : ∃ b, w.heap.size = b := ⟨_, rfl⟩
  rw [hb] at h1 o1
  go_wp2_with fail
  refine (rs_new w1).mono ?_
  rintro e w2 ⟨rfl, h2, e2⟩
  have o2 := Own2.start o1 h1.lt e2 (R := [w1.heap.size]) (by simp)
  have h1 := h1.keep0 e2
  obtain ⟨r, hr⟩ : ∃ r, w1.heap.size = r := ⟨_, rfl⟩
  rw [hr] at h2 o2
  clear e1 e2 o1
  go_wp2_with fail
  go_loopw [7] (fun iv wr => ∃ (j : Nat) (S R : List Nat) (M : List Sm), j ≤ n ∧ iv = .int .i64 j ∧ SO wr b S M ∧ RS wr r R M ∧ Own2 w wr S R ∧ M.length ≤ j ∧ Hid (UpIn M)) (fun iv _ => n - (intOf iv).toNat)
  case atStart => exact ⟨0, _, _, [], Nat.zero_le _, rfl, h1, h2, o2, Nat.le_refl _, UpIn.nil⟩
  case round =>
    obtain ⟨j, S, R, M, hjn, rfl, hw, hwr, ow, hlen, hok⟩ := hrel
    clear h1 h2 o2 hb hr
    by_cases hj : j < n
    · have d1 : decide (j < n) = true := decide_eq_true hj
      have b1 : (0 : Int) ≤ (j : Int) := by omega
      have b2 : (j : Int) < (n : Int) := by omega
      obtain ⟨ab, ao, hsa⟩ := HS.out.struct_at
      obtain ⟨z, hz⟩ : ∃ z, xs[j]? = some z := ⟨_, List.getElem?_eq_getElem (by rw [HS.out.1]; exact hj)⟩
      obtain ⟨rfl, hab, hcz⟩ := hsa j z hz
      have hz0 := (ow.ext.cell (p := ⟨ab, ao + (j * 3 + 0), none⟩) hab (by simp)).trans (hcz 0 _ rfl)
      have hz1 := (ow.ext.cell (p := ⟨ab, ao + (j * 3 + 1), none⟩) hab (by simp)).trans (hcz 1 _ rfl)
      have hz2 := (ow.ext.cell (p := ⟨ab, ao + (j * 3 + 2), none⟩) hab (by simp)).trans (hcz 2 _ rfl)
      simp only [Nat.add_zero, ← Nat.add_assoc] at hz0 hz1 hz2
      have hsrc := HG.out z (List.mem_of_getElem? hz)
      have hlow := hsrc.lt_of
      have hsrc := hsrc.keep ow.ext (by simp)
      have HLO := Lib.hid hlow
      have HSRC := Lib.hid hsrc
      have hLow := low_any z.op 3 (by omega) (by omega)
      have HLOW := Lib.hid hLow
      have hlb := ow.ext.size
      have hSB : ∀ x ∈ S, x ≠ wr.heap.size := fun x hx => by have := hw.lt x hx; omega
      have hRB : ∀ x ∈ R, x ≠ wr.heap.size := fun x hx => by have := hwr.lt x hx; omega
      obtain ⟨zl, hzl⟩ : ∃ zl, zl = z.ids.length := ⟨_, rfl⟩
      unfold DeedS.row at hz2
      rw [← hzl] at hz2
      have HZL := Lib.hid hzl
      have hEnc : encDS z = [.int .i64 z.op, .int .i64 z.id, .slice z.pa zl z.pc] := by rw [hzl]; rfl
      have HENC := Lib.hid hEnc
      clear hsa hz hab hcz hLow hsrc hzl hEnc hlow
      by_cases h20 : zl ≤ 20
      rotate_left
      · have d2 : ¬ zl ≤ 20 := h20
        go_wp2_with fail
        refine (awakeS_any _).mono ?_
        rintro e w4 ⟨rfl, e4⟩
        go_wp2_with fail
        go_ret
        exact ⟨rfl, (ow.ext.trans ((Ext.refl [] _).alloc _) (by simp)).trans e4 (by simp)⟩
      have hB : Blk (wr.alloc (.cells (encDS z).toArray 51 (0, 0))) wr.heap.size (encDS z).toArray 51 := Blk.new _ _ _
      have e3 : Ext [] wr (wr.alloc (.cells (encDS z).toArray 51 (0, 0))) := (Ext.refl _ _).alloc _
      rw [HENC.out] at hB e3
      have HB := Lib.hid hB; have E3 := Lib.hid e3
      clear hB e3
      go_upto_if 43 with ((go_at_call 16; refine (HLOW.out _).mono ?_; rintro e w4 ⟨rfl, rfl⟩))
      have hB := HB.out; have e3 := E3.out
      generalize wr.alloc (Obj.cells #[Value.int .i64 z.op, Value.int .i64 z.id, Value.slice z.pa zl z.pc] 51) = w3 at hB e3 ⊢
      have ow := ow.quiet e3
      have hw := hw.keep0 e3
      have hwr := hwr.keep0 e3
      have HSRC3 := Lib.hid (HSRC.out.keep e3 (by simp))
      generalize wr.heap.size = B at hB hSB hRB ⊢
      rw [← HENC.out] at hB
      have hc0 : w3.cell? ⟨B, 0, none⟩ = some (.int .i64 z.op) := hB.cell 0
      clear hz0 hz1 hz2 e3 HB E3 HSRC
      go_cut [8] (fun s8 wx => s8 = .pointer (some ⟨B, 0, none⟩) ∧ AfterS w z b r B j wx)
      case first =>
        have hc1 : w3.cell? ⟨B, 1, none⟩ = some (.int .i64 z.id) := hB.cell 1
        have hc2 : w3.cell? ⟨B, 2, none⟩ = some (.slice z.pa zl z.pc) := by have := hB.cell 2; rw [HZL.out]; exact this
        have hBS : B ∉ S := fun h => hSB B h rfl
        have hBR : B ∉ R := fun h => hRB B h rfl
        have hsm : M.length < 1000 := by omega
        cases hq : (lowI z.op 3 == 2) with
        | true =>
          have hgv := so_abort b S M z.id hsm hok.out.ok w3 hw
          have hgr := fun W (hW : RS W r R M) => rs_abort r R M z.id hsm hok.out W hW
          have hll := abS_len M z.id
          have htl := abS_told M z.id
          have hko := hok.out.ab z.id
          unfold AbP at hgv
          unfold RAbP at hgr
          have HW := Lib.hid hw; have HWR := Lib.hid hwr; have HOW := Lib.hid ow; have HB := Lib.hid hB; have HKO := Lib.hid hko
          generalize abS M z.id = q at hgv hgr HKO hll htl
          have hti := fun W v v' (h : RI W v q.2.1) (h' : RI W v' q.2.1) => ints_any v v' q.2.1 q.2.1 (by omega) (by omega) W h h'
          have hdk : decide (q.2.1 = q.2.1) = true := decide_eq_true rfl
          rw [hdk] at hti
          have HGV := Lib.hid hgv; have HGR := Lib.hid hgr; have HLL := Lib.hid hll; have HTI := Lib.hid hti
          clear hgv hgr hw hwr ow hB hko hll htl hti hdk
          go_wp2_with fail
          refine HGV.out.mono ?_
          rintro e w4 ⟨ga, gc, rfl, gr, gf, h4, e4⟩
          have hB4 := HB.out.keep e4 hBS
          have hR4 := HWR.out.keep e4 (fun x hx hs => HOW.out.ne x hs hx)
          have hc4 : w4.cell? ⟨B, 1, none⟩ = some (.int .i64 z.id) := hB4.cell 1
          have HB4 := Lib.hid hB4; have HR4 := Lib.hid hR4; have H4 := Lib.hid h4; have GR := Lib.hid gr; have GF := Lib.hid gf; have E4 := Lib.hid e4
          clear hB4 hR4 h4 gr gf hc0 hc1 hc2 e4
          go_wp2_with fail
          refine (HGR.out _ HR4.out).mono ?_
          rintro e w5 ⟨ra, rc, rfl, rr, rf, h5, e5⟩
          have hB5 := HB4.out.keep e5 hBR
          have hlt := HWR.out.lt
          have hsz4 := E4.out.size
          have gr5 := GR.out.keep e5 (fun x hx hs => by have h8 := GF.out x hx; have h9 := hlt x hs; omega)
          have HB5 := Lib.hid hB5; have H5 := Lib.hid h5; have RR := Lib.hid rr; have GR5 := Lib.hid gr5; have E5 := Lib.hid e5
          clear hB5 h5 rr rf gr5 hc4 hlt hsz4 e5
          go_wp2_with fail
          refine (HTI.out _ _ _ GR5.out RR.out).mono ?_
          rintro e w6 ⟨rfl, e6⟩
          go_wp2_with fail
          go_meet
          have o4 := HOW.out.left HWR.out.lt E4.out (fun x h => .inl h)
          have o5 := (o4.right H4.out.lt E5.out (fun x h => .inl h)).quiet e6
          exact ⟨rfl, HB5.out.keep e6 (by simp), S, R, _, (H4.out.keep E5.out (fun x hx hr => o4.ne x hx hr)).keep0 e6, H5.out.keep0 e6, o5, HKO.out, by rw [HLL.out]; omega, hSB, hRB⟩
        | false =>
          have hp20 : z.ids.length < 100000 := by rw [← HZL.out]; omega
          have htk := so_make b S M z.row z.ids (by omega) hp20 w3 hw HSRC3.out
          have htr := fun W (hW : RS W r R M) hs => rs_make r R M z.row z.ids (by omega) hp20 W hW hs
          have hll := mkL_len M z.ids
          have hko := hok.out.mk hp20
          have hsk : z.ids ≠ [] → ∀ x, z.row.ownBlock = some x → x ∉ S := fun hn x hx hs => by
            have h8 := HLO.out hn x hx
            have h9 := ow.ges x hs
            omega
          unfold DeedS.row at htk htr
          rw [← HZL.out] at htk htr
          have HW := Lib.hid hw; have HWR := Lib.hid hwr; have HOW := Lib.hid ow; have HB := Lib.hid hB; have HKO := Lib.hid hko
          generalize mkL M z.ids = q at htk htr HKO hll
          generalize mkS M z.ids = k at htk htr
          generalize (if k = 0 then (M.length : Int) + 1 else 0) = kk at htk htr
          have HGV := Lib.hid htk; have HGR := Lib.hid htr; have HLL := Lib.hid hll; have HSK := Lib.hid hsk
          clear htk htr hw hwr ow hB hko hll hp20 hsk
          go_wp2_with fail
          refine HGV.out.mono ?_
          rintro e w4 ⟨rfl, S4, h4, e4, k4⟩
          have hB4 := HB.out.keep e4 hBS
          have hR4 := HWR.out.keep e4 (fun x hx hs => HOW.out.ne x hs hx)
          have hs4 := HSRC3.out.keep' e4 HSK.out
          have hc4 : w4.cell? ⟨B, 2, none⟩ = some (.slice z.pa zl z.pc) := by have := hB4.cell 2; rw [HZL.out]; exact this
          unfold DeedS.row at hs4
          rw [← HZL.out] at hs4
          have HB4 := Lib.hid hB4; have HR4 := Lib.hid hR4; have H4 := Lib.hid h4; have HS4 := Lib.hid hs4
          clear hB4 hR4 h4 hs4 hc0 hc1 hc2
          go_wp2_with fail
          refine (HGR.out _ HR4.out HS4.out).mono ?_
          rintro e w5 ⟨rfl, R5, h5, e5, k5⟩
          have hB5 := HB4.out.keep e5 hBR
          go_wp2_with fail
          go_meet
          have o4 := HOW.out.left HWR.out.lt e4 k4
          exact ⟨rfl, hB5, S4, R5, _, H4.out.keep e5 (fun x hx hr => o4.ne x hx hr), h5, o4.right H4.out.lt e5 k5, HKO.out, by have := HLL.out; omega, own_ne hSB k4 HB.out.lt, own_ne hRB k5 HB4.out.lt⟩
      case rest =>
        obtain ⟨rfl, hBc, S', R', M', hw', hwr', ow', hok', hlen', hSB', hRB'⟩ := hcut
        have hd1 : SO wc.drew b S' M' := hw'.keep0 (Ext.refl [] wc).drew
        have hd2 : RS wc.drew r R' M' := hwr'.keep0 (Ext.refl [] wc).drew
        have hlB := hBc.lt
        have hc1 : wc.cell? ⟨B, 1, none⟩ = some (.int .i64 z.id) := hBc.cell 1
        obtain ⟨ra, rc, hrow⟩ := hwr'.row
        have hlr : r < wc.heap.size := lt_of_cell hrow
        obtain ⟨m, hm⟩ : ∃ m, m = M'.length := ⟨_, rfl⟩
        have hsz : M'.length < 1000 := by omega
        have a1 := fun W (hW : Ext [] wc.drew W) => so_aborted b S' M' ask (by omega) W (hd1.keep0 hW)
        have a2 := fun W (hW : Ext [] wc.drew W) => rs_aborted r R' M' ask (by omega) W (hd2.keep0 hW)
        have a3 := fun W (hW : Ext [] wc.drew W) => so_aborted b S' M' z.id (by omega) W (hd1.keep0 hW)
        have a4 := fun W (hW : Ext [] wc.drew W) => rs_aborted r R' M' z.id (by omega) W (hd2.keep0 hW)
        have a5 := fun W (hW : Ext [] wc.drew W) => so_under b S' M' ask (by omega) hok'.ok W (hd1.keep0 hW)
        have a6 := fun W (hW : Ext [] wc.drew W) => rs_under r R' M' ask (by omega) hok' W (hd2.keep0 hW)
        have a7 := fun W (hW : Ext [] wc.drew W) => so_under b S' M' z.id (by omega) hok'.ok W (hd1.keep0 hW)
        have a8 := fun W (hW : Ext [] wc.drew W) => rs_under r R' M' z.id (by omega) hok' W (hd2.keep0 hW)
        have a9 := fun W (hW : Ext [] wc.drew W) => so_len b S' M' W (hd1.keep0 hW)
        have l1 := undS_len M' ask
        have l2 := undS_len M' z.id
        rw [← hm] at a9 hrow l1 l2
        generalize offS M' ask = p1 at a1 a2
        generalize offS M' z.id = p2 at a3 a4
        generalize undS M' ask = u1 at a5 a6 l1
        generalize undS M' z.id = u2 at a7 a8 l2
        have i1 := fun W v v' (h : RI W v u1) (h' : RI W v' u1) => ints_any v v' u1 u1 (by omega) (by omega) W h h'
        have i2 := fun W v v' (h : RI W v u2) (h' : RI W v' u2) => ints_any v v' u2 u2 (by omega) (by omega) W h h'
        have hdk1 : decide (u1 = u1) = true := decide_eq_true rfl
        have hdk2 : decide (u2 = u2) = true := decide_eq_true rfl
        rw [hdk1] at i1; rw [hdk2] at i2
        have A1 := Lib.hid a1; have A2 := Lib.hid a2; have A3 := Lib.hid a3; have A4 := Lib.hid a4; have A5 := Lib.hid a5; have A6 := Lib.hid a6; have A7 := Lib.hid a7; have A8 := Lib.hid a8; have A9 := Lib.hid a9; have I1 := Lib.hid i1; have I2 := Lib.hid i2
        have HW := Lib.hid hw'; have HWR := Lib.hid hwr'; have HOW := Lib.hid ow'; have HOK := Lib.hid hok'; have HM := Lib.hid hm
        have keepf : ∀ W, Ext [] wc.drew W → W.cell? ⟨B, 1, none⟩ = some (.int .i64 z.id) := fun W hW => (hW.cell (p := ⟨B, 1, none⟩) hlB (by simp)).trans hc1
        have keepr : ∀ W, Ext [] wc.drew W → W.cell? ⟨r, 0, none⟩ = some (.slice ra m rc) := fun W hW => (hW.cell (p := ⟨r, 0, none⟩) hlr (by simp)).trans hrow
        have KF := Lib.hid keepf; have KR := Lib.hid keepr
        clear a1 a2 a3 a4 a5 a6 a7 a8 a9 i1 i2 hd1 hd2 hw' hwr' ow' hok' hc0 hdk1 hdk2 hok hBc l1 l2 hm keepf keepr hsz
        go_wp2_with fail
        refine start_ (n := 50) (S := fun w' => w'.cell? ⟨B, 1, none⟩ = some (.int .i64 z.id) ∧ w'.cell? ⟨r, 0, none⟩ = some (.slice ra m rc)) (ds := []) #[false, false, false, false, false, false, false, false, false, false, false, false, false, false, false, false, false, false, false, false, false, false, false, false, false, false, false, false, false, false, false, false, false, false, false, false, false, false, false, false, false, false, false, false, false, false, false, false, false, false] (by kernel_rfl) rfl rfl ⟨hc1, hrow⟩ (fun hHeld => ?_)
        refine pure_ (i := 0) (N := some 89) (v := ?_) (a' := ?_) #[true, false, false, false, false, false, false, false, false, false, false, false, false, false, false, false, false, false, false, false, false, false, false, false, false, false, false, false, false, false, false, false, false, false, false, false, false, false, false, false, false, false, false, false, false, false, false, false, false, false] rfl rfl (by kernel_rfl) (fun _ _ _ h => h) (Or.inl ⟨by rfl, ?_⟩) ?_ ?_
        rotate_left
        · intro w'
          go_simp
          with_reducible rfl
        rotate_left
        · simp only [Act.put, List.setIfInBounds_toArray, List.set_cons_zero, List.set_cons_succ, i64_w, i32_w]
          rfl
        refine pure_ (i := 1) (N := some 90) (v := ?_) (a' := ?_) #[true, true, false, false, false, false, false, false, false, false, false, false, false, false, false, false, false, false, false, false, false, false, false, false, false, false, false, false, false, false, false, false, false, false, false, false, false, false, false, false, false, false, false, false, false, false, false, false, false, false] rfl rfl (by kernel_rfl) (fun _ _ _ h => h) (Or.inl ⟨by rfl, ?_⟩) ?_ ?_
        rotate_left
        · intro w'
          go_simp
          with_reducible rfl
        rotate_left
        · simp only [Act.put, List.setIfInBounds_toArray, List.set_cons_zero, List.set_cons_succ, i64_w, i32_w]
          rfl
        refine pure_ (i := 3) (N := some 92) (v := ?_) (a' := ?_) #[true, true, false, true, false, false, false, false, false, false, false, false, false, false, false, false, false, false, false, false, false, false, false, false, false, false, false, false, false, false, false, false, false, false, false, false, false, false, false, false, false, false, false, false, false, false, false, false, false, false] rfl rfl (by kernel_rfl) (fun _ _ _ h => h) (Or.inl ⟨by rfl, ?_⟩) ?_ ?_
        rotate_left
        · intro w'
          go_simp
          with_reducible rfl
        rotate_left
        · simp only [Act.put, List.setIfInBounds_toArray, List.set_cons_zero, List.set_cons_succ, i64_w, i32_w]
          rfl
        refine pure_ (i := 4) (N := some 93) (v := ?_) (a' := ?_) #[true, true, false, true, true, false, false, false, false, false, false, false, false, false, false, false, false, false, false, false, false, false, false, false, false, false, false, false, false, false, false, false, false, false, false, false, false, false, false, false, false, false, false, false, false, false, false, false, false, false] rfl rfl (by kernel_rfl) (fun _ _ _ h => h) (Or.inl ⟨by rfl, ?_⟩) ?_ ?_
        rotate_left
        · intro w'
          go_simp
          with_reducible rfl
        rotate_left
        · simp only [Act.put, List.setIfInBounds_toArray, List.set_cons_zero, List.set_cons_succ, i64_w, i32_w]
          rfl
        refine one_ (i := 2) (N := some 91) #[true, true, true, true, true, false, false, false, false, false, false, false, false, false, false, false, false, false, false, false, false, false, false, false, false, false, false, false, false, false, false, false, false, false, false, false, false, false, false, false, false, false, false, false, false, false, false, false, false, false] rfl rfl (by kernel_rfl) (by decide) (fun K hK => ?_)
        refine goes_ Try.func29 (by kernel_rfl) rfl #[.pointer (some ⟨b, 0, none⟩), .int .i64 ask] (by rfl) rfl rfl (by simp only [List.map_toArray, List.map_cons, List.map_nil]; rfl) ?_
        with_reducible refine (A1.out _ (Ext.refl _ _)).mono ?_
        rintro e w3 ⟨rfl, rfl⟩
        refine ⟨_, rfl, ?_⟩
        refine hK.out _ _ ⟨(KF.out _ (Ext.refl _ _)), (KR.out _ (Ext.refl _ _))⟩ (fun hHeld => ?_)
        clear hK K
        refine norm_ (a' := ?_) ?_ ?_
        rotate_left
        · show Act.put _ (some 91) _ = _
          simp only [Act.put, List.setIfInBounds_toArray, List.set_cons_zero, List.set_cons_succ, i64_w, i32_w]
          rfl
        refine one_ (i := 5) (N := some 94) #[true, true, true, true, true, true, false, false, false, false, false, false, false, false, false, false, false, false, false, false, false, false, false, false, false, false, false, false, false, false, false, false, false, false, false, false, false, false, false, false, false, false, false, false, false, false, false, false, false, false] rfl rfl (by kernel_rfl) (by decide) (fun K hK => ?_)
        refine goes_ Try.func30 (by kernel_rfl) rfl #[.pointer (some ⟨r, 0, none⟩), .int .i64 ask] (by rfl) rfl rfl (by simp only [List.map_toArray, List.map_cons, List.map_nil]; rfl) ?_
        with_reducible refine (A2.out _ (Ext.refl _ _)).mono ?_
        rintro e w3 ⟨rfl, rfl⟩
        refine ⟨_, rfl, ?_⟩
        refine hK.out _ _ ⟨(KF.out _ (Ext.refl _ _)), (KR.out _ (Ext.refl _ _))⟩ (fun hHeld => ?_)
        clear hK K
        refine norm_ (a' := ?_) ?_ ?_
        rotate_left
        · show Act.put _ (some 94) _ = _
          simp only [Act.put, List.setIfInBounds_toArray, List.set_cons_zero, List.set_cons_succ, i64_w, i32_w]
          rfl
        refine pure_ (i := 6) (N := some 95) (v := ?_) (a' := ?_) #[true, true, true, true, true, true, true, false, false, false, false, false, false, false, false, false, false, false, false, false, false, false, false, false, false, false, false, false, false, false, false, false, false, false, false, false, false, false, false, false, false, false, false, false, false, false, false, false, false, false] rfl rfl (by kernel_rfl) (fun _ _ _ h => h) (Or.inl ⟨by rfl, ?_⟩) ?_ ?_
        rotate_left
        · intro w'
          go_simp
          with_reducible rfl
        rotate_left
        · simp only [Act.put, List.setIfInBounds_toArray, List.set_cons_zero, List.set_cons_succ, i64_w, i32_w]
          rfl
        refine pure_ (i := 7) (N := some 96) (v := ?_) (a' := ?_) #[true, true, true, true, true, true, true, true, false, false, false, false, false, false, false, false, false, false, false, false, false, false, false, false, false, false, false, false, false, false, false, false, false, false, false, false, false, false, false, false, false, false, false, false, false, false, false, false, false, false] rfl rfl (by kernel_rfl) (fun _ _ _ h => h) (Or.inl ⟨by rfl, ?_⟩) ?_ ?_
        rotate_left
        · intro w'
          go_simp
          with_reducible rfl
        rotate_left
        · simp only [Act.put, List.setIfInBounds_toArray, List.set_cons_zero, List.set_cons_succ, i64_w, i32_w]
          rfl
        refine pure_ (i := 8) (N := some 97) (v := ?_) (a' := ?_) #[true, true, true, true, true, true, true, true, true, false, false, false, false, false, false, false, false, false, false, false, false, false, false, false, false, false, false, false, false, false, false, false, false, false, false, false, false, false, false, false, false, false, false, false, false, false, false, false, false, false] rfl rfl (by kernel_rfl) (fun _ _ _ h => h) (Or.inl ⟨by rfl, ?_⟩) ?_ ?_
        rotate_left
        · intro w'
          go_simp
          with_reducible rfl
        rotate_left
        · simp only [Act.put, List.setIfInBounds_toArray, List.set_cons_zero, List.set_cons_succ, i64_w, i32_w]
          rfl
        refine pure_ (i := 9) (N := some 98) (v := ?_) (a' := ?_) #[true, true, true, true, true, true, true, true, true, true, false, false, false, false, false, false, false, false, false, false, false, false, false, false, false, false, false, false, false, false, false, false, false, false, false, false, false, false, false, false, false, false, false, false, false, false, false, false, false, false] rfl rfl (by kernel_rfl) (fun _ _ _ h => h) (Or.inl ⟨by rfl, ?_⟩) ?_ ?_
        rotate_left
        · intro w'
          go_simp
          with_reducible rfl
        rotate_left
        · simp only [Act.put, List.setIfInBounds_toArray, List.set_cons_zero, List.set_cons_succ, i64_w, i32_w]
          rfl
        refine pure_ (i := 12) (N := some 101) (v := ?_) (a' := ?_) #[true, true, true, true, true, true, true, true, true, true, false, false, true, false, false, false, false, false, false, false, false, false, false, false, false, false, false, false, false, false, false, false, false, false, false, false, false, false, false, false, false, false, false, false, false, false, false, false, false, false] rfl rfl (by kernel_rfl) (fun _ _ _ h => h) (Or.inl ⟨by rfl, ?_⟩) ?_ ?_
        rotate_left
        · intro w'
          go_simp
          with_reducible rfl
        rotate_left
        · simp only [Act.put, List.setIfInBounds_toArray, List.set_cons_zero, List.set_cons_succ, i64_w, i32_w]
          rfl
        refine pure_ (i := 13) (N := some 102) (v := ?_) (a' := ?_) #[true, true, true, true, true, true, true, true, true, true, false, false, true, true, false, false, false, false, false, false, false, false, false, false, false, false, false, false, false, false, false, false, false, false, false, false, false, false, false, false, false, false, false, false, false, false, false, false, false, false] rfl rfl (by kernel_rfl) (fun _ _ _ h => h) (Or.inl ⟨by rfl, ?_⟩) ?_ ?_
        rotate_left
        · intro w'
          go_simp
          with_reducible rfl
        rotate_left
        · simp only [Act.put, List.setIfInBounds_toArray, List.set_cons_zero, List.set_cons_succ, i64_w, i32_w]
          rfl
        refine take_ (i := 10) (N := some 99) (v := ?_) (a' := ?_) #[true, true, true, true, true, true, true, true, true, true, true, false, true, true, false, false, false, false, false, false, false, false, false, false, false, false, false, false, false, false, false, false, false, false, false, false, false, false, false, false, false, false, false, false, false, false, false, false, false, false] rfl rfl (by kernel_rfl) (fun _ _ _ h => h) (Or.inl ⟨by rfl, ?_⟩) hHeld ?_ ?_
        rotate_left
        · rintro w' ⟨s0, s1⟩
          go_simp
          with_reducible rfl
        rotate_left
        · simp only [Act.put, List.setIfInBounds_toArray, List.set_cons_zero, List.set_cons_succ, i64_w, i32_w]
          rfl
        refine take_ (i := 14) (N := some 103) (v := ?_) (a' := ?_) #[true, true, true, true, true, true, true, true, true, true, true, false, true, true, true, false, false, false, false, false, false, false, false, false, false, false, false, false, false, false, false, false, false, false, false, false, false, false, false, false, false, false, false, false, false, false, false, false, false, false] rfl rfl (by kernel_rfl) (fun _ _ _ h => h) (Or.inl ⟨by rfl, ?_⟩) hHeld ?_ ?_
        rotate_left
        · rintro w' ⟨s0, s1⟩
          go_simp
          with_reducible rfl
        rotate_left
        · simp only [Act.put, List.setIfInBounds_toArray, List.set_cons_zero, List.set_cons_succ, i64_w, i32_w]
          rfl
        refine one_ (i := 11) (N := some 100) #[true, true, true, true, true, true, true, true, true, true, true, true, true, true, true, false, false, false, false, false, false, false, false, false, false, false, false, false, false, false, false, false, false, false, false, false, false, false, false, false, false, false, false, false, false, false, false, false, false, false] rfl rfl (by kernel_rfl) (by decide) (fun K hK => ?_)
        refine goes_ Try.func29 (by kernel_rfl) rfl #[.pointer (some ⟨b, 0, none⟩), .int .i64 z.id] (by rfl) rfl rfl (by simp only [List.map_toArray, List.map_cons, List.map_nil]; rfl) ?_
        with_reducible refine (A3.out _ (Ext.refl _ _)).mono ?_
        rintro e w3 ⟨rfl, rfl⟩
        refine ⟨_, rfl, ?_⟩
        refine hK.out _ _ ⟨(KF.out _ (Ext.refl _ _)), (KR.out _ (Ext.refl _ _))⟩ (fun hHeld => ?_)
        clear hK K
        refine norm_ (a' := ?_) ?_ ?_
        rotate_left
        · show Act.put _ (some 100) _ = _
          simp only [Act.put, List.setIfInBounds_toArray, List.set_cons_zero, List.set_cons_succ, i64_w, i32_w]
          rfl
        refine one_ (i := 15) (N := some 104) #[true, true, true, true, true, true, true, true, true, true, true, true, true, true, true, true, false, false, false, false, false, false, false, false, false, false, false, false, false, false, false, false, false, false, false, false, false, false, false, false, false, false, false, false, false, false, false, false, false, false] rfl rfl (by kernel_rfl) (by decide) (fun K hK => ?_)
        refine goes_ Try.func30 (by kernel_rfl) rfl #[.pointer (some ⟨r, 0, none⟩), .int .i64 z.id] (by rfl) rfl rfl (by simp only [List.map_toArray, List.map_cons, List.map_nil]; rfl) ?_
        with_reducible refine (A4.out _ (Ext.refl _ _)).mono ?_
        rintro e w3 ⟨rfl, rfl⟩
        refine ⟨_, rfl, ?_⟩
        refine hK.out _ _ ⟨(KF.out _ (Ext.refl _ _)), (KR.out _ (Ext.refl _ _))⟩ (fun hHeld => ?_)
        clear hK K
        refine norm_ (a' := ?_) ?_ ?_
        rotate_left
        · show Act.put _ (some 104) _ = _
          simp only [Act.put, List.setIfInBounds_toArray, List.set_cons_zero, List.set_cons_succ, i64_w, i32_w]
          rfl
        refine pure_ (i := 16) (N := some 105) (v := ?_) (a' := ?_) #[true, true, true, true, true, true, true, true, true, true, true, true, true, true, true, true, true, false, false, false, false, false, false, false, false, false, false, false, false, false, false, false, false, false, false, false, false, false, false, false, false, false, false, false, false, false, false, false, false, false] rfl rfl (by kernel_rfl) (fun _ _ _ h => h) (Or.inl ⟨by rfl, ?_⟩) ?_ ?_
        rotate_left
        · intro w'
          go_simp
          with_reducible rfl
        rotate_left
        · simp only [Act.put, List.setIfInBounds_toArray, List.set_cons_zero, List.set_cons_succ, i64_w, i32_w]
          rfl
        refine pure_ (i := 17) (N := some 106) (v := ?_) (a' := ?_) #[true, true, true, true, true, true, true, true, true, true, true, true, true, true, true, true, true, true, false, false, false, false, false, false, false, false, false, false, false, false, false, false, false, false, false, false, false, false, false, false, false, false, false, false, false, false, false, false, false, false] rfl rfl (by kernel_rfl) (fun _ _ _ h => h) (Or.inl ⟨by rfl, ?_⟩) ?_ ?_
        rotate_left
        · intro w'
          go_simp
          with_reducible rfl
        rotate_left
        · simp only [Act.put, List.setIfInBounds_toArray, List.set_cons_zero, List.set_cons_succ, i64_w, i32_w]
          rfl
        refine pure_ (i := 18) (N := some 107) (v := ?_) (a' := ?_) #[true, true, true, true, true, true, true, true, true, true, true, true, true, true, true, true, true, true, true, false, false, false, false, false, false, false, false, false, false, false, false, false, false, false, false, false, false, false, false, false, false, false, false, false, false, false, false, false, false, false] rfl rfl (by kernel_rfl) (fun _ _ _ h => h) (Or.inl ⟨by rfl, ?_⟩) ?_ ?_
        rotate_left
        · intro w'
          go_simp
          with_reducible rfl
        rotate_left
        · simp only [Act.put, List.setIfInBounds_toArray, List.set_cons_zero, List.set_cons_succ, i64_w, i32_w]
          rfl
        refine pure_ (i := 19) (N := some 108) (v := ?_) (a' := ?_) #[true, true, true, true, true, true, true, true, true, true, true, true, true, true, true, true, true, true, true, true, false, false, false, false, false, false, false, false, false, false, false, false, false, false, false, false, false, false, false, false, false, false, false, false, false, false, false, false, false, false] rfl rfl (by kernel_rfl) (fun _ _ _ h => h) (Or.inl ⟨by rfl, ?_⟩) ?_ ?_
        rotate_left
        · intro w'
          go_simp
          with_reducible rfl
        rotate_left
        · simp only [Act.put, List.setIfInBounds_toArray, List.set_cons_zero, List.set_cons_succ, i64_w, i32_w]
          rfl
        refine pure_ (i := 20) (N := some 109) (v := ?_) (a' := ?_) #[true, true, true, true, true, true, true, true, true, true, true, true, true, true, true, true, true, true, true, true, true, false, false, false, false, false, false, false, false, false, false, false, false, false, false, false, false, false, false, false, false, false, false, false, false, false, false, false, false, false] rfl rfl (by kernel_rfl) (fun _ _ _ h => h) (Or.inl ⟨by rfl, ?_⟩) ?_ ?_
        rotate_left
        · intro w'
          go_simp
          with_reducible rfl
        rotate_left
        · simp only [Act.put, List.setIfInBounds_toArray, List.set_cons_zero, List.set_cons_succ, i64_w, i32_w]
          rfl
        refine pure_ (i := 22) (N := some 111) (v := ?_) (a' := ?_) #[true, true, true, true, true, true, true, true, true, true, true, true, true, true, true, true, true, true, true, true, true, false, true, false, false, false, false, false, false, false, false, false, false, false, false, false, false, false, false, false, false, false, false, false, false, false, false, false, false, false] rfl rfl (by kernel_rfl) (fun _ _ _ h => h) (Or.inl ⟨by rfl, ?_⟩) ?_ ?_
        rotate_left
        · intro w'
          go_simp
          with_reducible rfl
        rotate_left
        · simp only [Act.put, List.setIfInBounds_toArray, List.set_cons_zero, List.set_cons_succ, i64_w, i32_w]
          rfl
        refine pure_ (i := 23) (N := some 112) (v := ?_) (a' := ?_) #[true, true, true, true, true, true, true, true, true, true, true, true, true, true, true, true, true, true, true, true, true, false, true, true, false, false, false, false, false, false, false, false, false, false, false, false, false, false, false, false, false, false, false, false, false, false, false, false, false, false] rfl rfl (by kernel_rfl) (fun _ _ _ h => h) (Or.inl ⟨by rfl, ?_⟩) ?_ ?_
        rotate_left
        · intro w'
          go_simp
          with_reducible rfl
        rotate_left
        · simp only [Act.put, List.setIfInBounds_toArray, List.set_cons_zero, List.set_cons_succ, i64_w, i32_w]
          rfl
        refine one_ (i := 21) (N := some 110) #[true, true, true, true, true, true, true, true, true, true, true, true, true, true, true, true, true, true, true, true, true, true, true, true, false, false, false, false, false, false, false, false, false, false, false, false, false, false, false, false, false, false, false, false, false, false, false, false, false, false] rfl rfl (by kernel_rfl) (by decide) (fun K hK => ?_)
        refine goes_ Try.func21 (by kernel_rfl) rfl #[.pointer (some ⟨b, 0, none⟩), .int .i64 ask] (by rfl) rfl rfl (by simp only [List.map_toArray, List.map_cons, List.map_nil]; rfl) ?_
        with_reducible refine (A5.out _ (Ext.refl _ _)).mono ?_
        rintro e w4 ⟨a4, c4, rfl, hr4, e4, hf4⟩
        refine ⟨_, rfl, ?_⟩
        refine hK.out _ _ ⟨(KF.out _ e4), (KR.out _ e4)⟩ (fun hHeld => ?_)
        clear hK K
        refine norm_ (a' := ?_) ?_ ?_
        rotate_left
        · show Act.put _ (some 110) _ = _
          simp only [Act.put, List.setIfInBounds_toArray, List.set_cons_zero, List.set_cons_succ, i64_w, i32_w]
          rfl
        refine one_ (i := 24) (N := some 113) #[true, true, true, true, true, true, true, true, true, true, true, true, true, true, true, true, true, true, true, true, true, true, true, true, true, false, false, false, false, false, false, false, false, false, false, false, false, false, false, false, false, false, false, false, false, false, false, false, false, false] rfl rfl (by kernel_rfl) (by decide) (fun K hK => ?_)
        refine goes_ Try.func31 (by kernel_rfl) rfl #[.pointer (some ⟨r, 0, none⟩), .int .i64 ask] (by rfl) rfl rfl (by simp only [List.map_toArray, List.map_cons, List.map_nil]; rfl) ?_
        with_reducible refine (A6.out _ e4).mono ?_
        rintro e w5 ⟨a5, c5, rfl, hr5, f5, hf5⟩
        refine ⟨_, rfl, ?_⟩
        have e5 := e4.trans f5 (by simp)
        have hr45 := hr4.keep f5 (by simp)
        refine hK.out _ _ ⟨(KF.out _ e5), (KR.out _ e5)⟩ (fun hHeld => ?_)
        clear hK K
        refine norm_ (a' := ?_) ?_ ?_
        rotate_left
        · show Act.put _ (some 113) _ = _
          simp only [Act.put, List.setIfInBounds_toArray, List.set_cons_zero, List.set_cons_succ, i64_w, i32_w]
          rfl
        refine one_ (i := 25) (N := some 114) #[true, true, true, true, true, true, true, true, true, true, true, true, true, true, true, true, true, true, true, true, true, true, true, true, true, true, false, false, false, false, false, false, false, false, false, false, false, false, false, false, false, false, false, false, false, false, false, false, false, false] rfl rfl (by kernel_rfl) (by decide) (fun K hK => ?_)
        refine goes_ Try.func27 (by kernel_rfl) rfl #[.slice a4 u1.length c4, .slice a5 u1.length c5] (by rfl) rfl rfl (by simp only [List.map_toArray, List.map_cons, List.map_nil]; rfl) ?_
        with_reducible refine (I1.out _ _ _ hr45 hr5).mono ?_
        rintro e w6 ⟨rfl, f6⟩
        refine ⟨_, rfl, ?_⟩
        have e6 := e5.trans f6 (by simp)
        refine hK.out _ _ ⟨(KF.out _ e6), (KR.out _ e6)⟩ (fun hHeld => ?_)
        clear hK K
        refine norm_ (a' := ?_) ?_ ?_
        rotate_left
        · show Act.put _ (some 114) _ = _
          simp only [Act.put, List.setIfInBounds_toArray, List.set_cons_zero, List.set_cons_succ, i64_w, i32_w]
          rfl
        refine pure_ (i := 26) (N := some 115) (v := ?_) (a' := ?_) #[true, true, true, true, true, true, true, true, true, true, true, true, true, true, true, true, true, true, true, true, true, true, true, true, true, true, true, false, false, false, false, false, false, false, false, false, false, false, false, false, false, false, false, false, false, false, false, false, false, false] rfl rfl (by kernel_rfl) (fun _ _ _ h => h) (Or.inl ⟨by rfl, ?_⟩) ?_ ?_
        rotate_left
        · intro w'
          go_simp
          with_reducible rfl
        rotate_left
        · simp only [Act.put, List.setIfInBounds_toArray, List.set_cons_zero, List.set_cons_succ, i64_w, i32_w]
          rfl
        refine pure_ (i := 27) (N := some 116) (v := ?_) (a' := ?_) #[true, true, true, true, true, true, true, true, true, true, true, true, true, true, true, true, true, true, true, true, true, true, true, true, true, true, true, true, false, false, false, false, false, false, false, false, false, false, false, false, false, false, false, false, false, false, false, false, false, false] rfl rfl (by kernel_rfl) (fun _ _ _ h => h) (Or.inl ⟨by rfl, ?_⟩) ?_ ?_
        rotate_left
        · intro w'
          go_simp
          with_reducible rfl
        rotate_left
        · simp only [Act.put, List.setIfInBounds_toArray, List.set_cons_zero, List.set_cons_succ, i64_w, i32_w]
          rfl
        refine pure_ (i := 28) (N := some 117) (v := ?_) (a' := ?_) #[true, true, true, true, true, true, true, true, true, true, true, true, true, true, true, true, true, true, true, true, true, true, true, true, true, true, true, true, true, false, false, false, false, false, false, false, false, false, false, false, false, false, false, false, false, false, false, false, false, false] rfl rfl (by kernel_rfl) (fun _ _ _ h => h) (Or.inl ⟨by rfl, ?_⟩) ?_ ?_
        rotate_left
        · intro w'
          go_simp
          with_reducible rfl
        rotate_left
        · simp only [Act.put, List.setIfInBounds_toArray, List.set_cons_zero, List.set_cons_succ, i64_w, i32_w]
          rfl
        refine pure_ (i := 29) (N := some 118) (v := ?_) (a' := ?_) #[true, true, true, true, true, true, true, true, true, true, true, true, true, true, true, true, true, true, true, true, true, true, true, true, true, true, true, true, true, true, false, false, false, false, false, false, false, false, false, false, false, false, false, false, false, false, false, false, false, false] rfl rfl (by kernel_rfl) (fun _ _ _ h => h) (Or.inl ⟨by rfl, ?_⟩) ?_ ?_
        rotate_left
        · intro w'
          go_simp
          with_reducible rfl
        rotate_left
        · simp only [Act.put, List.setIfInBounds_toArray, List.set_cons_zero, List.set_cons_succ, i64_w, i32_w]
          rfl
        refine pure_ (i := 30) (N := some 119) (v := ?_) (a' := ?_) #[true, true, true, true, true, true, true, true, true, true, true, true, true, true, true, true, true, true, true, true, true, true, true, true, true, true, true, true, true, true, true, false, false, false, false, false, false, false, false, false, false, false, false, false, false, false, false, false, false, false] rfl rfl (by kernel_rfl) (fun _ _ _ h => h) (Or.inl ⟨by rfl, ?_⟩) ?_ ?_
        rotate_left
        · intro w'
          go_simp
          with_reducible rfl
        rotate_left
        · simp only [Act.put, List.setIfInBounds_toArray, List.set_cons_zero, List.set_cons_succ, i64_w, i32_w]
          rfl
        refine pure_ (i := 33) (N := some 122) (v := ?_) (a' := ?_) #[true, true, true, true, true, true, true, true, true, true, true, true, true, true, true, true, true, true, true, true, true, true, true, true, true, true, true, true, true, true, true, false, false, true, false, false, false, false, false, false, false, false, false, false, false, false, false, false, false, false] rfl rfl (by kernel_rfl) (fun _ _ _ h => h) (Or.inl ⟨by rfl, ?_⟩) ?_ ?_
        rotate_left
        · intro w'
          go_simp
          with_reducible rfl
        rotate_left
        · simp only [Act.put, List.setIfInBounds_toArray, List.set_cons_zero, List.set_cons_succ, i64_w, i32_w]
          rfl
        refine pure_ (i := 34) (N := some 123) (v := ?_) (a' := ?_) #[true, true, true, true, true, true, true, true, true, true, true, true, true, true, true, true, true, true, true, true, true, true, true, true, true, true, true, true, true, true, true, false, false, true, true, false, false, false, false, false, false, false, false, false, false, false, false, false, false, false] rfl rfl (by kernel_rfl) (fun _ _ _ h => h) (Or.inl ⟨by rfl, ?_⟩) ?_ ?_
        rotate_left
        · intro w'
          go_simp
          with_reducible rfl
        rotate_left
        · simp only [Act.put, List.setIfInBounds_toArray, List.set_cons_zero, List.set_cons_succ, i64_w, i32_w]
          rfl
        refine take_ (i := 31) (N := some 120) (v := ?_) (a' := ?_) #[true, true, true, true, true, true, true, true, true, true, true, true, true, true, true, true, true, true, true, true, true, true, true, true, true, true, true, true, true, true, true, true, false, true, true, false, false, false, false, false, false, false, false, false, false, false, false, false, false, false] rfl rfl (by kernel_rfl) (fun _ _ _ h => h) (Or.inl ⟨by rfl, ?_⟩) hHeld ?_ ?_
        rotate_left
        · rintro w' ⟨s0, s1⟩
          go_simp
          with_reducible rfl
        rotate_left
        · simp only [Act.put, List.setIfInBounds_toArray, List.set_cons_zero, List.set_cons_succ, i64_w, i32_w]
          rfl
        refine take_ (i := 35) (N := some 124) (v := ?_) (a' := ?_) #[true, true, true, true, true, true, true, true, true, true, true, true, true, true, true, true, true, true, true, true, true, true, true, true, true, true, true, true, true, true, true, true, false, true, true, true, false, false, false, false, false, false, false, false, false, false, false, false, false, false] rfl rfl (by kernel_rfl) (fun _ _ _ h => h) (Or.inl ⟨by rfl, ?_⟩) hHeld ?_ ?_
        rotate_left
        · rintro w' ⟨s0, s1⟩
          go_simp
          with_reducible rfl
        rotate_left
        · simp only [Act.put, List.setIfInBounds_toArray, List.set_cons_zero, List.set_cons_succ, i64_w, i32_w]
          rfl
        refine one_ (i := 32) (N := some 121) #[true, true, true, true, true, true, true, true, true, true, true, true, true, true, true, true, true, true, true, true, true, true, true, true, true, true, true, true, true, true, true, true, true, true, true, true, false, false, false, false, false, false, false, false, false, false, false, false, false, false] rfl rfl (by kernel_rfl) (by decide) (fun K hK => ?_)
        refine goes_ Try.func21 (by kernel_rfl) rfl #[.pointer (some ⟨b, 0, none⟩), .int .i64 z.id] (by rfl) rfl rfl (by simp only [List.map_toArray, List.map_cons, List.map_nil]; rfl) ?_
        with_reducible refine (A7.out _ e6).mono ?_
        rintro e w7 ⟨a7, c7, rfl, hr7, f7, hf7⟩
        refine ⟨_, rfl, ?_⟩
        have e7 := e6.trans f7 (by simp)
        refine hK.out _ _ ⟨(KF.out _ e7), (KR.out _ e7)⟩ (fun hHeld => ?_)
        clear hK K
        refine norm_ (a' := ?_) ?_ ?_
        rotate_left
        · show Act.put _ (some 121) _ = _
          simp only [Act.put, List.setIfInBounds_toArray, List.set_cons_zero, List.set_cons_succ, i64_w, i32_w]
          rfl
        refine one_ (i := 36) (N := some 125) #[true, true, true, true, true, true, true, true, true, true, true, true, true, true, true, true, true, true, true, true, true, true, true, true, true, true, true, true, true, true, true, true, true, true, true, true, true, false, false, false, false, false, false, false, false, false, false, false, false, false] rfl rfl (by kernel_rfl) (by decide) (fun K hK => ?_)
        refine goes_ Try.func31 (by kernel_rfl) rfl #[.pointer (some ⟨r, 0, none⟩), .int .i64 z.id] (by rfl) rfl rfl (by simp only [List.map_toArray, List.map_cons, List.map_nil]; rfl) ?_
        with_reducible refine (A8.out _ e7).mono ?_
        rintro e w8 ⟨a8, c8, rfl, hr8, f8, hf8⟩
        refine ⟨_, rfl, ?_⟩
        have e8 := e7.trans f8 (by simp)
        have hr78 := hr7.keep f8 (by simp)
        refine hK.out _ _ ⟨(KF.out _ e8), (KR.out _ e8)⟩ (fun hHeld => ?_)
        clear hK K
        refine norm_ (a' := ?_) ?_ ?_
        rotate_left
        · show Act.put _ (some 125) _ = _
          simp only [Act.put, List.setIfInBounds_toArray, List.set_cons_zero, List.set_cons_succ, i64_w, i32_w]
          rfl
        refine one_ (i := 37) (N := some 126) #[true, true, true, true, true, true, true, true, true, true, true, true, true, true, true, true, true, true, true, true, true, true, true, true, true, true, true, true, true, true, true, true, true, true, true, true, true, true, false, false, false, false, false, false, false, false, false, false, false, false] rfl rfl (by kernel_rfl) (by decide) (fun K hK => ?_)
        refine goes_ Try.func27 (by kernel_rfl) rfl #[.slice a7 u2.length c7, .slice a8 u2.length c8] (by rfl) rfl rfl (by simp only [List.map_toArray, List.map_cons, List.map_nil]; rfl) ?_
        with_reducible refine (I2.out _ _ _ hr78 hr8).mono ?_
        rintro e w9 ⟨rfl, f9⟩
        refine ⟨_, rfl, ?_⟩
        have e9 := e8.trans f9 (by simp)
        refine hK.out _ _ ⟨(KF.out _ e9), (KR.out _ e9)⟩ (fun hHeld => ?_)
        clear hK K
        refine norm_ (a' := ?_) ?_ ?_
        rotate_left
        · show Act.put _ (some 126) _ = _
          simp only [Act.put, List.setIfInBounds_toArray, List.set_cons_zero, List.set_cons_succ, i64_w, i32_w]
          rfl
        refine pure_ (i := 38) (N := some 127) (v := ?_) (a' := ?_) #[true, true, true, true, true, true, true, true, true, true, true, true, true, true, true, true, true, true, true, true, true, true, true, true, true, true, true, true, true, true, true, true, true, true, true, true, true, true, true, false, false, false, false, false, false, false, false, false, false, false] rfl rfl (by kernel_rfl) (fun _ _ _ h => h) (Or.inl ⟨by rfl, ?_⟩) ?_ ?_
        rotate_left
        · intro w'
          go_simp
          with_reducible rfl
        rotate_left
        · simp only [Act.put, List.setIfInBounds_toArray, List.set_cons_zero, List.set_cons_succ, i64_w, i32_w]
          rfl
        refine pure_ (i := 39) (N := some 128) (v := ?_) (a' := ?_) #[true, true, true, true, true, true, true, true, true, true, true, true, true, true, true, true, true, true, true, true, true, true, true, true, true, true, true, true, true, true, true, true, true, true, true, true, true, true, true, true, false, false, false, false, false, false, false, false, false, false] rfl rfl (by kernel_rfl) (fun _ _ _ h => h) (Or.inl ⟨by rfl, ?_⟩) ?_ ?_
        rotate_left
        · intro w'
          go_simp
          with_reducible rfl
        rotate_left
        · simp only [Act.put, List.setIfInBounds_toArray, List.set_cons_zero, List.set_cons_succ, i64_w, i32_w]
          rfl
        refine pure_ (i := 40) (N := some 129) (v := ?_) (a' := ?_) #[true, true, true, true, true, true, true, true, true, true, true, true, true, true, true, true, true, true, true, true, true, true, true, true, true, true, true, true, true, true, true, true, true, true, true, true, true, true, true, true, true, false, false, false, false, false, false, false, false, false] rfl rfl (by kernel_rfl) (fun _ _ _ h => h) (Or.inl ⟨by rfl, ?_⟩) ?_ ?_
        rotate_left
        · intro w'
          go_simp
          with_reducible rfl
        rotate_left
        · simp only [Act.put, List.setIfInBounds_toArray, List.set_cons_zero, List.set_cons_succ, i64_w, i32_w]
          rfl
        refine pure_ (i := 41) (N := some 130) (v := ?_) (a' := ?_) #[true, true, true, true, true, true, true, true, true, true, true, true, true, true, true, true, true, true, true, true, true, true, true, true, true, true, true, true, true, true, true, true, true, true, true, true, true, true, true, true, true, true, false, false, false, false, false, false, false, false] rfl rfl (by kernel_rfl) (fun _ _ _ h => h) (Or.inl ⟨by rfl, ?_⟩) ?_ ?_
        rotate_left
        · intro w'
          go_simp
          with_reducible rfl
        rotate_left
        · simp only [Act.put, List.setIfInBounds_toArray, List.set_cons_zero, List.set_cons_succ, i64_w, i32_w]
          rfl
        refine pure_ (i := 43) (N := some 132) (v := ?_) (a' := ?_) #[true, true, true, true, true, true, true, true, true, true, true, true, true, true, true, true, true, true, true, true, true, true, true, true, true, true, true, true, true, true, true, true, true, true, true, true, true, true, true, true, true, true, false, true, false, false, false, false, false, false] rfl rfl (by kernel_rfl) (fun _ _ _ h => h) (Or.inl ⟨by rfl, ?_⟩) ?_ ?_
        rotate_left
        · intro w'
          go_simp
          with_reducible rfl
        rotate_left
        · simp only [Act.put, List.setIfInBounds_toArray, List.set_cons_zero, List.set_cons_succ, i64_w, i32_w]
          rfl
        refine pure_ (i := 44) (N := some 133) (v := ?_) (a' := ?_) #[true, true, true, true, true, true, true, true, true, true, true, true, true, true, true, true, true, true, true, true, true, true, true, true, true, true, true, true, true, true, true, true, true, true, true, true, true, true, true, true, true, true, false, true, true, false, false, false, false, false] rfl rfl (by kernel_rfl) (fun _ _ _ h => h) (Or.inl ⟨by rfl, ?_⟩) ?_ ?_
        rotate_left
        · intro w'
          go_simp
          with_reducible rfl
        rotate_left
        · simp only [Act.put, List.setIfInBounds_toArray, List.set_cons_zero, List.set_cons_succ, i64_w, i32_w]
          rfl
        refine pure_ (i := 45) (N := some 134) (v := ?_) (a' := ?_) #[true, true, true, true, true, true, true, true, true, true, true, true, true, true, true, true, true, true, true, true, true, true, true, true, true, true, true, true, true, true, true, true, true, true, true, true, true, true, true, true, true, true, false, true, true, true, false, false, false, false] rfl rfl (by kernel_rfl) (fun _ _ _ h => h) (Or.inl ⟨by rfl, ?_⟩) ?_ ?_
        rotate_left
        · intro w'
          go_simp
          with_reducible rfl
        rotate_left
        · simp only [Act.put, List.setIfInBounds_toArray, List.set_cons_zero, List.set_cons_succ, i64_w, i32_w]
          rfl
        refine take_ (i := 46) (N := some 135) (v := ?_) (a' := ?_) #[true, true, true, true, true, true, true, true, true, true, true, true, true, true, true, true, true, true, true, true, true, true, true, true, true, true, true, true, true, true, true, true, true, true, true, true, true, true, true, true, true, true, false, true, true, true, true, false, false, false] rfl rfl (by kernel_rfl) (fun _ _ _ h => h) (Or.inl ⟨by rfl, ?_⟩) hHeld ?_ ?_
        rotate_left
        · rintro w' ⟨s0, s1⟩
          go_simp
          with_reducible rfl
        rotate_left
        · simp only [Act.put, List.setIfInBounds_toArray, List.set_cons_zero, List.set_cons_succ, i64_w, i32_w]
          rfl
        refine pure_ (i := 47) (N := some 136) (v := ?_) (a' := ?_) #[true, true, true, true, true, true, true, true, true, true, true, true, true, true, true, true, true, true, true, true, true, true, true, true, true, true, true, true, true, true, true, true, true, true, true, true, true, true, true, true, true, true, false, true, true, true, true, true, false, false] rfl rfl (by kernel_rfl) (fun _ _ _ h => h) (Or.inl ⟨by rfl, ?_⟩) ?_ ?_
        rotate_left
        · intro w'
          go_simp
          with_reducible rfl
        rotate_left
        · simp only [Act.put, List.setIfInBounds_toArray, List.set_cons_zero, List.set_cons_succ, i64_w, i32_w]
          rfl
        refine one_ (i := 42) (N := some 131) #[true, true, true, true, true, true, true, true, true, true, true, true, true, true, true, true, true, true, true, true, true, true, true, true, true, true, true, true, true, true, true, true, true, true, true, true, true, true, true, true, true, true, true, true, true, true, true, true, false, false] rfl rfl (by kernel_rfl) (by decide) (fun K hK => ?_)
        refine goes_ Try.func19 (by kernel_rfl) rfl #[.pointer (some ⟨b, 0, none⟩)] (by rfl) rfl rfl (by simp only [List.map_toArray, List.map_cons, List.map_nil]; rfl) ?_
        with_reducible refine (A9.out _ e9).mono ?_
        rintro e w10 ⟨rfl, rfl⟩
        refine ⟨_, rfl, ?_⟩
        refine hK.out _ _ ⟨(KF.out _ e9), (KR.out _ e9)⟩ (fun hHeld => ?_)
        clear hK K
        refine norm_ (a' := ?_) ?_ ?_
        rotate_left
        · show Act.put _ (some 131) _ = _
          simp only [Act.put, List.setIfInBounds_toArray, List.set_cons_zero, List.set_cons_succ, i64_w, i32_w]
          rfl
        refine pure_ (i := 48) (N := some 137) (v := ?_) (a' := ?_) #[true, true, true, true, true, true, true, true, true, true, true, true, true, true, true, true, true, true, true, true, true, true, true, true, true, true, true, true, true, true, true, true, true, true, true, true, true, true, true, true, true, true, true, true, true, true, true, true, true, false] rfl rfl (by kernel_rfl) (fun _ _ _ h => h) (Or.inl ⟨by rfl, ?_⟩) ?_ ?_
        rotate_left
        · intro w'
          go_simp
          with_reducible rfl
        rotate_left
        · simp only [Act.put, List.setIfInBounds_toArray, List.set_cons_zero, List.set_cons_succ, i64_w, i32_w]
          rfl
        refine pure_ (i := 49) (N := some 138) (v := ?_) (a' := ?_) #[true, true, true, true, true, true, true, true, true, true, true, true, true, true, true, true, true, true, true, true, true, true, true, true, true, true, true, true, true, true, true, true, true, true, true, true, true, true, true, true, true, true, true, true, true, true, true, true, true, true] rfl rfl (by kernel_rfl) (fun _ _ _ h => h) (Or.inl ⟨by rfl, ?_⟩) ?_ ?_
        rotate_left
        · intro w'
          go_simp
          with_reducible rfl
        rotate_left
        · simp only [Act.put, List.setIfInBounds_toArray, List.set_cons_zero, List.set_cons_succ, i64_w, i32_w]
          rfl
        refine done_ (by kernel_rfl) ?_
        go_wp2_with fail
        have e9' : Ext [] wc w9 := Ext.of_drew e9
        exact ⟨⟨j + 1, S', R', M', by omega, rfl, HW.out.keep0 e9', HWR.out.keep0 e9', HOW.out.quiet e9', hlen', HOK.out⟩, by simp [intOf]; omega⟩
    · have d1 : decide (j < n) = false := decide_eq_false hj
      go_wp2_with fail
      refine (awakeS_any _).mono ?_
      rintro e w2 ⟨rfl, e2⟩
      go_wp2_with fail
      go_ret
      exact ⟨rfl, (ow.quiet e2).ext⟩
end Go.Proofs.Ytmmhpjodnceipaa
