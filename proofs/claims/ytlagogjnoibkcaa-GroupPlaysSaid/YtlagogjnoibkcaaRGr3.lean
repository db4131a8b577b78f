/- The document's groups: Tear, by contract. -/
import Derived.Test.YtlagogjnoibkcaaRGr1
namespace Go.Proofs.Ytlagogjnoibkcaa
open Go.RowKit Go.Proofs.YtlagogjnoibkcaaW.PrintLast
set_option linter.unusedVariables false
set_option linter.unusedSimpArgs false

def TearQ (b : Nat) (S : List Nat) (M : List Gk) (g : Int) (w : World) (e : Ending) (w' : World) : Prop :=
  ∃ (a : Option Addr) (c : Nat), e = .returned (.tuple #[.slice a (tearG M g).1.1.length c, .int .i64 (tearG M g).1.2]) ∧ RI w' (.slice a (tearG M g).1.1.length c) (tearG M g).1.1 ∧ (∀ y, (Value.slice a (tearG M g).1.1.length c).ownBlock = some y → y ∈ S) ∧ Chg (fun w' S' => GQ w' b S' (tearG M g).2 ∧ Hid (∀ y, (Value.slice a (tearG M g).1.1.length c).ownBlock = some y → y ∉ S')) S w w'
theorem info_gq : (Try.prog.info? 85).map (·.size) = some 2 := by
  have h : Try.prog.info? 85 = some Try.t85 := by kernel_rfl
  rw [h]; rfl

set_option maxHeartbeats 6400000 in
set_option maxRecDepth 100000 in
theorem rg_tear (b : Nat) (S : List Nat) (M : List Gk) (g : Int) (hx : M.length < 10000) (w : World) (h : GQ w b S M) :
    Calls Try.prog 37 #[.pointer (some ⟨b, 0, none⟩), .int .i64 g] w (TearQ b S M g w) := by
  unfold TearQ
  have hhs := rg_has b S M g w h
  cases hh : hasM M g with
  | false =>
    have hj : tearG M g = (([], 11), M) := by unfold tearG; rw [if_pos hh]
    rw [hh] at hhs
    have HHS := Lib.hid hhs; have HJ := Lib.hid hj; have HH := Lib.hid h
    clear hhs hj h hh hx
    go_enter Try.func37, Try.ntmps37
    go_wp2_with fail
    refine HHS.out.mono ?_
    rintro e w1 ⟨rfl, rfl⟩
    go_wp2_with fail
    refine bodyPost_ret (v := .tuple #[.slice none 0 0, .int .i64 11]) (by simp [results, Try.results37, go_sem]) rfl ?_
    rw [HJ.out]
    exact ⟨none, 0, rfl, Rw.nil _, fun y hy => by simp [Value.ownBlock] at hy, S, ⟨HH.out, fun y hy => by simp [Value.ownBlock] at hy⟩, Ext.refl _ _, fun x hx => .inl hx⟩
  | true =>
    obtain ⟨i, s, rfl, hs⟩ := has_at hh
    rw [hh] at hhs
    have hjf : tearG M ((i : Int) + 1) = if s.torn then (([], 13), M) else ((s.ids, 0), M.set i ⟨[], true⟩) := by
      unfold tearG
      rw [if_neg (by rw [hh]; decide), show ((i : Int) + 1 - 1).toNat = i by omega, hs]
    have hh0 := h
    obtain ⟨v, L, h, hS, rfl⟩ := h
    obtain ⟨t, ht, rfl⟩ := abs_at hs
    obtain ⟨a, cap, rfl⟩ := h.ob.row.val
    obtain ⟨n, hn⟩ : ∃ n, n = L.length := ⟨_, rfl⟩
    have hin : i < n := by rw [hn]; exact (List.getElem?_eq_some_iff.1 ht).1
    rw [absG_len, ← hn] at hx
    rw [← hn] at h hS
    obtain ⟨q, rfl, hq⟩ := h.ob.row.addr (by omega)
    have hcv : w.cell? ⟨b, 0, none⟩ = some (.slice (some ⟨q, 0, none⟩) n cap) := h.ob.blk.cell 0
    have c0 := h.ob.row.cell encG_ok.len ht 0 (by omega)
    have c1 := h.ob.row.cell encG_ok.len ht 1 (by omega)
    simp only [encG, Gr.row, Nat.add_zero, List.getElem?_cons_zero, List.getElem?_cons_succ] at c0 c1
    obtain ⟨l, hl⟩ : ∃ l, l = t.ids.length := ⟨_, rfl⟩
    rw [← hl] at c0
    have b1 : (0 : Int) ≤ (i : Int) := by omega
    have b2 : (i : Int) < (n : Int) := by omega
    have hi6 : i < 1000000 := by omega
    have HHS := Lib.hid hhs; have HT := Lib.hid h; have HS := Lib.hid hS; have H1 := Lib.hid ht; have HL := Lib.hid hl; have HH := Lib.hid hh0
    clear hhs h hS hh hs ht hn hl hh0
    cases htt : t.torn with
    | true =>
      rw [htt] at c1
      rw [if_pos (show t.abs.torn = true from htt)] at hjf
      have HJ := Lib.hid hjf
      clear hjf htt
      have f1 := ws1 hi6
      go_enter Try.func37, Try.ntmps37
      go_wp2_with fail
      refine HHS.out.mono ?_
      rintro e w1 ⟨rfl, rfl⟩
      go_wp2_with fail
      refine bodyPost_ret (v := .tuple #[.slice none 0 0, .int .i64 13]) (by simp [results, Try.results37, go_sem]) rfl ?_
      rw [HJ.out]
      exact ⟨none, 0, rfl, Rw.nil _, fun y hy => by simp [Value.ownBlock] at hy, S, ⟨HH.out, fun y hy => by simp [Value.ownBlock] at hy⟩, Ext.refl _ _, fun x hx => .inl hx⟩
    | false =>
      rw [htt] at c1
      rw [if_neg (show ¬ t.abs.torn = true by rw [show t.abs.torn = t.torn from rfl, htt]; decide)] at hjf
      have hth : w.there q (i * 2) 2 := HT.out.ob.row.there encG_ok.len (i := i) (List.getElem?_eq_some_iff.1 H1.out).1
      have hone : (#[Value.slice none 0 0, .bool true].all (·.oneCell')) = true := by simp [Value.oneCell']
      have hset := HT.out.set_one (by decide) (by decide) (s' := offG) (W := w.setCells q (i * 2) [.slice none 0 0, .bool true]) H1.out (Ext.refl _ _) (Rw.nil _) (fun y hy => by simp [offG, Gr.row, Value.ownBlock] at hy) (Ext.setCells (Or.inl (by simp)) _ _ _ (Ext.refl _ _)) (fun hs hr => hr.put encG_ok.len (List.getElem?_eq_some_iff.1 hs).1 offG)
      have hri := HT.out.inn t (List.mem_of_getElem? H1.out)
      have hsm := List.mem_of_getElem? H1.out
      have hap := HT.out.apart (by decide) (by decide)
      have hri2 := hri.keep (Ext.setCells (g := q) (S := [q]) (Or.inl (by simp)) [.slice none 0 0, .bool true] (i * 2) _ (Ext.refl _ w)) (fun y hy hm => hap y (mem_gOwn hsm hy) (by simp at hm; simp [hm, Value.ownBlock]))
      have HJ := Lib.hid hjf; have HSET := Lib.hid hset; have HRI2 := Lib.hid hri2; have HAP := Lib.hid hap
      clear hjf htt hset hri hsm hap hri2
      have f1 := ws1 hi6
      go_enter Try.func37, Try.ntmps37
      go_wp2_with fail
      refine HHS.out.mono ?_
      rintro e w1 ⟨rfl, rfl⟩
      go_wp2_with (refine wpList_store_mid ?_ ?_ 85 (.tmp 36) (.tmp 35) ?_ q (i * 2) #[.slice none 0 0, .bool true] ?_ ?_ hth info_gq hone ?_; exact rfl; exact rfl; exact rfl; exact rfl; exact rfl; generalize hW5 : World.setCells w q (i * 2) _ = w5)
      have hW6 : World.setCells w q (i * 2) [.slice none 0 0, .bool true] = w5 := hW5
      rw [hW6] at HSET HRI2
      clear hW5 hW6 hth hone f1
      go_wp2_with fail
      refine bodyPost_ret (v := .tuple #[.slice t.ma l t.mc, .int .i64 0]) (by simp [results, Try.results37, go_sem]) rfl ?_
      have hSS : ∀ y, y ∈ (b :: [q]) ++ gOwn L → y ∈ S := fun y hy => by rw [HS.out]; exact hy
      rw [HJ.out]
      obtain ⟨hT8, hE8, hO8⟩ := HSET.out
      have hoff : ∀ y, t.row.ownBlock = some y → y ∉ (b :: (Value.slice (some ⟨q, 0, none⟩) n cap).ownBlock.toList) ++ gOwn (L.set i offG) := fun y hy hm => by
        rcases List.mem_append.1 hm with hm | hm
        · exact HAP.out y (mem_gOwn (List.mem_of_getElem? H1.out) hy) hm
        · obtain ⟨s8, hs8, hy8⟩ := List.mem_flatMap.1 hm
          have hy8 : s8.row.ownBlock = some y := by simpa using hy8
          obtain ⟨j, hj⟩ := List.mem_iff_getElem?.1 hs8
          rw [List.getElem?_set] at hj
          by_cases hij : i = j
          · rw [if_pos hij, if_pos (List.getElem?_eq_some_iff.1 H1.out).1] at hj
            injection hj with hj
            rw [← hj] at hy8
            simp [offG, Gr.row, Value.ownBlock] at hy8
          · rw [if_neg hij] at hj
            exact dis_g HT.out.dis H1.out hj hij hy hy8
      refine ⟨t.ma, t.mc, by rw [HL.out]; rfl, HRI2.out, fun y hy => hSS y (List.mem_append_right _ (mem_gOwn (List.mem_of_getElem? H1.out) hy)), _, ⟨⟨_, _, hT8, rfl, by rw [absG_set]; rfl⟩, hoff⟩, hE8.mono (fun y hy => .inl (hSS y hy)), ?_⟩
      intro y hy
      rcases List.mem_append.1 hy with hy | hy
      · exact .inl (hSS y (List.mem_append_left _ hy))
      · exact (hO8 y hy).imp_left (fun h => hSS y (List.mem_append_right _ h))
end Go.Proofs.Ytlagogjnoibkcaa
