/- The book's functions, by contract. -/
import Derived.Test.YtlagogjnoibkcaaAdLib
import Derived.Test.YtlagogjnoibkcaaOb
namespace Go.Proofs.Ytlagogjnoibkcaa
open Go.RowKit
set_option linter.unusedVariables false
set_option linter.unusedSimpArgs false

/-- Who is in. -/
structure Ad where
  id : Int
  group : Int
  key : ByteArray

def encAd (o : Ad) : List Value := [.int .i64 o.id, .int .i64 o.group, .string o.key]
theorem encAd_ok : EncOk encAd 3 := ⟨fun _ => rfl, fun o u hu => by simp [encAd] at hu; rcases hu with rfl | rfl | rfl <;> rfl⟩
theorem tyAd : ETy Try.prog 63 69 3 := ⟨by kernel_rfl, ⟨Try.t69, _, by kernel_rfl, by rfl, by rfl, by decide, by rfl⟩, by decide⟩

abbrev Bk := @Ob Ad encAd 3 69 (fun v => #[v]) 65

def sameId (id : Int) (o : Ad) : Bool := o.id == id
def sameKey (key : ByteArray) (o : Ad) : Bool := decide (o.key = key)
def sameGroup (g : Int) (o : Ad) : Bool := o.group == g
def isAny (_ : Ad) : Bool := true

set_option maxHeartbeats 400000 in
theorem isId (B : Nat) (id : Int) (w : World) (hc : w.cell? ⟨B, 0, none⟩ = some (.int .i64 id)) : PredE Try.prog 58 #[.pointer (some ⟨B, 0, none⟩)] encAd (sameId id) w := by
  intro W x he
  have hB : B < w.heap.size := lt_of_cell hc
  have hc' := (he.cell (p := ⟨B, 0, none⟩) hB (by simp)).trans hc
  have hBW := Nat.lt_of_lt_of_le hB he.size
  clear hc he
  have hs : sameId id x = (x.id == id) := rfl
  have HS := Lib.hid hs
  clear hs
  cases hq : x.id == id
  all_goals
    rw [hq] at HS
    unfold encAd
    go_enter Try.func58, Try.ntmps58
    go_wp2_with fail
    go_ret
    exact ⟨ret_bool HS.out, (Ext.refl _ _).alloc _⟩

set_option maxHeartbeats 400000 in
theorem isKey (B : Nat) (key : ByteArray) (w : World) (hc : w.cell? ⟨B, 0, none⟩ = some (.string key)) : PredE Try.prog 47 #[.pointer (some ⟨B, 0, none⟩)] encAd (sameKey key) w := by
  intro W x he
  have hB : B < w.heap.size := lt_of_cell hc
  have hc' := (he.cell (p := ⟨B, 0, none⟩) hB (by simp)).trans hc
  have hBW := Nat.lt_of_lt_of_le hB he.size
  clear hc he
  have hs : sameKey key x = (x.key.toList == key.toList) := (bytes_beq _ _).symm
  have HS := Lib.hid hs
  clear hs
  unfold encAd
  go_enter Try.func47, Try.ntmps47
  go_wp2_with fail
  go_ret
  exact ⟨ret_bool HS.out, (Ext.refl _ _).alloc _⟩

set_option maxHeartbeats 400000 in
theorem isGroup (B : Nat) (id : Int) (w : World) (hc : w.cell? ⟨B, 0, none⟩ = some (.int .i64 id)) : PredE Try.prog 48 #[.pointer (some ⟨B, 0, none⟩)] encAd (sameGroup id) w := by
  intro W x he
  have hB : B < w.heap.size := lt_of_cell hc
  have hc' := (he.cell (p := ⟨B, 0, none⟩) hB (by simp)).trans hc
  have hBW := Nat.lt_of_lt_of_le hB he.size
  clear hc he
  have hs : sameGroup id x = (x.group == id) := rfl
  have HS := Lib.hid hs
  clear hs
  cases hq : x.group == id
  all_goals
    rw [hq] at HS
    unfold encAd
    go_enter Try.func48, Try.ntmps48
    go_wp2_with fail
    go_ret
    exact ⟨ret_bool HS.out, (Ext.refl _ _).alloc _⟩

set_option maxHeartbeats 400000 in
theorem isAny_any (w : World) : PredE Try.prog 46 #[] encAd isAny w := by
  intro W x he
  clear he
  unfold encAd
  go_enter Try.func46, Try.ntmps46
  go_wp2_with fail
  go_ret
  exact ⟨rfl, (Ext.refl _ _).alloc _⟩

set_option maxHeartbeats 400000 in
theorem at_any (b : Nat) (v : Value) (xs : List Ad) (id : Int) (hx : xs.length < 1000000) (w : World) (h : Bk w b v xs) :
    Calls Try.prog 43 #[.pointer (some ⟨b, 0, none⟩), .int .i64 id] w fun e w' => e = .returned (.int .i64 (idxI (sameId id) xs)) ∧ Ext [] w w' := by
  obtain ⟨a, cap, rfl⟩ := h.row.val
  have hcv : w.cell? ⟨b, 0, none⟩ = some (.slice a xs.length cap) := h.blk.cell 0
  have hlt := h.blk.lt
  have eg := enters_of Try.func58 (by kernel_rfl) rfl
  have HR := Lib.hid h.row
  clear h
  go_enter Try.func43, Try.ntmps43
  go_wp2_with fail
  have he0 : ∀ o, Ext [] w (w.alloc o) := fun o => (Ext.refl _ _).alloc o
  refine (one_indexFunc encAd encAd_ok.len (sameId id) _ _ eg _ xs hx _ (HR.out.keep (he0 _) (by simp)) (isId _ id _ ?_)).mono ?_
  · simp [go_sem]
  rintro e w1 ⟨rfl, e1⟩
  go_wp2_with fail
  go_ret
  exact ⟨rfl, (he0 _).trans e1 (by simp)⟩

set_option maxHeartbeats 800000 in
theorem count_any (b : Nat) (v : Value) (xs : List Ad) (p : Ad → Bool) (g : Nat) (lb : Array Value) (eg : ∀ args w, (callFunc g args).run Try.prog w = .ok (.enter g args) w) (hx : xs.length < 1000000) (w : World) (h : Bk w b v xs) (hp : PredE Try.prog g lb encAd p w) :
    Calls Try.prog 45 #[.pointer (some ⟨b, 0, none⟩), .func (.func g) #[] lb] w fun e w' => e = .returned (.int .i64 (xs.filter p).length) ∧ Ext [] w w' := by
  obtain ⟨a, cap, rfl⟩ := h.row.val
  obtain ⟨n, hn⟩ : ∃ n, n = xs.length := ⟨_, rfl⟩
  rw [← hn] at h
  have hcv : w.cell? ⟨b, 0, none⟩ = some (.slice a n cap) := h.blk.cell 0
  have hrow := h.row
  have HN := Lib.hid hn
  have hn1 : n < 1000000 := by omega
  clear hn hx h
  go_enter Try.func45, Try.ntmps45
  go_wp2_with fail
  go_loopw [5, 7, 15] (fun c _ iv wr => ∃ (k : Nat), k ≤ n ∧ iv = .int .i64 k ∧ c = .int .i64 ((xs.take k).filter p).length ∧ Ext [] w wr) (fun _ _ iv _ => n - (intOf iv).toNat)
  case atStart => exact ⟨0, Nat.zero_le _, rfl, rfl, Ext.refl _ _⟩
  case round =>
    obtain ⟨k, hkn, rfl, rfl, her⟩ := hrel
    by_cases hlt : k < n
    · obtain ⟨x, hxk⟩ : ∃ x, xs[k]? = some x := ⟨_, List.getElem?_eq_getElem (by rw [← HN.out]; exact hlt)⟩
      have d1 : decide (k < n) = true := decide_eq_true hlt
      have hr := hrow.keep her (by simp)
      obtain ⟨gb, rfl, hgl⟩ := hr.addr (by omega)
      have hx0 := hr.cell encAd_ok.len hxk 0 (by omega); have hx1 := hr.cell encAd_ok.len hxk 1 (by omega); have hx2 := hr.cell encAd_ok.len hxk 2 (by omega)
      simp only [encAd, Nat.add_zero, List.getElem?_cons_zero, List.getElem?_cons_succ] at hx0 hx1 hx2
      have hcall := fun o => hp (wr.alloc o) x (her.alloc o)
      have HC := Lib.hid hcall
      have b1 : (0 : Int) ≤ (k : Int) := by omega
      have b2 : (k : Int) < (n : Int) := by omega
      have hfl : ((xs.take (k + 1)).filter p).length = ((xs.take k).filter p).length + (if p x = true then 1 else 0) := by
        rw [List.take_add_one, hxk, List.filter_append, List.length_append]
        simp only [Option.toList, List.filter_cons, List.filter_nil]
        split <;> simp
      have hbd : ((xs.take k).filter p).length ≤ k := by
        have h1 := List.length_filter_le p (xs.take k); have h2 := List.length_take_le k xs; omega
      have HFL := Lib.hid hfl
      clear hr hp hfl hxk hcall
      generalize ((xs.take k).filter p).length = c at *
      have hxe : encAd x = [.int .i64 x.id, .int .i64 x.group, .string x.key] := rfl
      rw [hxe] at HC
      clear hxe
      cases hq : p x
      all_goals
        rw [hq] at HC HFL
        go_wp2_with fail
        refine (HC.out _).mono ?_
        rintro e w1 ⟨rfl, e1⟩
        go_wp2_with fail
        refine ⟨⟨k + 1, by omega, rfl, ?_, (her.alloc _).trans e1 (by simp)⟩, by simp [intOf]; omega⟩
        rw [HFL.out]; simp
    · have d1 : decide (k < n) = false := decide_eq_false hlt
      go_wp2_with fail
      go_ret
      refine ⟨ret_int ?_, her⟩
      rw [List.take_of_length_le (by have := HN.out; omega)]

set_option maxHeartbeats 800000 in
theorem new_any (w : World) : Calls Try.prog 11 #[] w fun e w' => e = .returned (.pointer (some ⟨w.heap.size, 0, none⟩)) ∧ Bk w' w.heap.size (.slice none 0 0) [] ∧ Ext [] w w' := by
  go_enter Try.func11, Try.ntmps11
  go_wp2_with fail
  go_ret
  exact ⟨rfl, ⟨Blk.new _ _ _, Rw.nil _, by simp [Value.ownBlock]⟩, (Ext.refl _ _).alloc _⟩

set_option maxHeartbeats 800000 in
theorem has_any (b : Nat) (v : Value) (xs : List Ad) (id : Int) (hx : xs.length < 1000000) (w : World) (h : Bk w b v xs) :
    Calls Try.prog 23 #[.pointer (some ⟨b, 0, none⟩), .int .i64 id] w fun e w' => e = .returned (.bool (xs.any (sameId id))) ∧ Ext [] w w' := by
  have hat := at_any b v xs id hx w h
  rcases idxI_spec (sameId id) xs with ⟨h1, h2⟩ | ⟨i, x, h1, h2, _, h3⟩
  · have hr : xs.any (sameId id) = false := by rw [List.any_eq_false]; intro x hx; simp [h2 x hx]
    have HR := Lib.hid hr
    rw [h1] at hat
    clear h hr h1 h2
    go_enter Try.func23, Try.ntmps23
    go_wp2_with fail
    refine hat.mono ?_
    rintro e w1 ⟨rfl, e1⟩
    go_wp2_with fail
    go_ret
    exact ⟨ret_bool HR.out, e1⟩
  · have hr : xs.any (sameId id) = true := by rw [List.any_eq_true]; exact ⟨x, List.mem_of_getElem? h1, h2⟩
    have HR := Lib.hid hr
    have b1 : (0 : Int) ≤ (i : Int) := by omega
    rw [h3] at hat
    clear h hr h1 h2 h3
    go_enter Try.func23, Try.ntmps23
    go_wp2_with fail
    refine hat.mono ?_
    rintro e w1 ⟨rfl, e1⟩
    go_wp2_with fail
    go_ret
    exact ⟨ret_bool HR.out, e1⟩

set_option maxHeartbeats 800000 in
theorem live_any (b : Nat) (v : Value) (xs : List Ad) (hx : xs.length < 1000000) (w : World) (h : Bk w b v xs) :
    Calls Try.prog 18 #[.pointer (some ⟨b, 0, none⟩)] w fun e w' => e = .returned (.int .i64 xs.length) ∧ Ext [] w w' := by
  have eg := enters_of Try.func46 (by kernel_rfl) rfl
  have hc := count_any b v xs isAny _ #[] eg hx w h (isAny_any w)
  rw [show xs.filter isAny = xs from List.filter_eq_self.2 (fun _ _ => rfl)] at hc
  clear h
  go_enter Try.func18, Try.ntmps18
  go_wp2_with fail
  refine hc.mono ?_
  rintro e w1 ⟨rfl, e1⟩
  go_wp2_with fail
  go_ret
  exact ⟨rfl, e1⟩

set_option maxHeartbeats 800000 in
theorem host_any (b : Nat) (v : Value) (xs : List Ad) (key : ByteArray) (hx : xs.length < 1000000) (w : World) (h : Bk w b v xs) :
    Calls Try.prog 19 #[.pointer (some ⟨b, 0, none⟩), .string key] w fun e w' => e = .returned (.int .i64 (xs.filter (sameKey key)).length) ∧ Ext [] w w' := by
  have eg := enters_of Try.func47 (by kernel_rfl) rfl
  have HH := Lib.hid h
  have hlt := h.blk.lt
  clear h
  go_enter Try.func19, Try.ntmps19
  go_wp2_with fail
  have he0 : ∀ o, Ext [] w (w.alloc o) := fun o => (Ext.refl _ _).alloc o
  refine (count_any b v xs (sameKey key) _ _ eg hx _ (HH.out.keep (he0 _) (by simp)) (isKey _ key _ ?_)).mono ?_
  · simp [go_sem]
  rintro e w1 ⟨rfl, e1⟩
  go_wp2_with fail
  go_ret
  exact ⟨rfl, (he0 _).trans e1 (by simp)⟩

set_option maxHeartbeats 800000 in
theorem group_any (b : Nat) (v : Value) (xs : List Ad) (g : Int) (hx : xs.length < 1000000) (w : World) (h : Bk w b v xs) :
    Calls Try.prog 21 #[.pointer (some ⟨b, 0, none⟩), .int .i64 g] w fun e w' => e = .returned (.int .i64 (xs.filter (sameGroup g)).length) ∧ Ext [] w w' := by
  have eg := enters_of Try.func48 (by kernel_rfl) rfl
  have HH := Lib.hid h
  have hlt := h.blk.lt
  clear h
  go_enter Try.func21, Try.ntmps21
  go_wp2_with fail
  have he0 : ∀ o, Ext [] w (w.alloc o) := fun o => (Ext.refl _ _).alloc o
  refine (count_any b v xs (sameGroup g) _ _ eg hx _ (HH.out.keep (he0 _) (by simp)) (isGroup _ g _ ?_)).mono ?_
  · simp [go_sem]
  rintro e w1 ⟨rfl, e1⟩
  go_wp2_with fail
  go_ret
  exact ⟨rfl, (he0 _).trans e1 (by simp)⟩

set_option maxHeartbeats 1600000 in
set_option maxRecDepth 100000 in
theorem give_any (b : Nat) (v : Value) (xs : List Ad) (id : Int) (hx : xs.length < 1000000) (w : World) (h : Bk w b v xs) :
    Calls Try.prog 14 #[.pointer (some ⟨b, 0, none⟩), .int .i64 id] w fun e w' =>
      ((∀ x ∈ xs, sameId id x = false) ∧ e = .returned (.bool false) ∧ Bk w' b v xs ∧ Ext [] w w') ∨
      (∃ (i : Nat) (x : Ad) (v' : Value), xs[i]? = some x ∧ sameId id x = true ∧ (∀ (j : Nat) y, j < i → xs[j]? = some y → sameId id y = false) ∧ e = .returned (.bool true) ∧ Bk w' b v' (xs.eraseIdx i) ∧ v'.ownBlock = v.ownBlock ∧ Ext (b :: v.ownBlock.toList) w w') := by
  have hat := at_any b v xs id hx w h
  have hlt := h.blk.lt
  rcases idxI_spec (sameId id) xs with ⟨h1, h2⟩ | ⟨i, x, h1, h2, h4, h3⟩
  · rw [h1] at hat
    have HH := Lib.hid h
    have H2 := Lib.hid h2
    clear h h1 h2
    go_enter Try.func14, Try.ntmps14
    go_wp2_with fail
    refine hat.mono ?_
    rintro e w1 ⟨rfl, e1⟩
    go_wp2_with fail
    go_ret
    exact Or.inl ⟨H2.out, rfl, HH.out.keep e1 (by simp), e1⟩
  · rw [h3] at hat
    have b1 : (0 : Int) ≤ (i : Int) := by omega
    have hil := (List.getElem?_eq_some_iff.1 h1).1
    obtain ⟨n, hn⟩ : ∃ n, n = xs.length := ⟨_, rfl⟩
    obtain ⟨a, cap, rfl⟩ := h.row.val
    rw [← hn] at h hil
    obtain ⟨g, rfl, hgl⟩ := h.row.addr (by omega)
    rw [← hn]
    have HH := Lib.hid h
    have H1 := Lib.hid (And.intro h1 (And.intro h2 h4))
    have HN := Lib.hid hn
    have hn1 : n < 1000000 := by omega
    clear h h1 h2 h3 h4 hx hn
    go_enter Try.func14, Try.ntmps14
    go_wp2_with fail
    refine hat.mono ?_
    rintro e w1 ⟨rfl, e1⟩
    have h1 := HH.out.keep e1 (by simp)
    have hcv : w1.cell? ⟨b, 0, none⟩ = some (.slice (some ⟨g, 0, none⟩) n cap) := h1.blk.cell 0
    have H1' := Lib.hid h1
    clear h1
    go_wp2_with fail
    refine (one_delete encAd encAd_ok g n cap i xs hil hn1 w1 H1'.out.row).mono ?_
    rintro e w2 ⟨rfl, hr2, e2⟩
    have hb2 := H1'.out.blk_at rfl e2
    have hcb : w2.cell? ⟨b, 0, none⟩ = some (.slice (some ⟨g, 0, none⟩) n cap) := hb2.cell 0
    have hfb : w2.frozen? ⟨b, 0, none⟩ = false := hb2.free 0
    clear hb2
    have hfin := H1'.out.changed (v' := .slice (some ⟨g, 0, none⟩) (n - 1) cap) rfl rfl hr2 e2 0 (by simp)
    have HF := Lib.hid hfin
    clear hfin hr2 hcv
    go_wp2_with fail
    go_ret
    refine Or.inr ⟨i, x, _, H1.out.1, H1.out.2.1, H1.out.2.2, rfl, HF.out.1, rfl, ?_⟩
    exact (e1.mono (T := _) (by simp)).trans HF.out.2 (fun _ hq => Or.inl hq)

/-- What the book says to one who comes. -/
def takeC (xs : List Ad) (id : Int) (key : ByteArray) (g : Int) : Int :=
  if id < 1 then 2 else if xs.any (sameId id) then 16 else if 64 ≤ xs.length ∨ 24 ≤ (xs.filter (sameKey key)).length ∨ 32 ≤ (xs.filter (sameGroup g)).length then 10 else 0

set_option maxHeartbeats 3200000 in
set_option maxRecDepth 100000 in
theorem take_any (b : Nat) (v : Value) (xs : List Ad) (id : Int) (key : ByteArray) (gr : Int) (hx : xs.length < 100000) (w : World) (h : Bk w b v xs) :
    Calls Try.prog 16 #[.pointer (some ⟨b, 0, none⟩), .int .i64 id, .string key, .int .i64 gr] w fun e w' =>
      (takeC xs id key gr ≠ 0 ∧ e = .returned (.int .i64 (takeC xs id key gr)) ∧ Bk w' b v xs ∧ Ext [] w w') ∨
      (takeC xs id key gr = 0 ∧ e = .returned (.int .i64 0) ∧ ∃ v', Bk w' b v' (xs ++ [⟨id, gr, key⟩]) ∧ Ext (b :: v.ownBlock.toList) w w' ∧ (∀ x ∈ b :: v'.ownBlock.toList, x ∈ b :: v.ownBlock.toList ∨ w.heap.size ≤ x)) := by
  have hlt := h.blk.lt
  have H := Lib.hid h
  have hx' : xs.length < 1000000 := by omega
  have cHas := fun W (hW : Ext [] w W) => has_any b v xs id hx' W (h.keep hW (by simp))
  have cLive := fun W (hW : Ext [] w W) => live_any b v xs hx' W (h.keep hW (by simp))
  have cHost := fun W (hW : Ext [] w W) => host_any b v xs key hx' W (h.keep hW (by simp))
  have cGroup := fun W (hW : Ext [] w W) => group_any b v xs gr hx' W (h.keep hW (by simp))
  have CHAS := Lib.hid cHas; have CLIVE := Lib.hid cLive; have CHOST := Lib.hid cHost; have CGROUP := Lib.hid cGroup
  clear cHas cLive cHost cGroup h
  by_cases c1 : id < 1
  · have hT : takeC xs id key gr = 2 := by unfold takeC; rw [if_pos c1]
    have HT := Lib.hid hT
    clear hT
    go_enter Try.func16, Try.ntmps16
    go_wp2_with fail
    go_ret
    exact Or.inl ⟨by rw [HT.out]; decide, ret_int HT.out, H.out, Ext.refl _ _⟩
  cases hh : xs.any (sameId id) with
  | true =>
    have hT : takeC xs id key gr = 16 := by unfold takeC; rw [if_neg c1, if_pos hh]
    have HT := Lib.hid hT
    rw [hh] at CHAS
    clear hT hh
    go_enter Try.func16, Try.ntmps16
    go_wp2_with fail
    refine (CHAS.out _ (Ext.refl _ _)).mono ?_
    rintro e w1 ⟨rfl, e1⟩
    go_wp2_with fail
    go_ret
    exact Or.inl ⟨by rw [HT.out]; decide, ret_int HT.out, H.out.keep e1 (by simp), e1⟩
  | false =>
    rw [hh] at CHAS
    have hT : takeC xs id key gr = if 64 ≤ xs.length ∨ 24 ≤ (xs.filter (sameKey key)).length ∨ 32 ≤ (xs.filter (sameGroup gr)).length then 10 else 0 := by unfold takeC; rw [if_neg c1, if_neg (by simp [hh])]
    have HT := Lib.hid hT
    have full : ∀ (h : 64 ≤ xs.length ∨ 24 ≤ (xs.filter (sameKey key)).length ∨ 32 ≤ (xs.filter (sameGroup gr)).length), takeC xs id key gr = 10 := fun h => by rw [hT, if_pos h]
    have FULL := Lib.hid full
    have roomy : ∀ (h : ¬ (64 ≤ xs.length ∨ 24 ≤ (xs.filter (sameKey key)).length ∨ 32 ≤ (xs.filter (sameGroup gr)).length)), takeC xs id key gr = 0 := fun h => by rw [hT, if_neg h]
    have ROOMY := Lib.hid roomy
    clear hT hh HT full roomy
    obtain ⟨n, hn⟩ : ∃ n, n = xs.length := ⟨_, rfl⟩
    obtain ⟨p, hp⟩ : ∃ n, n = (xs.filter (sameKey key)).length := ⟨_, rfl⟩
    obtain ⟨q, hq⟩ : ∃ n, n = (xs.filter (sameGroup gr)).length := ⟨_, rfl⟩
    rw [← hn] at CLIVE FULL ROOMY hx; rw [← hp] at CHOST FULL ROOMY; rw [← hq] at CGROUP FULL ROOMY
    have HN := Lib.hid hn
    clear hn hp hq hx'
    by_cases c2 : 64 ≤ n
    · have d2 : decide (64 ≤ n) = true := decide_eq_true c2
      go_enter Try.func16, Try.ntmps16
      go_wp2_with fail
      refine (CHAS.out _ (Ext.refl _ _)).mono ?_
      rintro e w1 ⟨rfl, e1⟩
      go_wp2_with fail
      refine (CLIVE.out _ e1).mono ?_
      rintro e w2 ⟨rfl, e2⟩
      have e2 := e1.trans e2 (by simp)
      go_wp2_with fail
      go_ret
      exact Or.inl ⟨by rw [FULL.out (.inl c2)]; decide, ret_int (FULL.out (.inl c2)), H.out.keep e2 (by simp), e2⟩
    have d2 : decide (64 ≤ n) = false := decide_eq_false c2
    by_cases c3 : 24 ≤ p
    · have d3 : decide (24 ≤ p) = true := decide_eq_true c3
      go_enter Try.func16, Try.ntmps16
      go_wp2_with fail
      refine (CHAS.out _ (Ext.refl _ _)).mono ?_
      rintro e w1 ⟨rfl, e1⟩
      go_wp2_with fail
      refine (CLIVE.out _ e1).mono ?_
      rintro e w2 ⟨rfl, e2⟩
      have e2 := e1.trans e2 (by simp)
      go_wp2_with fail
      refine (CHOST.out _ e2).mono ?_
      rintro e w3 ⟨rfl, e3⟩
      have e3 := e2.trans e3 (by simp)
      go_wp2_with fail
      go_ret
      exact Or.inl ⟨by rw [FULL.out (.inr (.inl c3))]; decide, ret_int (FULL.out (.inr (.inl c3))), H.out.keep e3 (by simp), e3⟩
    have d3 : decide (24 ≤ p) = false := decide_eq_false c3
    by_cases c4 : 32 ≤ q
    · have d4 : decide (32 ≤ q) = true := decide_eq_true c4
      go_enter Try.func16, Try.ntmps16
      go_wp2_with fail
      refine (CHAS.out _ (Ext.refl _ _)).mono ?_
      rintro e w1 ⟨rfl, e1⟩
      go_wp2_with fail
      refine (CLIVE.out _ e1).mono ?_
      rintro e w2 ⟨rfl, e2⟩
      have e2 := e1.trans e2 (by simp)
      go_wp2_with fail
      refine (CHOST.out _ e2).mono ?_
      rintro e w3 ⟨rfl, e3⟩
      have e3 := e2.trans e3 (by simp)
      go_wp2_with fail
      refine (CGROUP.out _ e3).mono ?_
      rintro e w4 ⟨rfl, e4⟩
      have e4 := e3.trans e4 (by simp)
      go_wp2_with fail
      go_ret
      exact Or.inl ⟨by rw [FULL.out (.inr (.inr c4))]; decide, ret_int (FULL.out (.inr (.inr c4))), H.out.keep e4 (by simp), e4⟩
    have d4 : decide (32 ≤ q) = false := decide_eq_false c4
    have hz := ROOMY.out (by omega)
    have HZ := Lib.hid hz
    obtain ⟨a, cap, rfl⟩ := H.out.row.val
    rw [← HN.out] at H ⊢
    clear hz FULL ROOMY
    go_enter Try.func16, Try.ntmps16
    go_wp2_with fail
    refine (CHAS.out _ (Ext.refl _ _)).mono ?_
    rintro e w1 ⟨rfl, e1⟩
    go_wp2_with fail
    refine (CLIVE.out _ e1).mono ?_
    rintro e w2 ⟨rfl, e2⟩
    have e2 := e1.trans e2 (by simp)
    go_wp2_with fail
    refine (CHOST.out _ e2).mono ?_
    rintro e w3 ⟨rfl, e3⟩
    have e3 := e2.trans e3 (by simp)
    go_wp2_with fail
    refine (CGROUP.out _ e3).mono ?_
    rintro e w4 ⟨rfl, e4⟩
    have e4 := e3.trans e4 (by simp)
    clear e1 e2 e3 CHAS CLIVE CHOST CGROUP
    have hk4 := H.out.keep e4 (by simp)
    have hcv : w4.cell? ⟨b, 0, none⟩ = some (.slice a n cap) := hk4.blk.cell 0
    have HK4 := Lib.hid hk4
    clear hk4
    have hs4 := e4.size
    have h63 : n + 1 ≤ 1000000 := by omega
    have hlen : LenIs xs [(⟨id, gr, key⟩ : Ad)] (n + 1) := by unfold LenIs; rw [← HN.out]; rfl
    have hsl := Sl.new (enc := encAd) w4 ⟨id, gr, key⟩ 69
    have hrw := HK4.out.row.alloc (.cells (encAd ⟨id, gr, key⟩).toArray 69 (0, 0))
    go_wp2_with (at_builtin; refine wpList_appN tyAd encAd_ok (by rfl) _ _ (by rfl) hrw (by rfl) hsl (by rfl) hlen h63 ?_)
    intro a' c' w5 hr5 hS5 hg5
    have hb5 := HK4.out.blk_of ((Ext.refl [] _).alloc _) hS5
    have hcv5 : w5.cell? ⟨b, 0, none⟩ = some (.slice a n cap) := hb5.cell 0
    have hfv5 : w5.frozen? ⟨b, 0, none⟩ = false := hb5.free 0
    have hfin := HK4.out.appended ((Ext.refl [] _).alloc _) hr5 hS5 (fun g hg => (hg5 g hg).imp_right (fun h => by omega)) 0 (by simp)
    have HF := Lib.hid hfin
    clear hfin hb5 hr5 hS5 hg5 hcv
    go_wp2_with fail
    go_ret
    exact Or.inr ⟨HZ.out, rfl, _, HF.out.1, (e4.mono (by simp)).trans HF.out.2.1 (fun _ hq => Or.inl hq), fun x hx => (HF.out.2.2 x hx).imp_right (fun h => Nat.le_trans hs4 h)⟩
end Go.Proofs.Ytlagogjnoibkcaa
