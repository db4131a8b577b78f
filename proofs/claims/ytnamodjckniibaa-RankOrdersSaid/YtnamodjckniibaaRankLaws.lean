/- The laws RankAll and RankOrders as walks. -/
import Derived.Test.YtnamodjckniibaaCore2
import Derived.Test.YtnamodjckniibaaRankPure
import Derived.Test.YtnamodjckniibaaPRankAllx4
namespace Go.Proofs.Ytnamodjckniibaa
open Go.Joins Go.ChangeShapes Go.WideShapes Go.RowKit Go.Deep Go.Proofs.Ytnamodjckniibaa.PRankAll Go.Proofs.Ytnamodjckniibaa.RankPure

/-- An item, as it comes in. -/
structure It where
  id : Int
  cls : Int
  since : Int
  key : ByteArray
  pre : Int

def It.val (z : It) : Value := .agg #[.int .i64 z.id, .int .i64 z.cls, .int .u64 z.since, .string z.key, .int .i64 z.pre]

theorem open_item {H : Type} {enc : TypeId × Value → H} {W : World} {b : Nat} {v : Value} {d : DataW H} {p : List MemPlace}
    (hv : Value.okWide Try.prog W .any b 38 v) (h : DataW.Trod enc Try.prog W 0 (fun _ => true) true 38 v d p) :
    ∃ z : It, v = z.val ∧ (Lit.int .u64 z.since).wf = true := by
  obtain ⟨v0, v1, v2, v3, v4, y0, y1, y2, y3, y4, n, rfl, -, -, t0, t1, t2, t3, t4⟩ := open_agg5 Try.underlying38 (by kernel_rfl) (by kernel_rfl) hv h
  obtain ⟨m0, e0, -, -⟩ := DataW.trod_int Try.underlying3 t0
  obtain ⟨m1, e1, -, -⟩ := DataW.trod_int Try.underlying3 t1
  obtain ⟨m2, e2, -, w2⟩ := DataW.trod_int Try.underlying22 t2
  obtain ⟨m3, e3, -, -⟩ := DataW.trod_string Try.underlying9 t3
  obtain ⟨m4, e4, -, -⟩ := DataW.trod_int Try.underlying3 t4
  simp only [List.cons.injEq, and_true] at e0 e1 e2 e3 e4
  subst e0 e1 e2 e3 e4
  exact ⟨⟨m0, m1, m2, m3, m4⟩, rfl, w2⟩

theorem rawake (w : World) : Calls Try.prog 14 #[] w fun e w' => e = .returned (.bool true) ∧ Below w.heap.size w w' :=
  lockkeeperlaw19_awake.calls 10 true w (by decide +kernel)

theorem rankAll_walk (w : World) (a0 : Int) (_h0 : (Lit.int .i64 a0).wf = true) (a1 : Int) (h1 : (Lit.int .u64 a1).wf = true) (a2 : Int) (h2 : (Lit.int .u64 a2).wf = true)
    (x : It) (hx : (Lit.int .u64 x.since).wf = true) (y : It) (hy : (Lit.int .u64 y.since).wf = true) (a5 : Int) (h5 : (Lit.int .u64 a5).wf = true) :
    Calls Try.prog 8 #[.int .i64 a0, .int .u64 a1, .int .u64 a2, x.val, y.val, .int .u64 a5] w fun e w' => e = .returned (.bool true) ∧ Ext [] w w' := by
  have ⟨b0, b1⟩ := u64_of_wf h1
  have ⟨c0, c1⟩ := u64_of_wf h2
  have sx := u64_of_wf hx
  have sy := u64_of_wf hy
  have sn := u64_of_wf h5
  refine (lockkeeperlaw19_RankAll.calls 10 a0 a1 a2 x.id x.cls x.since x.key x.pre y.id y.cls y.since y.key y.pre a5 true w ?_).mono fun e w' ⟨he, hb⟩ => ⟨he, Ext.of_below hb⟩
  have haw : lockkeeperlaw19_awake.f 10 = some true := by decide +kernel
  unfold lockkeeperlaw19_RankAll.f
  rw [level_eq a0 a1 a2 b0 b1, rlevel_eq a0 a1 a2 b0 b1, wait_eq a0 a2 c1, rwait_eq a0 a2 c1, less_eq _ _ _ _ _ _ _ _ _ _ _ _ sx sy sn, rless_eq _ _ _ _ _ _ _ _ _ _ _ _ sx sy sn, haw]
  simp
end Go.Proofs.Ytnamodjckniibaa
