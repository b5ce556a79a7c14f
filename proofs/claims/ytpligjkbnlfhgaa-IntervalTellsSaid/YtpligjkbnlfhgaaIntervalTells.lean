/- The walk of IntervalTells. -/
import Derived.Test.YtpligjkbnlfhgaaAgree
import Derived.Test.YtpligjkbnlfhgaaArgs
import Derived.OpenShut
namespace Go.Proofs.Ytpligjkbnlfhgaa
open Go.RowKit

def vK : List CK := [.int .i64, .int .i64]
theorem vK_open {L : List Value} (h : CellsOk vK L) : ∃ x y : Int, L = [.int .i64 x, .int .i64 y] := by
  have hl := CellsOk.len h
  match L, hl with
  | [u, v], _ =>
    have h1 : CK.Ok (.int .i64) u := h.1
    have h2 : CK.Ok (.int .i64) v := h.2.1
    obtain ⟨x, rfl, -⟩ := h1
    obtain ⟨y, rfl, -⟩ := h2
    exact ⟨x, y, rfl⟩

set_option maxRecDepth 100000 in
set_option maxHeartbeats 8000000 in
theorem intervalTells3 (c0 c1 : List Value) (a2 a3 a4 a5 a6 a7 : Int) (w : World) (w0 : CellsOk vK c0) (w1 : CellsOk vK c1) (_w2 : (Lit.int .i64 a2).wf = true) (_w3 : (Lit.int .i64 a3).wf = true) (_w4 : (Lit.int .i64 a4).wf = true) (_w5 : (Lit.int .i64 a5).wf = true) (w6 : (Lit.int .u8 a6).wf = true) (w7 : (Lit.int .u8 a7).wf = true) :
    Calls Try.prog 3 #[.agg c0.toArray, .agg c1.toArray, .int .i64 a2, .int .i64 a3, .int .i64 a4, .int .i64 a5, .int .u8 a6, .int .u8 a7] w fun e w' => e = .returned (.bool true) ∧ Below w.heap.size w w' := by
  obtain ⟨p0, p1, rfl⟩ := vK_open w0
  obtain ⟨q0, q1, rfl⟩ := vK_open w1
  have b6 := bounds_u8 w6
  have b7 := bounds_u8 w7
  obtain ⟨hbW, g0, g1⟩ := allocs2 w (ivA p0 p1) (ivA q0 q1) 23 23
  unfold ivA at *
  clear w0 w1 w6 w7 _w2 _w3 _w4 _w5
  go_enter Try.func3, Try.ntmps3
  go_wp2_with fail
  generalize (w.alloc (.cells #[.int .i64 p0, .int .i64 p1] 23)).alloc (.cells #[.int .i64 q0, .int .i64 q1] 23) = W at *
  refine (awake47 W).mono ?_
  rintro e u0 ⟨rfl, hb0⟩
  go_wp2_with fail
  refine (made6 a2 a3 a6 u0 b6).mono ?_
  rintro e u1 ⟨x0, x1, rfl, -, hb1⟩
  go_wp2_with fail
  refine (made6 a4 a5 a7 u1 b7).mono ?_
  rintro e u2 ⟨y0, y1, rfl, -, hb2⟩
  have hB2 := below_trans' hb0 hb0.size (below_trans' hb1 hb1.size hb2)
  obtain ⟨hbN, t0, t1⟩ := allocs2 u2 (ivA x0 x1) (ivA y0 y1) 23 23
  unfold ivA at *
  replace hB2 := below_trans' hB2 hB2.size hbN
  have hb := below_trans' hbW hbW.size hB2
  have h1 := blk_below hB2 g0
  have h2 := blk_below hB2 g1
  have m1 := cells2i h1
  have m2 := cells2i h2
  clear hb0 hb1 hb2 hB2 hbN g0 g1 hbW
  go_wp2_with fail
  generalize (u2.alloc (.cells #[.int .i64 x0, .int .i64 x1] 23)).alloc (.cells #[.int .i64 y0, .int .i64 y1] 23) = V at *
  refine (agree7 p0 p1 q0 q1 V).mono ?_
  rintro e v1 ⟨rfl, hc1⟩
  clear m1 m2
  have n1 := cells2i (blk_below hc1 t0)
  have n2 := cells2i (blk_below hc1 t1)
  go_wp2_with fail
  refine (agree7 x0 x1 y0 y1 v1).mono ?_
  rintro e v2 ⟨rfl, hc2⟩
  replace hc2 := below_trans' hc1 hc1.size hc2
  clear n1 n2
  have n1 := cells2i (blk_below hc2 t0)
  have n2 := cells2i (blk_below hc2 t1)
  go_wp2_with fail
  refine (agree7 y0 y1 x0 x1 v2).mono ?_
  rintro e v3 ⟨rfl, hc3⟩
  replace hc3 := below_trans' hc2 hc2.size hc3
  clear n1 n2
  have n1 := cells2i (blk_below hc3 t0)
  go_wp2_with fail
  refine (agree7 x0 x1 x0 x1 v3).mono ?_
  rintro e v4 ⟨rfl, hc4⟩
  replace hc4 := below_trans' hc3 hc3.size hc4
  clear n1
  have n1 := cells2i (blk_below hc4 h1)
  have n2 := cells2i (blk_below hc4 t1)
  go_wp2_with fail
  refine (agree7 p0 p1 y0 y1 v4).mono ?_
  rintro e v5 ⟨rfl, hc5⟩
  have hbe := below_trans' hb hb.size (below_trans' hc4 hc4.size hc5)
  clear n1 n2
  go_wp2_with fail
  go_ret
  exact ⟨rfl, hbe⟩
end Go.Proofs.Ytpligjkbnlfhgaa
