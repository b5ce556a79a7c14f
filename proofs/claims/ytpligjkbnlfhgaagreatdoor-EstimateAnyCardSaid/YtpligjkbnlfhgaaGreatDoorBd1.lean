/- Band of the program, by what the functions that it calls hand back. No statement is proved here. -/
import Derived.Test.YtpligjkbnlfhgaaGreatDoorBd0
namespace Go.Proofs.YtpligjkbnlfhgaaGreatDoor
open Go.RowKit

/-- What Band hands back. -/
def bandV (t : Bool) (a b : Int) : Value := if t = true then .tuple #[.agg #[.int .i64 a, .int .i64 b], .bool true] else .tuple #[.agg #[.int .i64 0, .int .i64 0], .bool false]
theorem band_flag : ∀ p q r : Bool, (((false || !p) || !q) || !r) = !(p && q && r) := by decide
theorem tri_late {g : Nat} {b0 q o : Bool} {w0 x : World} (F : Flag 4 g b0 w0) (hx : RFl 4 g q w0 x) (hq : q = true → o = true) (A B : Int) :
    Calls Tryz.prog 37 (#[.agg #[.int .i64 A, .int .i64 B], .bool o] ++ #[.pointer (some ⟨g, 0, none⟩)]) x fun e w' => ∃ v, e = .returned v ∧ knF 4 g (.agg #[.int .i64 A, .int .i64 B]) o v w' ∧ RFl 4 g q x w' := by
  obtain ⟨b', hF, -, -⟩ := hx.flag b0 F
  refine (tri37 g b' o A B x hF).mono ?_
  rintro e w' ⟨rfl, hg, hF'⟩
  exact ⟨_, rfl, ⟨rfl, fun e => by subst e; simpa using hF'⟩, RFl.of_try hg (fun b hb => by rw [hF.uniq hb] at hF'; exact hF') hq⟩

set_option maxRecDepth 100000 in
set_option maxHeartbeats 16000000 in
theorem band12 (n : Int) (X Y V U Z1 Z2 : ByteArray) (a1 b1 a2 b2 a3 b3 a4 b4 a5 b5 a6 b6 a7 b7 a8 b8 : Int) (o1 o2 o3 o4 o5 o6 o7 o8 : Bool) (w : World)
    (hm : ∀ w, Calls Tryz.prog 38 #[.agg #[.string X, .string Y]] w fun e w' => e = .returned (.tuple #[.agg #[.int .i64 a1, .int .i64 b1], .bool o1]) ∧ Below w.heap.size w w')
    (hz : ∀ w, Calls Tryz.prog 38 #[.agg #[.string Z1, .string Z2]] w fun e w' => e = .returned (.tuple #[.agg #[.int .i64 a2, .int .i64 b2], .bool o2]) ∧ Below w.heap.size w w')
    (hv : ∀ w, Calls Tryz.prog 38 #[.agg #[.string V, .string U]] w fun e w' => e = .returned (.tuple #[.agg #[.int .i64 a3, .int .i64 b3], .bool o3]) ∧ Below w.heap.size w w')
    (hs : ∀ w, Calls Tryz.prog 40 #[.agg #[.int .i64 a3, .int .i64 b3]] w fun e w' => e = .returned (.tuple #[.agg #[.int .i64 a4, .int .i64 b4], .bool o4]) ∧ Below w.heap.size w w')
    (hp : ∀ w, Calls Tryz.prog 39 #[.agg #[.int .i64 a2, .int .i64 b2], .agg #[.int .i64 a4, .int .i64 b4]] w fun e w' => e = .returned (.tuple #[.agg #[.int .i64 a5, .int .i64 b5], .bool o5]) ∧ Below w.heap.size w w')
    (hx : ∀ w, Calls Tryz.prog 42 #[.agg #[.int .i64 a1, .int .i64 b1], .agg #[.int .i64 a5, .int .i64 b5]] w fun e w' => e = .returned (.tuple #[.agg #[.int .i64 a6, .int .i64 b6], .bool o6]) ∧ Below w.heap.size w w')
    (hy : ∀ w, Calls Tryz.prog 43 #[.agg #[.int .i64 a1, .int .i64 b1], .agg #[.int .i64 a5, .int .i64 b5]] w fun e w' => e = .returned (.tuple #[.agg #[.int .i64 a7, .int .i64 b7], .bool o7]) ∧ Below w.heap.size w w')
    (hh : ∀ w, Calls Tryz.prog 41 #[.agg #[.int .i64 a6, .int .i64 b6], .agg #[.int .i64 a7, .int .i64 b7]] w fun e w' => e = .returned (.tuple #[.agg #[.int .i64 a8, .int .i64 b8], .bool o8]) ∧ Below w.heap.size w w') :
    Calls Tryz.prog 12 #[.agg #[.int .i64 n, .string X, .string Y, .string V, .string U], .agg #[.string Z1, .string Z2]] w fun e w' => e = .returned (bandV (o1 && (o2 && (o3 && (o4 && o5))) && (o6 && (o7 && o8))) a8 b8) ∧ Below w.heap.size w w' := by
  obtain ⟨hbW, g0, g1, g2, g3⟩ := allocs4 w #[.int .i64 n, .string X, .string Y, .string V, .string U] #[.string Z1, .string Z2] #[.int .i64 0, .int .i64 0] #[.bool false] 28 26 36 4
  have hmf : ∀ (fn : Fn) (first cap : Array Value) (w : World), (Instr.makeFunc fn first cap).run Tryz.prog w = .ok (.func fn first cap) w := fun _ _ _ _ => rfl
  have HM := Lib.hid hm
  have HZ := Lib.hid hz
  have HV := Lib.hid hv
  have HS := Lib.hid hs
  have HP := Lib.hid hp
  have HX := Lib.hid hx
  have HY := Lib.hid hy
  have HH := Lib.hid hh
  clear hm hz hv hs hp hx hy hh
  have k0 := cells5 g0
  have fz := free_of_block g3
  obtain ⟨Q4, hQ4⟩ : ∃ q, (o2 && (o3 && (o4 && o5))) = q := ⟨_, rfl⟩
  obtain ⟨Q5, hQ5⟩ : ∃ q, (o6 && (o7 && o8)) = q := ⟨_, rfl⟩
  have i4 : (Q4 = true → o2 = true ∧ o3 = true ∧ o4 = true ∧ o5 = true) ∧ (Q4 = false → o2 = false ∨ o3 = false ∨ o4 = false ∨ o5 = false) := by subst hQ4; cases o2 <;> cases o3 <;> cases o4 <;> cases o5 <;> simp
  have i5 : (Q5 = true → o6 = true ∧ o7 = true ∧ o8 = true) ∧ (Q5 = false → o6 = false ∨ o7 = false ∨ o8 = false) := by subst hQ5; cases o6 <;> cases o7 <;> cases o8 <;> simp
  rw [hQ4, hQ5]
  obtain ⟨T, hT⟩ : ∃ T, (o1 && Q4 && Q5) = T := ⟨_, rfl⟩
  rw [hT]
  have HT := Lib.hid hT
  have I4 := Lib.hid i4
  have I5 := Lib.hid i5
  clear i4 i5 hQ4 hQ5 hT
  have F : Flag 4 (w.heap.size + 1 + 1 + 1) false _ := g3
  have c0 := g0
  have c1 := g1
  have c2 := g2
  have hbV := hbW
  have d0 := cells5 c0
  clear hbW g0 g1 g2 g3
  have ne0 : w.heap.size ≠ (w.heap.size + 1 + 1 + 1) := by omega
  have ne1 : w.heap.size + 1 ≠ (w.heap.size + 1 + 1 + 1) := by omega
  have ne2 : w.heap.size + 1 + 1 ≠ (w.heap.size + 1 + 1 + 1) := by omega
  go_enter Tryz.func12, Tryz.ntmps12
  go_wp2_with fail
  clear fz k0
  generalize (((w.alloc (.cells #[.int .i64 n, .string X, .string Y, .string V, .string U] 28)).alloc (.cells #[.string Z1, .string Z2] 26)).alloc (.cells #[.int .i64 0, .int .i64 0] 36)).alloc (.cells #[.bool false] 4) = U0 at *
  refine (HM.out U0).mono ?_
  rintro e w1 ⟨rfl, hb1⟩
  go_wp2_with fail
  refine (tri37 (w.heap.size + 1 + 1 + 1) false o1 a1 b1 w1 (F.below hb1)).mono ?_
  rintro e w2 ⟨rfl, hg2, F2⟩
  have hst := (Below.refl w2.heap.size w2).alloc (Nat.le_refl _) (.cells #[.int .i64 a1, .int .i64 b1] 36)
  have t8 := heap_alloc_new w2 (.cells #[.int .i64 a1, .int .i64 b1] 36)
  replace c0 := blk_below hst (blk_grown hg2 (blk_below hb1 c0) ne0)
  replace c1 := blk_below hst (blk_grown hg2 (blk_below hb1 c1) ne1)
  replace c2 := blk_below hst (blk_grown hg2 (blk_below hb1 c2) ne2)
  have lt1 : (w.heap.size + 1 + 1 + 1) < w2.heap.size := F2.lt
  replace F := F2.below hst
  have hq1 := below_trans' hbV hbV.size hb1
  replace hbV := below_trans' (below_grown hq1 hg2 hq1.size (show w.heap.size ≤ (w.heap.size + 1 + 1 + 1) by omega)) (below_grown hq1 hg2 hq1.size (show w.heap.size ≤ (w.heap.size + 1 + 1 + 1) by omega)).size hst
  clear hst hg2 hb1 F2 d0 hq1
  go_upto_region 4 with fail
  generalize w2.alloc (.cells #[.int .i64 a1, .int .i64 b1] 36) = v1 at *
  generalize w2.heap.size = N1 at *
  have hbd : Below v1.heap.size v1 v1.drew := (Below.refl _ _).drew
  have F' : Flag 4 (w.heap.size + 1 + 1 + 1) _ v1.drew := F.below hbd
  have hzz : ∀ x : Beh (RFl 4 (w.heap.size + 1 + 1 + 1) Q4) v1.drew, v1.grownBy x.w (some (w.heap.size + 1 + 1 + 1)) := fun x => grown_trans (grown_below hbd _) x.h.grow
  have ltv : (w.heap.size + 1 + 1 + 1) < v1.heap.size := F.lt
  have z0 := fun x : Beh (RFl 4 (w.heap.size + 1 + 1 + 1) Q4) v1.drew => (cells5 (blk_grown (hzz x) c0 ne0)).2.2.2.1
  have z1 := fun x : Beh (RFl 4 (w.heap.size + 1 + 1 + 1) Q4) v1.drew => (cells5 (blk_grown (hzz x) c0 ne0)).2.2.2.2
  have z2 := fun x : Beh (RFl 4 (w.heap.size + 1 + 1 + 1) Q4) v1.drew => (cells2 (blk_grown (hzz x) c1 ne1)).1
  have z3 := fun x : Beh (RFl 4 (w.heap.size + 1 + 1 + 1) Q4) v1.drew => (cells2 (blk_grown (hzz x) c1 ne1)).2
  refine wp_region_late (R := RFl 4 (w.heap.size + 1 + 1 + 1) Q4) 24 64 [(3, [], none), (6, [], some (knF 4 (w.heap.size + 1 + 1 + 1) (.agg #[.int .i64 a2, .int .i64 b2]) o2)), (11, [], none), (14, [], some (knF 4 (w.heap.size + 1 + 1 + 1) (.agg #[.int .i64 a3, .int .i64 b3]) o3)), (15, [33], none), (18, [], some (knF 4 (w.heap.size + 1 + 1 + 1) (.agg #[.int .i64 a4, .int .i64 b4]) o4)), (19, [25, 37], none), (22, [], some (knF 4 (w.heap.size + 1 + 1 + 1) (.agg #[.int .i64 a5, .int .i64 b5]) o5)), (23, [], some (fresh v1.heap.size #[.int .i64 0, .int .i64 0] 36))] (by kernel_rfl) (by kernel_rfl) (by kernel_rfl) rfl RFl.refl RFl.trans ?_
  simp only [Late, List.take_succ_cons, List.drop_succ_cons, List.take_zero, List.drop_zero, Nat.reduceSub, Nat.reduceAdd, Nat.sub_zero]
  repeat (first | go_big_quiet_step (fail) | go_big_quiet_step (rfl))
  refine wpQuiet_nil ?_
  refine late_call Tryz.func38 (by kernel_rfl) (by kernel_rfl) (fun x => (HZ.out x.w).mono fun _ _ h => ⟨h.1, RFl.of_le h.2⟩) rfl (by simp only [Act.put, List.setIfInBounds_toArray, List.set_cons_succ, List.set_cons_zero]; rfl) ?_
  (try simp only [List.nil_append, List.cons_append, Option.getD_some])
  repeat (first | go_big_quiet_step (fail) | go_big_quiet_step (rfl))
  refine wpQuiet_nil ?_
  refine late_clo (vals := #[.agg #[.int .i64 a2, .int .i64 b2], .bool o2]) (cap := #[.pointer (some ⟨(w.heap.size + 1 + 1 + 1), 0, none⟩)]) Tryz.func37 (by kernel_rfl) (by kernel_rfl) rfl (knF_mono _ _ _ _ _) (fun x => tri_late F' x.h (fun h => (I4.out.1 h).1) a2 b2) rfl (by simp only [Act.put, List.setIfInBounds_toArray, List.set_cons_succ, List.set_cons_zero]; rfl) ?_
  (try simp only [List.nil_append, Option.getD_some])
  repeat (first | go_big_quiet_step (fail) | go_big_quiet_step (rfl))
  refine wpQuiet_nil ?_
  refine late_call Tryz.func38 (by kernel_rfl) (by kernel_rfl) (fun x => (HV.out x.w).mono fun _ _ h => ⟨h.1, RFl.of_le h.2⟩) rfl (by simp only [Act.put, List.setIfInBounds_toArray, List.set_cons_succ, List.set_cons_zero]; rfl) ?_
  (try simp only [List.nil_append, List.cons_append, Option.getD_some])
  repeat (first | go_big_quiet_step (fail) | go_big_quiet_step (rfl))
  refine wpQuiet_nil ?_
  refine late_clo (vals := #[.agg #[.int .i64 a3, .int .i64 b3], .bool o3]) (cap := #[.pointer (some ⟨(w.heap.size + 1 + 1 + 1), 0, none⟩)]) Tryz.func37 (by kernel_rfl) (by kernel_rfl) rfl (knF_mono _ _ _ _ _) (fun x => tri_late F' x.h (fun h => (I4.out.1 h).2.1) a3 b3) rfl (by simp only [Act.put, List.setIfInBounds_toArray, List.set_cons_succ, List.set_cons_zero]; rfl) ?_
  (try simp only [List.nil_append, List.cons_append, Option.getD_some])
  refine wpQuiet_nil ?_
  refine late_kn1 [(25, knF 4 (w.heap.size + 1 + 1 + 1) (.agg #[.int .i64 a2, .int .i64 b2]) o2)] Tryz.func40 (by kernel_rfl) (by kernel_rfl) (by rfl) (fun x => (HS.out x.w).mono fun _ _ h => ⟨h.1, RFl.of_le h.2⟩) (by simp only [Act.put, List.setIfInBounds_toArray, List.set_cons_succ, List.set_cons_zero]; rfl) (by simp only [Act.put, List.setIfInBounds_toArray, List.set_cons_succ, List.set_cons_zero]; rfl) ?_
  (try simp only [List.nil_append, List.cons_append])
  repeat (first | go_big_quiet_step (fail) | go_big_quiet_step (rfl))
  refine wpQuiet_nil ?_
  refine late_clo (vals := #[.agg #[.int .i64 a4, .int .i64 b4], .bool o4]) (cap := #[.pointer (some ⟨(w.heap.size + 1 + 1 + 1), 0, none⟩)]) Tryz.func37 (by kernel_rfl) (by kernel_rfl) rfl (knF_mono _ _ _ _ _) (fun x => tri_late F' x.h (fun h => (I4.out.1 h).2.2.1) a4 b4) rfl (by simp only [Act.put, List.setIfInBounds_toArray, List.set_cons_succ, List.set_cons_zero]; rfl) ?_
  (try simp only [List.nil_append, List.cons_append, Option.getD_some])
  refine wpQuiet_nil ?_
  refine late_kn2 [(33, knF 4 (w.heap.size + 1 + 1 + 1) (.agg #[.int .i64 a3, .int .i64 b3]) o3)] Tryz.func39 (by kernel_rfl) (by kernel_rfl) (by rfl) (fun x => (HP.out x.w).mono fun _ _ h => ⟨h.1, RFl.of_le h.2⟩) (by simp only [Act.put, List.setIfInBounds_toArray, List.set_cons_succ, List.set_cons_zero]; rfl) (by simp only [Act.put, List.setIfInBounds_toArray, List.set_cons_succ, List.set_cons_zero]; rfl) ?_
  (try simp only [List.nil_append, List.cons_append])
  repeat (first | go_big_quiet_step (fail) | go_big_quiet_step (rfl))
  refine wpQuiet_nil ?_
  refine late_clo (vals := #[.agg #[.int .i64 a5, .int .i64 b5], .bool o5]) (cap := #[.pointer (some ⟨(w.heap.size + 1 + 1 + 1), 0, none⟩)]) Tryz.func37 (by kernel_rfl) (by kernel_rfl) rfl (knF_mono _ _ _ _ _) (fun x => tri_late F' x.h (fun h => (I4.out.1 h).2.2.2) a5 b5) rfl (by simp only [Act.put, List.setIfInBounds_toArray, List.set_cons_succ, List.set_cons_zero]; rfl) ?_
  (try simp only [List.nil_append, List.cons_append, Option.getD_some])
  refine wpQuiet_nil ?_
  refine late_allocR (fun _ _ => by kernel_rfl) (fun x => RFl.of_le ((Below.refl _ _).alloc (Nat.le_refl _) _)) (fresh_fl ltv) (fun x => Nat.le_trans hbd.size x.h.grow.size) (by simp only [Act.put, List.setIfInBounds_toArray, List.set_cons_succ, List.set_cons_zero]; rfl) ?_
  refine wpQuiet_nil ?_
  intro x
  simp only [List.nil_append, List.cons_append, allGens, Option.getD_some]
  rintro _ ⟨rfl, q2⟩ _ ⟨rfl, q3⟩ _ ⟨rfl, q4⟩ _ ⟨rfl, q5⟩ vp ⟨D4, rfl, hdD4, gdD4⟩
  simp only [Act.put, List.setIfInBounds_toArray, List.set_cons_succ, List.set_cons_zero]
  have F5 := flag_out x.h F' (fun h => by rcases I4.out.2 h with h | h | h | h <;> first | exact q2 h | exact q3 h | exact q4 h | exact q5 h)
  have ltD : (w.heap.size + 1 + 1 + 1) < D4 := Nat.lt_of_lt_of_le ltv hdD4
  replace F := F5.put2 (z := D4) (by omega) (.int .i64 a5) (.int .i64 b5)
  have pc0 := (other_blk' (g := D4) (i := 1) (x := .int .i64 b5) (by have := lt_of_blk c0; omega)).trans ((other_blk' (g := D4) (i := 0) (x := .int .i64 a5) (by have := lt_of_blk c0; omega)).trans (blk_grown (hzz x) c0 ne0))
  have pc1 := (other_blk' (g := D4) (i := 1) (x := .int .i64 b5) (by have := lt_of_blk c1; omega)).trans ((other_blk' (g := D4) (i := 0) (x := .int .i64 a5) (by have := lt_of_blk c1; omega)).trans (blk_grown (hzz x) c1 ne1))
  have pc2 := (other_blk' (g := D4) (i := 1) (x := .int .i64 b5) (by have := lt_of_blk c2; omega)).trans ((other_blk' (g := D4) (i := 0) (x := .int .i64 a5) (by have := lt_of_blk c2; omega)).trans (blk_grown (hzz x) c2 ne2))
  have pt8 := (other_blk' (g := D4) (i := 1) (x := .int .i64 b5) (by have := lt_of_blk t8; omega)).trans ((other_blk' (g := D4) (i := 0) (x := .int .i64 a5) (by have := lt_of_blk t8; omega)).trans (blk_grown (hzz x) t8 (by omega)))
  have tD4 := block_set (block_set gdD4 0 (.int .i64 a5)) 1 (.int .i64 b5)
  have y1 := cells2i gdD4
  have y2 := free_of_block gdD4
  have hbx := below_grown (hbV.trans (hbd.mono hbV.size)) x.h.grow (Nat.le_trans hbV.size hbd.size) (show w.heap.size ≤ (w.heap.size + 1 + 1 + 1) by omega)
  replace hbV := below_sets2 hbx (show w.heap.size ≤ D4 by omega) (.int .i64 a5) (.int .i64 b5)
  clear F5 F' hzz hbd hbx z0 z1 z2 z3 q2 q3 q4 q5 c0 c1 c2 t8
  have c0 := pc0
  have c1 := pc1
  have c2 := pc2
  have t8 := pt8
  clear pc0 pc1 pc2 pt8
  generalize x.w = wx at *
  go_upto_region 5 with fail
  generalize (wx.setCell ⟨D4, 0, none⟩ (.int .i64 a5)).setCell ⟨D4, 1, none⟩ (.int .i64 b5) = v2 at *
  replace tD4 : v2.heap[D4]? = some (.cells #[.int .i64 a5, .int .i64 b5] 36 (0, 0)) := tD4
  clear y1 y2 gdD4
  have hbd : Below v2.heap.size v2 v2.drew := (Below.refl _ _).drew
  have F' : Flag 4 (w.heap.size + 1 + 1 + 1) _ v2.drew := F.below hbd
  have hzz : ∀ x : Beh (RFl 4 (w.heap.size + 1 + 1 + 1) Q5) v2.drew, v2.grownBy x.w (some (w.heap.size + 1 + 1 + 1)) := fun x => grown_trans (grown_below hbd _) x.h.grow
  have ltv : (w.heap.size + 1 + 1 + 1) < v2.heap.size := F.lt
  have z0 := fun x : Beh (RFl 4 (w.heap.size + 1 + 1 + 1) Q5) v2.drew => (cells2i (blk_grown (hzz x) t8 (by omega))).1
  have z1 := fun x : Beh (RFl 4 (w.heap.size + 1 + 1 + 1) Q5) v2.drew => (cells2i (blk_grown (hzz x) t8 (by omega))).2
  have z2 := fun x : Beh (RFl 4 (w.heap.size + 1 + 1 + 1) Q5) v2.drew => (cells2i (blk_grown (hzz x) tD4 (by omega))).1
  have z3 := fun x : Beh (RFl 4 (w.heap.size + 1 + 1 + 1) Q5) v2.drew => (cells2i (blk_grown (hzz x) tD4 (by omega))).2
  refine wp_region_late (R := RFl 4 (w.heap.size + 1 + 1 + 1) Q5) 20 64 [(4, [], none), (7, [], some (knF 4 (w.heap.size + 1 + 1 + 1) (.agg #[.int .i64 a6, .int .i64 b6]) o6)), (11, [], none), (14, [], some (knF 4 (w.heap.size + 1 + 1 + 1) (.agg #[.int .i64 a7, .int .i64 b7]) o7)), (15, [49, 56], none), (18, [], some (knF 4 (w.heap.size + 1 + 1 + 1) (.agg #[.int .i64 a8, .int .i64 b8]) o8)), (19, [], some (fresh v2.heap.size #[.int .i64 0, .int .i64 0] 36))] (by kernel_rfl) (by kernel_rfl) (by kernel_rfl) rfl RFl.refl RFl.trans ?_
  simp only [Late, List.take_succ_cons, List.drop_succ_cons, List.take_zero, List.drop_zero, Nat.reduceSub, Nat.reduceAdd, Nat.sub_zero]
  repeat (first | go_big_quiet_step (fail) | go_big_quiet_step (rfl))
  refine wpQuiet_nil ?_
  refine late_call Tryz.func42 (by kernel_rfl) (by kernel_rfl) (fun x => (HX.out x.w).mono fun _ _ h => ⟨h.1, RFl.of_le h.2⟩) rfl (by simp only [Act.put, List.setIfInBounds_toArray, List.set_cons_succ, List.set_cons_zero]; rfl) ?_
  (try simp only [List.nil_append, List.cons_append, Option.getD_some])
  repeat (first | go_big_quiet_step (fail) | go_big_quiet_step (rfl))
  refine wpQuiet_nil ?_
  refine late_clo (vals := #[.agg #[.int .i64 a6, .int .i64 b6], .bool o6]) (cap := #[.pointer (some ⟨(w.heap.size + 1 + 1 + 1), 0, none⟩)]) Tryz.func37 (by kernel_rfl) (by kernel_rfl) rfl (knF_mono _ _ _ _ _) (fun x => tri_late F' x.h (fun h => (I5.out.1 h).1) a6 b6) rfl (by simp only [Act.put, List.setIfInBounds_toArray, List.set_cons_succ, List.set_cons_zero]; rfl) ?_
  (try simp only [List.nil_append, Option.getD_some])
  repeat (first | go_big_quiet_step (fail) | go_big_quiet_step (rfl))
  refine wpQuiet_nil ?_
  refine late_call Tryz.func43 (by kernel_rfl) (by kernel_rfl) (fun x => (HY.out x.w).mono fun _ _ h => ⟨h.1, RFl.of_le h.2⟩) rfl (by simp only [Act.put, List.setIfInBounds_toArray, List.set_cons_succ, List.set_cons_zero]; rfl) ?_
  (try simp only [List.nil_append, List.cons_append, Option.getD_some])
  repeat (first | go_big_quiet_step (fail) | go_big_quiet_step (rfl))
  refine wpQuiet_nil ?_
  refine late_clo (vals := #[.agg #[.int .i64 a7, .int .i64 b7], .bool o7]) (cap := #[.pointer (some ⟨(w.heap.size + 1 + 1 + 1), 0, none⟩)]) Tryz.func37 (by kernel_rfl) (by kernel_rfl) rfl (knF_mono _ _ _ _ _) (fun x => tri_late F' x.h (fun h => (I5.out.1 h).2.1) a7 b7) rfl (by simp only [Act.put, List.setIfInBounds_toArray, List.set_cons_succ, List.set_cons_zero]; rfl) ?_
  (try simp only [List.nil_append, List.cons_append, Option.getD_some])
  refine wpQuiet_nil ?_
  refine late_kn2 [] Tryz.func41 (by kernel_rfl) (by kernel_rfl) (by rfl) (fun x => (HH.out x.w).mono fun _ _ h => ⟨h.1, RFl.of_le h.2⟩) (by simp only [Act.put, List.setIfInBounds_toArray, List.set_cons_succ, List.set_cons_zero]; rfl) (by simp only [Act.put, List.setIfInBounds_toArray, List.set_cons_succ, List.set_cons_zero]; rfl) ?_
  (try simp only [List.nil_append, List.cons_append])
  repeat (first | go_big_quiet_step (fail) | go_big_quiet_step (rfl))
  refine wpQuiet_nil ?_
  refine late_clo (vals := #[.agg #[.int .i64 a8, .int .i64 b8], .bool o8]) (cap := #[.pointer (some ⟨(w.heap.size + 1 + 1 + 1), 0, none⟩)]) Tryz.func37 (by kernel_rfl) (by kernel_rfl) rfl (knF_mono _ _ _ _ _) (fun x => tri_late F' x.h (fun h => (I5.out.1 h).2.2) a8 b8) rfl (by simp only [Act.put, List.setIfInBounds_toArray, List.set_cons_succ, List.set_cons_zero]; rfl) ?_
  (try simp only [List.nil_append, List.cons_append, Option.getD_some])
  refine wpQuiet_nil ?_
  refine late_allocR (fun _ _ => by kernel_rfl) (fun x => RFl.of_le ((Below.refl _ _).alloc (Nat.le_refl _) _)) (fresh_fl ltv) (fun x => Nat.le_trans hbd.size x.h.grow.size) (by simp only [Act.put, List.setIfInBounds_toArray, List.set_cons_succ, List.set_cons_zero]; rfl) ?_
  refine wpQuiet_nil ?_
  intro x
  simp only [List.nil_append, List.cons_append, allGens, Option.getD_some]
  rintro _ ⟨rfl, q6⟩ _ ⟨rfl, q7⟩ _ ⟨rfl, q8⟩ vp ⟨D5, rfl, hdD5, gdD5⟩
  simp only [Act.put, List.setIfInBounds_toArray, List.set_cons_succ, List.set_cons_zero]
  have F5 := flag_out x.h F' (fun h => by rcases I5.out.2 h with h | h | h <;> first | exact q6 h | exact q7 h | exact q8 h)
  have ltD : (w.heap.size + 1 + 1 + 1) < D5 := Nat.lt_of_lt_of_le ltv hdD5
  replace F := F5.put2 (z := D5) (by omega) (.int .i64 a8) (.int .i64 b8)
  have pc0 := (other_blk' (g := D5) (i := 1) (x := .int .i64 b8) (by have := lt_of_blk c0; omega)).trans ((other_blk' (g := D5) (i := 0) (x := .int .i64 a8) (by have := lt_of_blk c0; omega)).trans (blk_grown (hzz x) c0 ne0))
  have pc1 := (other_blk' (g := D5) (i := 1) (x := .int .i64 b8) (by have := lt_of_blk c1; omega)).trans ((other_blk' (g := D5) (i := 0) (x := .int .i64 a8) (by have := lt_of_blk c1; omega)).trans (blk_grown (hzz x) c1 ne1))
  have pc2 := (other_blk' (g := D5) (i := 1) (x := .int .i64 b8) (by have := lt_of_blk c2; omega)).trans ((other_blk' (g := D5) (i := 0) (x := .int .i64 a8) (by have := lt_of_blk c2; omega)).trans (blk_grown (hzz x) c2 ne2))
  have tD5 := block_set (block_set gdD5 0 (.int .i64 a8)) 1 (.int .i64 b8)
  have y1 := cells2i gdD5
  have y2 := free_of_block gdD5
  have hbx := below_grown (hbV.trans (hbd.mono hbV.size)) x.h.grow (Nat.le_trans hbV.size hbd.size) (show w.heap.size ≤ (w.heap.size + 1 + 1 + 1) by omega)
  replace hbV := below_sets2 hbx (show w.heap.size ≤ D5 by omega) (.int .i64 a8) (.int .i64 b8)
  clear F5 F' hzz hbd hbx z0 z1 z2 z3 q6 q7 q8 c0 c1 c2
  have c0 := pc0
  have c1 := pc1
  have c2 := pc2
  clear pc0 pc1 pc2
  generalize x.w = wx at *
  go_upto_region 6 with fail
  generalize (wx.setCell ⟨D5, 0, none⟩ (.int .i64 a8)).setCell ⟨D5, 1, none⟩ (.int .i64 b8) = v3 at *
  replace tD5 : v3.heap[D5]? = some (.cells #[.int .i64 a8, .int .i64 b8] 36 (0, 0)) := tD5
  clear y1 y2 gdD5
  have kf := cell1 F
  have kd := cells2i tD5
  have f2 := free_of_block c2
  have kz := cells2i c2
  rw [band_flag, HT.out] at kf
  clear HT c0 c1 tD5 F
  cases T with
  | true =>
    simp only [Bool.not_true] at kf
    obtain ⟨y0, y1⟩ := ret2i (A := a8) (B := b8) c2
    have hbe := below_sets2 hbV (show w.heap.size ≤ w.heap.size + 1 + 1 by omega) (.int .i64 a8) (.int .i64 b8)
    go_wp2_with fail
    exact bodyPost_ret (v := .tuple #[.agg #[.int .i64 a8, .int .i64 b8], .bool true]) (by simp [results, Tryz.results12, go_sem, y0, y1]) rfl ⟨rfl, hbe⟩
  | false =>
    simp only [Bool.not_false] at kf
    obtain ⟨y0, y1⟩ := ret2i (A := 0) (B := 0) c2
    have hbe := below_sets2 hbV (show w.heap.size ≤ w.heap.size + 1 + 1 by omega) (.int .i64 0) (.int .i64 0)
    go_wp2_with fail
    exact bodyPost_ret (v := .tuple #[.agg #[.int .i64 0, .int .i64 0], .bool false]) (by simp [results, Tryz.results12, go_sem, y0, y1]) rfl ⟨rfl, hbe⟩
end Go.Proofs.YtpligjkbnlfhgaaGreatDoor
