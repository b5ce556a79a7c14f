/- Band of the reference, and that both hand back the same. No statement is proved here. -/
import Derived.Test.YtpligjkbnlfhgaaGreatDoorBd1
import Derived.Test.YtpligjkbnlfhgaaGreatDoorEr
namespace Go.Proofs.YtpligjkbnlfhgaaGreatDoor
open Go.RowKit

set_option maxRecDepth 100000 in
set_option maxHeartbeats 16000000 in
theorem band13 (n : Int) (X Y V U Z1 Z2 : ByteArray) (a1 b1 a2 b2 a3 b3 a4 b4 a5 b5 a6 b6 a7 b7 a8 b8 : Int) (o1 o2 o3 o4 o5 o6 o7 o8 : Bool) (w : World)
    (hm : ∀ w, Calls Tryz.prog 44 #[.agg #[.string X, .string Y]] w fun e w' => e = .returned (.tuple #[.agg #[.int .i64 a1, .int .i64 b1], .bool o1]) ∧ Below w.heap.size w w')
    (hz : ∀ w, Calls Tryz.prog 44 #[.agg #[.string Z1, .string Z2]] w fun e w' => e = .returned (.tuple #[.agg #[.int .i64 a2, .int .i64 b2], .bool o2]) ∧ Below w.heap.size w w')
    (hv : ∀ w, Calls Tryz.prog 44 #[.agg #[.string V, .string U]] w fun e w' => e = .returned (.tuple #[.agg #[.int .i64 a3, .int .i64 b3], .bool o3]) ∧ Below w.heap.size w w')
    (hs : ∀ w, Calls Tryz.prog 45 #[.agg #[.int .i64 a3, .int .i64 b3]] w fun e w' => e = .returned (.tuple #[.agg #[.int .i64 a4, .int .i64 b4], .bool o4]) ∧ Below w.heap.size w w')
    (hp : ∀ w, Calls Tryz.prog 46 #[.agg #[.int .i64 a2, .int .i64 b2], .agg #[.int .i64 a4, .int .i64 b4]] w fun e w' => e = .returned (.tuple #[.agg #[.int .i64 a5, .int .i64 b5], .bool o5]) ∧ Below w.heap.size w w')
    (hx : ∀ w, Calls Tryz.prog 47 #[.agg #[.int .i64 a1, .int .i64 b1], .agg #[.int .i64 a5, .int .i64 b5]] w fun e w' => e = .returned (.tuple #[.agg #[.int .i64 a6, .int .i64 b6], .bool o6]) ∧ Below w.heap.size w w')
    (hy : ∀ w, Calls Tryz.prog 48 #[.agg #[.int .i64 a1, .int .i64 b1], .agg #[.int .i64 a5, .int .i64 b5]] w fun e w' => e = .returned (.tuple #[.agg #[.int .i64 a7, .int .i64 b7], .bool o7]) ∧ Below w.heap.size w w')
    (hh : ∀ w, Calls Tryz.prog 49 #[.agg #[.int .i64 a6, .int .i64 b6], .agg #[.int .i64 a7, .int .i64 b7]] w fun e w' => e = .returned (.tuple #[.agg #[.int .i64 a8, .int .i64 b8], .bool o8]) ∧ Below w.heap.size w w') (h8 : o8 = false → a8 = 0 ∧ b8 = 0) :
    Calls Tryz.prog 13 #[.agg #[.int .i64 n, .string X, .string Y, .string V, .string U], .agg #[.string Z1, .string Z2]] w fun e w' => e = .returned (bandV (o1 && (o2 && (o3 && (o4 && o5))) && (o6 && (o7 && o8))) a8 b8) ∧ Below w.heap.size w w' := by
  obtain ⟨hbW, g0, g1, g2⟩ := allocs3 w #[.int .i64 n, .string X, .string Y, .string V, .string U] #[.string Z1, .string Z2] #[.int .i64 0, .int .i64 0] 28 26 36
  have HM := Lib.hid hm
  have HZ := Lib.hid hz
  have HV := Lib.hid hv
  have HS := Lib.hid hs
  have HP := Lib.hid hp
  have HX := Lib.hid hx
  have HY := Lib.hid hy
  have HH := Lib.hid hh
  have H8 := Lib.hid h8
  clear hm hz hv hs hp hx hy hh h8
  have k0 := cells5 g0
  go_enter Tryz.func13, Tryz.ntmps13
  go_wp2_with fail
  clear k0
  generalize ((w.alloc (.cells #[.int .i64 n, .string X, .string Y, .string V, .string U] 28)).alloc (.cells #[.string Z1, .string Z2] 26)).alloc (.cells #[.int .i64 0, .int .i64 0] 36) = v0 at *
  refine (HM.out _).mono ?_
  rintro e w1 ⟨rfl, hb⟩
  have hst := below_trans' hb hb.size ((Below.refl w1.heap.size w1).alloc (Nat.le_refl _) (.cells #[.int .i64 a1, .int .i64 b1] 36))
  have t1 := heap_alloc_new w1 (.cells #[.int .i64 a1, .int .i64 b1] 36)
  replace g0 := blk_below hst g0
  replace g1 := blk_below hst g1
  replace g2 := blk_below hst g2
  replace hbW := below_trans' hbW hbW.size hst
  clear hst hb
  have k0 := cells5 g0
  go_wp2_with fail
  generalize w1.alloc (.cells #[.int .i64 a1, .int .i64 b1] 36) = v1 at *
  generalize w1.heap.size = N1 at *
  clear k0
  refine (HV.out _).mono ?_
  rintro e w2 ⟨rfl, hb⟩
  have hst := below_trans' hb hb.size ((Below.refl w2.heap.size w2).alloc (Nat.le_refl _) (.cells #[.int .i64 a3, .int .i64 b3] 36))
  have t2 := heap_alloc_new w2 (.cells #[.int .i64 a3, .int .i64 b3] 36)
  replace g1 := blk_below hst g1
  replace g2 := blk_below hst g2
  replace t1 := blk_below hst t1
  replace hbW := below_trans' hbW hbW.size hst
  clear hst hb
  have k1 := cells2 g1
  go_wp2_with fail
  generalize w2.alloc (.cells #[.int .i64 a3, .int .i64 b3] 36) = v2 at *
  generalize w2.heap.size = N2 at *
  clear k1
  refine (HZ.out _).mono ?_
  rintro e w3 ⟨rfl, hb⟩
  have hst := below_trans' hb hb.size ((Below.refl w3.heap.size w3).alloc (Nat.le_refl _) (.cells #[.int .i64 a2, .int .i64 b2] 36))
  have t3 := heap_alloc_new w3 (.cells #[.int .i64 a2, .int .i64 b2] 36)
  replace g2 := blk_below hst g2
  replace t1 := blk_below hst t1
  replace t2 := blk_below hst t2
  replace hbW := below_trans' hbW hbW.size hst
  clear hst hb
  have k2 := cells2i t2
  go_wp2_with fail
  generalize w3.alloc (.cells #[.int .i64 a2, .int .i64 b2] 36) = v3 at *
  generalize w3.heap.size = N3 at *
  clear k2
  refine (HS.out _).mono ?_
  rintro e w4 ⟨rfl, hb⟩
  have hst := below_trans' hb hb.size ((Below.refl w4.heap.size w4).alloc (Nat.le_refl _) (.cells #[.int .i64 a4, .int .i64 b4] 36))
  have t4 := heap_alloc_new w4 (.cells #[.int .i64 a4, .int .i64 b4] 36)
  replace g2 := blk_below hst g2
  replace t1 := blk_below hst t1
  replace t2 := blk_below hst t2
  replace t3 := blk_below hst t3
  replace hbW := below_trans' hbW hbW.size hst
  clear hst hb
  cases o1 with
  | false =>
    have fz := free_of_block g2
    obtain ⟨y0, y1⟩ := ret2i (A := 0) (B := 0) g2
    have hbe := below_sets2 hbW (show w.heap.size ≤ w.heap.size + 1 + 1 by omega) (.int .i64 0) (.int .i64 0)
    have kz := cells2i g2
    go_wp2_with fail
    exact bodyPost_ret (v := .tuple #[.agg #[.int .i64 0, .int .i64 0], .bool false]) (by simp [results, Tryz.results13, go_sem, y0, y1]) rfl ⟨by simp [bandV], hbe⟩
  | true =>
    cases o3 with
    | false =>
      have fz := free_of_block g2
      obtain ⟨y0, y1⟩ := ret2i (A := 0) (B := 0) g2
      have hbe := below_sets2 hbW (show w.heap.size ≤ w.heap.size + 1 + 1 by omega) (.int .i64 0) (.int .i64 0)
      have kz := cells2i g2
      go_wp2_with fail
      exact bodyPost_ret (v := .tuple #[.agg #[.int .i64 0, .int .i64 0], .bool false]) (by simp [results, Tryz.results13, go_sem, y0, y1]) rfl ⟨by simp [bandV], hbe⟩
    | true =>
      cases o2 with
      | false =>
        have fz := free_of_block g2
        obtain ⟨y0, y1⟩ := ret2i (A := 0) (B := 0) g2
        have hbe := below_sets2 hbW (show w.heap.size ≤ w.heap.size + 1 + 1 by omega) (.int .i64 0) (.int .i64 0)
        have kz := cells2i g2
        go_wp2_with fail
        exact bodyPost_ret (v := .tuple #[.agg #[.int .i64 0, .int .i64 0], .bool false]) (by simp [results, Tryz.results13, go_sem, y0, y1]) rfl ⟨by simp [bandV], hbe⟩
      | true =>
        cases o4 with
        | false =>
          have fz := free_of_block g2
          obtain ⟨y0, y1⟩ := ret2i (A := 0) (B := 0) g2
          have hbe := below_sets2 hbW (show w.heap.size ≤ w.heap.size + 1 + 1 by omega) (.int .i64 0) (.int .i64 0)
          have kz := cells2i g2
          go_wp2_with fail
          exact bodyPost_ret (v := .tuple #[.agg #[.int .i64 0, .int .i64 0], .bool false]) (by simp [results, Tryz.results13, go_sem, y0, y1]) rfl ⟨by simp [bandV], hbe⟩
        | true =>
          have k3 := cells2i t3
          have k4 := cells2i t4
          go_wp2_with fail
          generalize w4.alloc (.cells #[.int .i64 a4, .int .i64 b4] 36) = v4 at *
          generalize w4.heap.size = N4 at *
          clear k3 k4
          refine (HP.out _).mono ?_
          rintro e w5 ⟨rfl, hb⟩
          have hst := below_trans' hb hb.size ((Below.refl w5.heap.size w5).alloc (Nat.le_refl _) (.cells #[.int .i64 a5, .int .i64 b5] 36))
          have t5 := heap_alloc_new w5 (.cells #[.int .i64 a5, .int .i64 b5] 36)
          replace g2 := blk_below hst g2
          replace t1 := blk_below hst t1
          replace hbW := below_trans' hbW hbW.size hst
          clear hst hb
          cases o5 with
          | false =>
            have fz := free_of_block g2
            obtain ⟨y0, y1⟩ := ret2i (A := 0) (B := 0) g2
            have hbe := below_sets2 hbW (show w.heap.size ≤ w.heap.size + 1 + 1 by omega) (.int .i64 0) (.int .i64 0)
            have kz := cells2i g2
            go_wp2_with fail
            exact bodyPost_ret (v := .tuple #[.agg #[.int .i64 0, .int .i64 0], .bool false]) (by simp [results, Tryz.results13, go_sem, y0, y1]) rfl ⟨by simp [bandV], hbe⟩
          | true =>
            have k1 := cells2i t1
            have k5 := cells2i t5
            go_wp2_with fail
            generalize w5.alloc (.cells #[.int .i64 a5, .int .i64 b5] 36) = v5 at *
            generalize w5.heap.size = N5 at *
            clear k1 k5
            refine (HX.out _).mono ?_
            rintro e w6 ⟨rfl, hb⟩
            have hst := below_trans' hb hb.size ((Below.refl w6.heap.size w6).alloc (Nat.le_refl _) (.cells #[.int .i64 a6, .int .i64 b6] 36))
            have t6 := heap_alloc_new w6 (.cells #[.int .i64 a6, .int .i64 b6] 36)
            replace g2 := blk_below hst g2
            replace t1 := blk_below hst t1
            replace t5 := blk_below hst t5
            replace hbW := below_trans' hbW hbW.size hst
            clear hst hb
            have k1 := cells2i t1
            have k5 := cells2i t5
            go_wp2_with fail
            generalize w6.alloc (.cells #[.int .i64 a6, .int .i64 b6] 36) = v6 at *
            generalize w6.heap.size = N6 at *
            clear k1 k5
            refine (HY.out _).mono ?_
            rintro e w7 ⟨rfl, hb⟩
            have hst := below_trans' hb hb.size ((Below.refl w7.heap.size w7).alloc (Nat.le_refl _) (.cells #[.int .i64 a7, .int .i64 b7] 36))
            have t7 := heap_alloc_new w7 (.cells #[.int .i64 a7, .int .i64 b7] 36)
            replace g2 := blk_below hst g2
            replace t6 := blk_below hst t6
            replace hbW := below_trans' hbW hbW.size hst
            clear hst hb
            cases o6 with
            | false =>
              have fz := free_of_block g2
              obtain ⟨y0, y1⟩ := ret2i (A := 0) (B := 0) g2
              have hbe := below_sets2 hbW (show w.heap.size ≤ w.heap.size + 1 + 1 by omega) (.int .i64 0) (.int .i64 0)
              have kz := cells2i g2
              go_wp2_with fail
              exact bodyPost_ret (v := .tuple #[.agg #[.int .i64 0, .int .i64 0], .bool false]) (by simp [results, Tryz.results13, go_sem, y0, y1]) rfl ⟨by simp [bandV], hbe⟩
            | true =>
              cases o7 with
              | false =>
                have fz := free_of_block g2
                obtain ⟨y0, y1⟩ := ret2i (A := 0) (B := 0) g2
                have hbe := below_sets2 hbW (show w.heap.size ≤ w.heap.size + 1 + 1 by omega) (.int .i64 0) (.int .i64 0)
                have kz := cells2i g2
                go_wp2_with fail
                exact bodyPost_ret (v := .tuple #[.agg #[.int .i64 0, .int .i64 0], .bool false]) (by simp [results, Tryz.results13, go_sem, y0, y1]) rfl ⟨by simp [bandV], hbe⟩
              | true =>
                have k6 := cells2i t6
                have k7 := cells2i t7
                go_wp2_with fail
                generalize w7.alloc (.cells #[.int .i64 a7, .int .i64 b7] 36) = v7 at *
                generalize w7.heap.size = N7 at *
                clear k6 k7
                refine (HH.out _).mono ?_
                rintro e w8 ⟨rfl, hb⟩
                replace g2 := blk_below hb g2
                replace hbW := below_trans' hbW hbW.size hb
                have fz := free_of_block g2
                have kz := cells2i g2
                obtain ⟨y0, y1⟩ := ret2i (A := a8) (B := b8) g2
                have hbe := below_sets2 hbW (show w.heap.size ≤ w.heap.size + 1 + 1 by omega) (.int .i64 a8) (.int .i64 b8)
                go_wp2_with fail
                exact bodyPost_ret (v := .tuple #[.agg #[.int .i64 a8, .int .i64 b8], .bool o8]) (by simp [results, Tryz.results13, go_sem, y0, y1]) rfl ⟨by cases o8 with
                    | true => rfl
                    | false => obtain ⟨rfl, rfl⟩ := H8.out rfl; rfl, hbe⟩

/-- What Band computes. -/
noncomputable def bandI (m v z : Txt) : IR := match ofI m, ofI z, ofI v with
  | some m, some z, some v => match sqrtI v.1 v.2 with
    | some s => match mulI z.1 z.2 s.1 s.2 with
      | some p => match subI m.1 m.2 p.1 p.2, addI m.1 m.2 p.1 p.2 with
        | some x, some y => hullI x.1 x.2 y.1 y.2
        | _, _ => none
      | none => none
    | none => none
  | _, _, _ => none
theorem band_two (n : Int) (X Y V U Z1 Z2 : ByteArray) (sX : X.size ≤ maxLen) (sY : Y.size ≤ maxLen) (sV : V.size ≤ maxLen) (sU : U.size ≤ maxLen) (sZ1 : Z1.size ≤ maxLen) (sZ2 : Z2.size ≤ maxLen) :
    ∃ lo hi ok, (ok = true → bandI (X.data.toList, Y.data.toList) (V.data.toList, U.data.toList) (Z1.data.toList, Z2.data.toList) = some (lo, hi)) ∧ ∀ w, Two 12 13 #[estV n X Y V U, .agg #[.string Z1, .string Z2]] (.tuple #[.agg #[.int .i64 lo, .int .i64 hi], .bool ok]) w := by
  obtain ⟨a1, b1, o1, e1, p1, q1⟩ := resV_any (ofI (X.data.toList, Y.data.toList))
  obtain ⟨a2, b2, o2, e2, p2, q2⟩ := resV_any (ofI (Z1.data.toList, Z2.data.toList))
  obtain ⟨a3, b3, o3, e3, p3, q3⟩ := resV_any (ofI (V.data.toList, U.data.toList))
  obtain ⟨a4, b4, o4, e4, p4, q4⟩ := resV_any (sqrtI a3 b3)
  obtain ⟨a5, b5, o5, e5, p5, q5⟩ := resV_any (mulI a2 b2 a4 b4)
  obtain ⟨a6, b6, o6, e6, p6, q6⟩ := resV_any (subI a1 b1 a5 b5)
  obtain ⟨a7, b7, o7, e7, p7, q7⟩ := resV_any (addI a1 b1 a5 b5)
  obtain ⟨a8, b8, o8, e8, p8, q8⟩ := resV_any (hullI a6 b6 a7 b7)
  have hP : ∀ w, Calls Tryz.prog 12 #[estV n X Y V U, .agg #[.string Z1, .string Z2]] w fun e w' => e = .returned (bandV (o1 && (o2 && (o3 && (o4 && o5))) && (o6 && (o7 && o8))) a8 b8) ∧ Below w.heap.size w w' := fun w =>
    band12 n X Y V U Z1 Z2 a1 b1 a2 b2 a3 b3 a4 b4 a5 b5 a6 b6 a7 b7 a8 b8 o1 o2 o3 o4 o5 o6 o7 o8 w (fun w => by rw [← e1]; exact of49 X Y w sX sY) (fun w => by rw [← e2]; exact of49 Z1 Z2 w sZ1 sZ2) (fun w => by rw [← e3]; exact of49 V U w sV sU)
      (fun w => by rw [← e4]; exact sqrt12 a3 b3 w) (fun w => by rw [← e5]; exact mul56 a2 b2 a4 b4 w) (fun w => by rw [← e6]; exact sub18 a1 b1 a5 b5 w) (fun w => by rw [← e7]; exact add17 a1 b1 a5 b5 w) (fun w => by rw [← e8]; exact hull10 a6 b6 a7 b7 w)
  have hR : ∀ w, Calls Tryz.prog 13 #[estV n X Y V U, .agg #[.string Z1, .string Z2]] w fun e w' => e = .returned (bandV (o1 && (o2 && (o3 && (o4 && o5))) && (o6 && (o7 && o8))) a8 b8) ∧ Below w.heap.size w w' := fun w =>
    band13 n X Y V U Z1 Z2 a1 b1 a2 b2 a3 b3 a4 b4 a5 b5 a6 b6 a7 b7 a8 b8 o1 o2 o3 o4 o5 o6 o7 o8 w (fun w => by rw [← e1]; exact of50 X Y w sX sY) (fun w => by rw [← e2]; exact of50 Z1 Z2 w sZ1 sZ2) (fun w => by rw [← e3]; exact of50 V U w sV sU)
      (fun w => by rw [← e4]; exact sqrt31 a3 b3 w) (fun w => by rw [← e5]; exact mul27 a2 b2 a4 b4 w) (fun w => by rw [← e6]; exact sub26 a1 b1 a5 b5 w) (fun w => by rw [← e7]; exact add25 a1 b1 a5 b5 w) (fun w => by rw [← e8]; exact hull30 a6 b6 a7 b7 w) (fun h => (q8 h).2)
  obtain ⟨t, ht⟩ : ∃ t, (o1 && (o2 && (o3 && (o4 && o5))) && (o6 && (o7 && o8))) = t := ⟨_, rfl⟩
  rw [ht] at hP hR
  cases t with
  | false => exact ⟨0, 0, false, fun h => (by cases h), fun w => ⟨hP w, hR w⟩⟩
  | true =>
    refine ⟨a8, b8, true, fun _ => ?_, fun w => ⟨hP w, hR w⟩⟩
    simp only [Bool.and_eq_true] at ht
    obtain ⟨⟨h1, h2, h3, h4, h5⟩, h6, h7, h8⟩ := ht
    unfold bandI
    rw [p1 h1, p2 h2, p3 h3]
    simp only [p4 h4, p5 h5, p6 h6, p7 h7, p8 h8]
theorem mkI_some {a b p q : Int} (h : mkI a b = some (p, q)) : p = a ∧ q = b := by
  unfold mkI at h
  by_cases h1 : inI a b = true
  · rw [if_pos h1] at h
    have e := Option.some.inj h
    exact ⟨(congrArg Prod.fst e).symm, (congrArg Prod.snd e).symm⟩
  · rw [if_neg h1] at h
    cases h
theorem subI_some {a b c d p q : Int} (h : subI a b c d = some (p, q)) : c ≤ d ∧ p = a - d ∧ q = b - c := by
  unfold subI at h
  by_cases h1 : inI a b = true ∧ inI c d = true
  · rw [if_pos h1] at h
    exact ⟨(inI_iff.1 h1.2).2.1, mkI_some h⟩
  · rw [if_neg h1] at h
    cases h
theorem addI_some {a b c d p q : Int} (h : addI a b c d = some (p, q)) : p = a + c ∧ q = b + d := by
  unfold addI at h
  by_cases h1 : inI a b = true ∧ inI c d = true
  · rw [if_pos h1] at h
    exact mkI_some h
  · rw [if_neg h1] at h
    cases h
theorem hullI_some {a b c d p q : Int} (h : hullI a b c d = some (p, q)) : p = min a c ∧ q = max b d := by
  unfold hullI at h
  by_cases h1 : inI a b = true ∧ inI c d = true
  · rw [if_pos h1] at h
    have e := Option.some.inj h
    exact ⟨(congrArg Prod.fst e).symm, (congrArg Prod.snd e).symm⟩
  · rw [if_neg h1] at h
    cases h
/-- Band contains the mean. -/
theorem band_mean {m v z : Txt} {lo hi : Int} (h : bandI m v z = some (lo, hi)) : ∃ a b, ofI m = some (a, b) ∧ lo ≤ a ∧ b ≤ hi := by
  unfold bandI at h
  split at h
  · rename_i m' z' v' hm hz hv
    refine ⟨m'.1, m'.2, hm, ?_⟩
    split at h
    · rename_i s hs
      split at h
      · rename_i p hp
        split at h
        · rename_i x y hx hy
          have f1 := subI_some hx
          have f2 := addI_some hy
          have f3 := hullI_some h
          omega
        · cases h
      · cases h
    · cases h
  · cases h
end Go.Proofs.YtpligjkbnlfhgaaGreatDoor
