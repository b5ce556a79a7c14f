/- The samples of an arm: the program's and the reference's; equal lists. No statement is proved here. -/
import Derived.Test.YtpligjkbnlfhgaaDoorDat
namespace Go.Proofs.YtpligjkbnlfhgaaDoor
open Go.RowKit

/-- What is measured of the samples of an arm. -/
def selR (f : Nat → Smp) (arm : Int) (p : Smp → Int) : Nat → List Int
  | 0 => []
  | k + 1 => if (f k).arm = arm then selR f arm p k ++ [p (f k)] else selR f arm p k
def cntR (f : Nat → Smp) (arm : Int) : Nat → Nat
  | 0 => 0
  | k + 1 => if (f k).arm = arm then cntR f arm k + 1 else cntR f arm k
theorem selR_len (f : Nat → Smp) (arm : Int) (p : Smp → Int) : ∀ n, (selR f arm p n).length = cntR f arm n
  | 0 => rfl
  | n + 1 => by
    unfold selR cntR
    split
    · rw [List.length_append, selR_len f arm p n]; rfl
    · exact selR_len f arm p n
theorem cnt_le (f : Nat → Smp) (arm : Int) : ∀ n, cntR f arm n ≤ n
  | 0 => Nat.le_refl _
  | n + 1 => by have := cnt_le f arm n; unfold cntR; split <;> omega
theorem cnt_none {f : Nat → Smp} {arm : Int} : ∀ {n : Nat}, (∀ i, i < n → (f i).arm ≠ arm) → cntR f arm n = 0
  | 0, _ => rfl
  | n + 1, h => by unfold cntR; rw [if_neg (h n (by omega)), cnt_none fun i hi => h i (by omega)]
theorem cnt_two {f : Nat → Smp} : ∀ {n : Nat}, (∀ i, i < n → (f i).arm = 1 ∨ (f i).arm = 2) → cntR f 1 n + cntR f 2 n = n
  | 0, _ => rfl
  | n + 1, h => by
    have h1 := cnt_two (n := n) fun i hi => h i (by omega)
    unfold cntR
    rcases h n (by omega) with e | e <;> rw [e] <;> simp <;> omega

theorem selR_yes {f : Nat → Smp} {arm : Int} {p : Smp → Int} {k : Nat} {x : Int} (h : (f k).arm = arm) (hx : p (f k) = x) : selR f arm p (k + 1) = selR f arm p k ++ [x] := by rw [selR, if_pos h, hx]
theorem selR_no {f : Nat → Smp} {arm : Int} {p : Smp → Int} {k : Nat} (h : ¬ (f k).arm = arm) : selR f arm p (k + 1) = selR f arm p k := by rw [selR, if_neg h]
theorem apartV.sym {v u : Value} (h : apartV v u) : apartV u v := fun g h1 h2 => h g h2 h1

set_option maxRecDepth 100000 in
set_option maxHeartbeats 4000000 in
theorem same41 (A B : Option Addr) (n ca cb : Nat) (f : Nat → Int) (w : World) (hl : IntsV w A n ca f) (hm : IntsV w B n cb f) (hn : n ≤ 1000) :
    Calls Tryd.prog 41 #[.slice A n ca, .slice B n cb] w fun e w' => e = .returned (.bool true) ∧ Below w.heap.size w w' := by
  go_enter Tryd.func41, Tryd.ntmps41
  go_wp2_with fail
  go_loopg [5] (n + 1) (fun r i wr => ∃ k : Nat, k ≤ n ∧ r = n + 1 - k ∧ i = .int .i64 k ∧ Below w.heap.size w wr)
  case atStart => exact ⟨0, by omega, rfl, rfl, Below.refl _ _⟩
  case round =>
    obtain ⟨k, hk, hr, rfl, hb⟩ := hrel
    have HR := Lib.hid hr
    clear hr
    by_cases hkn : k < n
    · have hkI : (k : Int) < n := by omega
      obtain ⟨b1, o1, rfl, hb1, hc1⟩ := hl.rd (by omega)
      obtain ⟨b2, o2, rfl, hb2, hc2⟩ := hm.rd (by omega)
      have x1 := (hb.cell (p := ⟨b1, o1 + k, none⟩) hb1).trans (hc1 k hkn)
      have x2 := (hb.cell (p := ⟨b2, o2 + k, none⟩) hb2).trans (hc2 k hkn)
      clear hc1 hc2 hl hm
      go_wp2_with fail
      go_quiet (fail)
      go_wp2_with fail
      go_roundg (n + 1 - (k + 1))
      case measure => have := HR.out; omega
      case rel => exact ⟨k + 1, by omega, rfl, by go_num, below_drewN hb _⟩
    · have hkn' : k = n := by omega
      have hkI : ¬ (k : Int) < n := by omega
      clear hkn'
      go_wp2_with fail
      go_ret
      exact ⟨rfl, hb⟩

set_option maxRecDepth 100000 in
set_option maxHeartbeats 8000000 in
theorem arm39 (A : Option Addr) (n c : Nat) (f : Nat → Smp) (arm : Int) (w : World) (hn : n ≤ 1000) (hr : RowsAt w w.heap.size 10 A n (fun i => (f i).cells)) :
    Calls Tryd.prog 39 #[.slice A n c, .int .i64 arm] w fun e w' => ∃ A1 c1 A2 c2 A3 c3, e = .returned (.tuple #[.slice A1 (cntR f arm n) c1, .slice A2 (cntR f arm n) c2, .slice A3 (cntR f arm n) c3]) ∧ Own intC 3 1 w' w.heap.size (.slice A1 (cntR f arm n) c1) (selR f arm Smp.value n) ∧ Own intC 3 1 w' w.heap.size (.slice A2 (cntR f arm n) c2) (selR f arm Smp.below n) ∧ Own intC 3 1 w' w.heap.size (.slice A3 (cntR f arm n) c3) (selR f arm Smp.before n) ∧ Below w.heap.size w w' := by
  have HR := Lib.hid hr
  clear hr
  go_enter Tryd.func39, Tryd.ntmps39
  go_wp2_with fail
  go_loopg [4, 5, 6, 8, 11] (n + 1) (fun r p q s _ i wr => ∃ (k m c1 c2 c3 : Nat) (A1 A2 A3 : Option Addr) (l1 l2 l3 : List Int), k ≤ n ∧ r = n + 1 - k ∧ i = .int .i64 k ∧ p = .slice A1 m c1 ∧ q = .slice A2 m c2 ∧ s = .slice A3 m c3 ∧ Hid (m = cntR f arm k ∧ l1 = selR f arm Smp.value k ∧ l2 = selR f arm Smp.below k ∧ l3 = selR f arm Smp.before k) ∧ Own intC 3 1 wr w.heap.size (.slice A1 m c1) l1 ∧ Own intC 3 1 wr w.heap.size (.slice A2 m c2) l2 ∧ Own intC 3 1 wr w.heap.size (.slice A3 m c3) l3 ∧ Hid (apartV (.slice A1 m c1) (.slice A2 m c2) ∧ apartV (.slice A1 m c1) (.slice A3 m c3) ∧ apartV (.slice A2 m c2) (.slice A3 m c3)) ∧ Below w.heap.size w wr)
  case atStart => exact ⟨0, 0, 0, 0, 0, none, none, none, [], [], [], by omega, rfl, rfl, rfl, rfl, rfl, Lib.hid ⟨rfl, rfl, rfl, rfl⟩, Own.nil _ _ _ _ _, Own.nil _ _ _ _ _, Own.nil _ _ _ _ _, Lib.hid ⟨(fun _ h => by cases h), (fun _ h => by cases h), (fun _ h => by cases h)⟩, Below.refl _ _⟩
  case round =>
  obtain ⟨k, m, c1, c2, c3, A1, A2, A3, l1, l2, l3, hk, hr, rfl, rfl, rfl, rfl, hgood, ho1, ho2, ho3, hap, hbr⟩ := hrel
  have HM := Lib.hid hr
  clear hr
  have hmn : m ≤ 1000 := by have := cnt_le f arm k; rw [← hgood.out.1] at this; omega
  have HL1 : Hid (l1.length = m) := Lib.hid (by rw [hgood.out.2.1, selR_len, ← hgood.out.1])
  have HL2 : Hid (l2.length = m) := Lib.hid (by rw [hgood.out.2.2.1, selR_len, ← hgood.out.1])
  have HL3 : Hid (l3.length = m) := Lib.hid (by rw [hgood.out.2.2.2, selR_len, ← hgood.out.1])
  by_cases hlt : k < n
  · have hltI : (k : Int) < n := by omega
    obtain ⟨b, off, rfl, hb0, hcc⟩ := HR.out (by omega)
    obtain ⟨s, hs⟩ : ∃ s, f k = s := ⟨_, rfl⟩
    have HS := Lib.hid hs
    have hcell : ∀ j u, s.cells[j]? = some u → wr.cell? ⟨b, off + k * 10 + j, none⟩ = some u := fun j u hu => (hbr.cell (p := ⟨b, off + k * 10 + j, none⟩) hb0).trans (hcc k hlt j u (by show (f k).cells[j]? = some u; rw [hs]; exact hu))
    have hall : ∀ w', Below w.heap.size w w' → ∀ j u, s.cells[j]? = some u → w'.cell? ⟨b, off + k * 10 + j, none⟩ = some u := fun w' hb j u hu => (hb.cell (p := ⟨b, off + k * 10 + j, none⟩) hb0).trans (hcc k hlt j u (by show (f k).cells[j]? = some u; rw [hs]; exact hu))
    have HALL := Lib.hid hall
    obtain ⟨s0, s1, s2, s3, sa, s5, x, y, z, s9⟩ := s
    have q0 := hcell 0 _ rfl
    have q1 := hcell 1 _ rfl
    have q2 := hcell 2 _ rfl
    have q3 := hcell 3 _ rfl
    have q4 := hcell 4 _ rfl
    have q5 := hcell 5 _ rfl
    have q6 := hcell 6 _ rfl
    have q7 := hcell 7 _ rfl
    have q8 := hcell 8 _ rfl
    have q9 := hcell 9 _ rfl
    simp only [Nat.add_zero] at q0
    have hX := heap_alloc_new wr (.cells #[.string s0, .string s1, .int .i64 s2, .int .i64 s3, .int .i64 sa, .int .i64 s5, .int .i64 x, .int .i64 y, .int .i64 z, .bool s9] 125)
    have hA := (Below.refl wr.heap.size wr).alloc (Nat.le_refl _) (.cells #[.string s0, .string s1, .int .i64 s2, .int .i64 s3, .int .i64 sa, .int .i64 s5, .int .i64 x, .int .i64 y, .int .i64 z, .bool s9] 125)
    have hl1 : ∀ g, (Value.slice A1 m c1).ownBlock = some g → g < wr.heap.size := fun g h => (Own.lt ho1 h).1
    have hl2 : ∀ g, (Value.slice A2 m c2).ownBlock = some g → g < wr.heap.size := fun g h => (Own.lt ho2 h).1
    have hl3 : ∀ g, (Value.slice A3 m c3).ownBlock = some g → g < wr.heap.size := fun g h => (Own.lt ho3 h).1
    replace ho1 := Own.below ho1 hA
    replace ho2 := Own.below ho2 hA
    replace ho3 := Own.below ho3 hA
    replace hbr := below_trans' hbr hbr.size hA
    clear hcell hall hcc hs hA
    go_upto_region 4 with fail
    clear q0 q1 q2 q3 q4 q5 q6 q7 q8 q9
    generalize wr.alloc (.cells #[.string s0, .string s1, .int .i64 s2, .int .i64 s3, .int .i64 sa, .int .i64 s5, .int .i64 x, .int .i64 y, .int .i64 z, .bool s9] 125) = V at *
    generalize wr.heap.size = X at *
    have p4 := cell_of_block hX 4
    simp only [List.getElem?_toArray, List.getElem?_cons_zero, List.getElem?_cons_succ] at p4
    have HXB := Lib.hid hX
    by_cases ha : sa = arm
    · subst ha
      have HE : Hid (cntR f sa (k + 1) = m + 1 ∧ selR f sa Smp.value (k + 1) = l1 ++ [x] ∧ selR f sa Smp.below (k + 1) = l2 ++ [y] ∧ selR f sa Smp.before (k + 1) = l3 ++ [z]) := Lib.hid (by
        have hs := HS.out
        have hA : (f k).arm = sa := by rw [hs]
        refine ⟨by rw [cntR, if_pos hA, ← hgood.out.1], ?_, ?_, ?_⟩
        · rw [selR_yes hA (x := x) (by rw [hs]), ← hgood.out.2.1]
        · rw [selR_yes hA (x := y) (by rw [hs]), ← hgood.out.2.2.1]
        · rw [selR_yes hA (x := z) (by rw [hs]), ← hgood.out.2.2.2])
      have hrows : Rows0 V.drew w.heap.size [(.slice A1 m c1, l1, x), (.slice A2 m c2, l2, y), (.slice A3 m c3, l3, z)] := ⟨fun r hr => by
          simp only [List.mem_cons, List.not_mem_nil, or_false] at hr
          rcases hr with rfl | rfl | rfl
          · exact Own.below ho1 ((Below.refl _ _).drew)
          · exact Own.below ho2 ((Below.refl _ _).drew)
          · exact Own.below ho3 ((Below.refl _ _).drew), fun r hr s hs => by
          simp only [List.mem_cons, List.not_mem_nil, or_false] at hr hs
          rcases hr with rfl | rfl | rfl <;> rcases hs with rfl | rfl | rfl
          · exact .inl rfl
          · exact .inr hap.out.1
          · exact .inr hap.out.2.1
          · exact .inr hap.out.1.sym
          · exact .inl rfl
          · exact .inr hap.out.2.2
          · exact .inr hap.out.2.1.sym
          · exact .inr hap.out.2.2.sym
          · exact .inl rfl, hbr.size⟩
      have hm1' := PA_mono hrows (r := (.slice A1 m c1, l1, x)) (by simp)
      have hr1' := PA_run hrows (r := (.slice A1 m c1, l1, x)) (by simp) (by have := HL1.out; simp only; omega)
      have hm2' := PA_mono hrows (r := (.slice A2 m c2, l2, y)) (by simp)
      have hr2' := PA_run hrows (r := (.slice A2 m c2, l2, y)) (by simp) (by have := HL2.out; simp only; omega)
      have hm3' := PA_mono hrows (r := (.slice A3 m c3, l3, z)) (by simp)
      have hr3' := PA_run hrows (r := (.slice A3 m c3, l3, z)) (by simp) (by have := HL3.out; simp only; omega)
      have htr := hrows.trans
      have hlt' := hrows.lt
      have hge' := hrows.ge
      have hS : ∀ z : Beh (RW (wsOf [(.slice A1 m c1, l1, x), (.slice A2 m c2, l2, y), (.slice A3 m c3, l3, z)])) V.drew, V.drew.heap.size ≤ z.w.heap.size := fun z => z.h.size
      have hzb : ∀ z : Beh (RW (wsOf [(.slice A1 m c1, l1, x), (.slice A2 m c2, l2, y), (.slice A3 m c3, l3, z)])) V.drew, Below w.heap.size w z.w := fun z => hbr.drew.trans (z.h.below hbr.size hge')
      have hXz : ∀ z' : Beh (RW (wsOf [(.slice A1 m c1, l1, x), (.slice A2 m c2, l2, y), (.slice A3 m c3, l3, z)])) V.drew, z'.w.heap[X]? = some (.cells #[.string s0, .string s1, .int .i64 s2, .int .i64 s3, .int .i64 sa, .int .i64 s5, .int .i64 x, .int .i64 y, .int .i64 z, .bool s9] 125 (0, 0)) := fun z' => by
        have hd : V.drew.heap[X]? = some (.cells #[.string s0, .string s1, .int .i64 s2, .int .i64 s3, .int .i64 sa, .int .i64 s5, .int .i64 x, .int .i64 y, .int .i64 z, .bool s9] 125 (0, 0)) := HXB.out
        rw [z'.h.same (lt_of_blk hd) fun o cs hm => ?_]
        · exact hd
        · obtain ⟨r, hr, h1, -, -⟩ := mem_wsOf hm
          simp only [List.mem_cons, List.not_mem_nil, or_false] at hr
          rcases hr with rfl | rfl | rfl
          · exact Nat.lt_irrefl _ (hl1 _ h1)
          · exact Nat.lt_irrefl _ (hl2 _ h1)
          · exact Nat.lt_irrefl _ (hl3 _ h1)
      have x4 : ∀ z' : Beh (RW (wsOf [(.slice A1 m c1, l1, x), (.slice A2 m c2, l2, y), (.slice A3 m c3, l3, z)])) V.drew, z'.w.cell? ⟨X, 6, none⟩ = some (.int .i64 x) := fun z' => cell_of_block (hXz z') 6
      have x5 : ∀ z' : Beh (RW (wsOf [(.slice A1 m c1, l1, x), (.slice A2 m c2, l2, y), (.slice A3 m c3, l3, z)])) V.drew, z'.w.cell? ⟨X, 7, none⟩ = some (.int .i64 y) := fun z' => cell_of_block (hXz z') 7
      have x6 : ∀ z' : Beh (RW (wsOf [(.slice A1 m c1, l1, x), (.slice A2 m c2, l2, y), (.slice A3 m c3, l3, z)])) V.drew, z'.w.cell? ⟨X, 8, none⟩ = some (.int .i64 z) := fun z' => cell_of_block (hXz z') 8
      clear hXz
      generalize hSe : V.drew.heap.size = S at *
      clear hSe ho1 ho2 ho3
      go_wp2_with fail
      refine wp_region_pair (R := RW (wsOf [(.slice A1 m c1, l1, x), (.slice A2 m c2, l2, y), (.slice A3 m c3, l3, z)])) (fun v u => v.ownBlock ≠ u.ownBlock) 15 39 [] [(3, [], some (freshS S #[.int .i64 x] 3 1), []), (4, [23], some (PA w.heap.size S (.slice A1 m c1, l1, x)), [PA w.heap.size S (.slice A2 m c2, l2, y), PA w.heap.size S (.slice A3 m c3, l3, z)]), (8, [], some (freshS S #[.int .i64 y] 3 1), []), (9, [28], some (PA w.heap.size S (.slice A2 m c2, l2, y)), [PA w.heap.size S (.slice A1 m c1, l1, x), PA w.heap.size S (.slice A3 m c3, l3, z)]), (13, [], some (freshS S #[.int .i64 z] 3 1), []), (14, [33], some (PA w.heap.size S (.slice A3 m c3, l3, z)), [PA w.heap.size S (.slice A1 m c1, l1, x), PA w.heap.size S (.slice A2 m c2, l2, y)])] [4, 9, 14] [24, 29, 34]
        (by kernel_rfl) (by kernel_rfl) (by kernel_rfl) (by kernel_rfl) (fun h => absurd rfl h) rfl (RW.refl _) htr (fun _ _ h => Ne.symm h) ⟨by kernel_rfl, by decide, by decide⟩ (sib3 (.tail _ (.head _)) (.tail _ (.tail _ (.tail _ (.head _)))) (.tail _ (.tail _ (.tail _ (.tail _ (.tail _ (.head _))))))) ?_
      simp only [LateP, List.take_succ_cons, List.drop_succ_cons, List.take_zero, List.drop_zero, Nat.reduceSub, Nat.reduceAdd, Nat.sub_zero]
      repeat (go_big_quiet_step (rfl))
      refine wpQuiet_nil ?_
      refine late_buildR (fun w => by kernel_rfl) (fun z => RW.of_le ((Below.refl _ _).alloc (Nat.le_refl _) _)) (freshS_rw hlt') hS (by simp only [Act.put, List.setIfInBounds_toArray, List.set_cons_succ, List.set_cons_zero]; rfl) ?_
      refine wpQuiet_nil ?_
      refine pair_app [] (by simp) hm1' (fun _ => rfl) (fun z u hu => ?_) (by simp only [Act.put, List.setIfInBounds_toArray, List.set_cons_succ, List.set_cons_zero]; rfl) ?_
      · obtain ⟨v', w', e1, e2, e3, e4⟩ := hr1' z u hu
        exact ⟨v', w', e1, e2, e3, fun ψ hψ => by
          simp only [List.mem_cons, List.not_mem_nil, or_false] at hψ
          rcases hψ with rfl | rfl
          · exact e4 _ (by simp) hap.out.1
          · exact e4 _ (by simp) hap.out.2.1⟩
      repeat (go_big_quiet_step (rfl))
      refine wpQuiet_nil ?_
      refine late_buildR (fun w => by kernel_rfl) (fun z => RW.of_le ((Below.refl _ _).alloc (Nat.le_refl _) _)) (freshS_rw hlt') hS (by simp only [Act.put, List.setIfInBounds_toArray, List.set_cons_succ, List.set_cons_zero]; rfl) ?_
      refine wpQuiet_nil ?_
      refine pair_app [_, _] (by simp) hm2' (fun _ => rfl) (fun z u hu => ?_) (by simp only [Act.put, List.setIfInBounds_toArray, List.set_cons_succ, List.set_cons_zero]; rfl) ?_
      · obtain ⟨v', w', e1, e2, e3, e4⟩ := hr2' z u hu
        exact ⟨v', w', e1, e2, e3, fun ψ hψ => by
          simp only [List.mem_cons, List.not_mem_nil, or_false] at hψ
          rcases hψ with rfl | rfl
          · exact e4 _ (by simp) hap.out.1.sym
          · exact e4 _ (by simp) hap.out.2.2⟩
      repeat (go_big_quiet_step (rfl))
      refine wpQuiet_nil ?_
      refine late_buildR (fun w => by kernel_rfl) (fun z => RW.of_le ((Below.refl _ _).alloc (Nat.le_refl _) _)) (freshS_rw hlt') hS (by simp only [Act.put, List.setIfInBounds_toArray, List.set_cons_succ, List.set_cons_zero]; rfl) ?_
      refine wpQuiet_nil ?_
      refine pair_app [_, _, _, _] (by simp) hm3' (fun _ => rfl) (fun z u hu => ?_) (by simp only [Act.put, List.setIfInBounds_toArray, List.set_cons_succ, List.set_cons_zero]; rfl) ?_
      · obtain ⟨v', w', e1, e2, e3, e4⟩ := hr3' z u hu
        exact ⟨v', w', e1, e2, e3, fun ψ hψ => by
          simp only [List.mem_cons, List.not_mem_nil, or_false] at hψ
          rcases hψ with rfl | rfl
          · exact e4 _ (by simp) hap.out.2.1.sym
          · exact e4 _ (by simp) hap.out.2.2.sym⟩
      refine wpQuiet_nil ?_
      intro zz
      simp only [List.nil_append, List.cons_append, allGens, Option.getD_some]
      rintro vb1 _ va1 p1 vb2 _ va2 p2 vb3 _ va3 p3 hdist
      simp only [Act.put, List.setIfInBounds_toArray, List.set_cons_succ, List.set_cons_zero]
      simp only [Act.put, List.setIfInBounds_toArray, List.set_cons_succ, List.set_cons_zero, List.pairwise_cons, List.mem_cons, List.not_mem_nil, or_false, forall_eq_or_imp, forall_eq, List.Pairwise.nil, and_true, false_implies, implies_true] at hdist
      have hd12 : va1.ownBlock ≠ va2.ownBlock := hdist.1.1
      have hd13 : va1.ownBlock ≠ va3.ownBlock := hdist.1.2
      have hd23 : va2.ownBlock ≠ va3.ownBlock := hdist.2
      have hbz := hzb zz
      obtain ⟨o1, -, -⟩ := p1
      obtain ⟨o2, -, -⟩ := p2
      obtain ⟨o3, -, -⟩ := p3
      clear hdist x4 x5 x6 hzb hS hr1' hr2' hr3' hm1' hm2' hm3' htr hlt' hge' hbr hrows p4
      generalize zz.w = w4 at *
      have e1 : (l1 ++ [x]).length = m + 1 := by simp [HL1.out]
      have e2 : (l2 ++ [y]).length = m + 1 := by simp [HL2.out]
      have e3 : (l3 ++ [z]).length = m + 1 := by simp [HL3.out]
      obtain ⟨B1, d1, rfl, -⟩ := Own.shape o1
      obtain ⟨B2, d2, rfl, -⟩ := Own.shape o2
      obtain ⟨B3, d3, rfl, -⟩ := Own.shape o3
      rw [e1] at o1 hd12 hd13 ⊢
      rw [e2] at o2 hd12 hd23 ⊢
      rw [e3] at o3 hd13 hd23 ⊢
      have HD := Lib.hid (⟨hd12, hd13, hd23⟩ : _ ∧ _ ∧ _)
      clear e1 e2 e3 hd12 hd13 hd23 hap
      go_wp2_with fail
      go_roundg (n + 1 - (k + 1))
      case measure => have := HM.out; omega
      case rel => exact ⟨k + 1, m + 1, d1, d2, d3, B1, B2, B3, _, _, _, by omega, rfl, by go_num, rfl, rfl, rfl, Lib.hid ⟨HE.out.1.symm, HE.out.2.1.symm, HE.out.2.2.1.symm, HE.out.2.2.2.symm⟩, o1, o2, o3, Lib.hid ⟨fun g h1 h2 => HD.out.1 (h1.trans h2.symm), fun g h1 h2 => HD.out.2.1 (h1.trans h2.symm), fun g h1 h2 => HD.out.2.2 (h1.trans h2.symm)⟩, hbz⟩
    · have HE : Hid (cntR f arm (k + 1) = m ∧ selR f arm Smp.value (k + 1) = l1 ∧ selR f arm Smp.below (k + 1) = l2 ∧ selR f arm Smp.before (k + 1) = l3) := Lib.hid (by
        have hA : ¬ (f k).arm = arm := by rw [HS.out]; exact ha
        exact ⟨by rw [cntR, if_neg hA, ← hgood.out.1], by rw [selR_no hA, ← hgood.out.2.1], by rw [selR_no hA, ← hgood.out.2.2.1], by rw [selR_no hA, ← hgood.out.2.2.2]⟩)
      have haB : (sa == arm) = false := by rw [beq_eq_false_iff_ne]; exact ha
      go_wp2_with fail
      go_roundg (n + 1 - (k + 1))
      case measure => have := HM.out; omega
      case rel => exact ⟨k + 1, m, c1, c2, c3, A1, A2, A3, l1, l2, l3, by omega, rfl, by go_num, rfl, rfl, rfl, Lib.hid ⟨HE.out.1.symm, HE.out.2.1.symm, HE.out.2.2.1.symm, HE.out.2.2.2.symm⟩, ho1, ho2, ho3, hap, hbr⟩
  · have hkn : k = n := by omega
    obtain ⟨rfl, rfl, rfl, rfl⟩ := hgood.out
    have hltI : ¬ (k : Int) < n := by omega
    rw [hkn] at ho1 ho2 ho3 ⊢
    have hI : ¬ (n : Int) < n := by omega
    clear hap HL1 HL2 HL3 HM hlt hmn
    go_wp2_with fail
    exact bodyPost_ret (v := .tuple #[.slice A1 (cntR f arm n) c1, .slice A2 (cntR f arm n) c2, .slice A3 (cntR f arm n) c3]) (by simp [results, Tryd.results39, go_sem]) rfl ⟨_, _, _, _, _, _, rfl, ho1, ho2, ho3, hbr⟩

set_option maxRecDepth 100000 in
set_option maxHeartbeats 8000000 in
theorem arm40 (A : Option Addr) (n c : Nat) (f : Nat → Smp) (arm : Int) (w : World) (hn : n ≤ 1000) (hr : RowsAt w w.heap.size 10 A n (fun i => (f i).cells)) :
    Calls Tryd.prog 40 #[.slice A n c, .int .i64 arm] w fun e w' => ∃ A1 c1 A2 c2 A3 c3, e = .returned (.tuple #[.slice A1 (cntR f arm n) c1, .slice A2 (cntR f arm n) c2, .slice A3 (cntR f arm n) c3]) ∧ Own intC 3 1 w' w.heap.size (.slice A1 (cntR f arm n) c1) (selR f arm Smp.value n) ∧ Own intC 3 1 w' w.heap.size (.slice A2 (cntR f arm n) c2) (selR f arm Smp.below n) ∧ Own intC 3 1 w' w.heap.size (.slice A3 (cntR f arm n) c3) (selR f arm Smp.before n) ∧ Below w.heap.size w w' := by
  have HR := Lib.hid hr
  clear hr
  go_enter Tryd.func40, Tryd.ntmps40
  go_wp2_with fail
  go_loopg [4, 5, 6, 7] (n + 1) (fun r p q s i wr => ∃ (k m c1 c2 c3 : Nat) (A1 A2 A3 : Option Addr) (l1 l2 l3 : List Int), k ≤ n ∧ r = n + 1 - k ∧ i = .int .i64 k ∧ p = .slice A1 m c1 ∧ q = .slice A2 m c2 ∧ s = .slice A3 m c3 ∧ Hid (m = cntR f arm k ∧ l1 = selR f arm Smp.value k ∧ l2 = selR f arm Smp.below k ∧ l3 = selR f arm Smp.before k) ∧ Own intC 3 1 wr w.heap.size (.slice A1 m c1) l1 ∧ Own intC 3 1 wr w.heap.size (.slice A2 m c2) l2 ∧ Own intC 3 1 wr w.heap.size (.slice A3 m c3) l3 ∧ Hid (apartV (.slice A1 m c1) (.slice A2 m c2) ∧ apartV (.slice A1 m c1) (.slice A3 m c3) ∧ apartV (.slice A2 m c2) (.slice A3 m c3)) ∧ Below w.heap.size w wr)
  case atStart => exact ⟨0, 0, 0, 0, 0, none, none, none, [], [], [], by omega, rfl, rfl, rfl, rfl, rfl, Lib.hid ⟨rfl, rfl, rfl, rfl⟩, Own.nil _ _ _ _ _, Own.nil _ _ _ _ _, Own.nil _ _ _ _ _, Lib.hid ⟨(fun _ h => by cases h), (fun _ h => by cases h), (fun _ h => by cases h)⟩, Below.refl _ _⟩
  case round =>
  obtain ⟨k, m, c1, c2, c3, A1, A2, A3, l1, l2, l3, hk, hr, rfl, rfl, rfl, rfl, hgood, ho1, ho2, ho3, hap, hbr⟩ := hrel
  have HM := Lib.hid hr
  clear hr
  have hmn : m ≤ 1000 := by have := cnt_le f arm k; rw [← hgood.out.1] at this; omega
  have HL1 : Hid (l1.length = m) := Lib.hid (by rw [hgood.out.2.1, selR_len, ← hgood.out.1])
  have HL2 : Hid (l2.length = m) := Lib.hid (by rw [hgood.out.2.2.1, selR_len, ← hgood.out.1])
  have HL3 : Hid (l3.length = m) := Lib.hid (by rw [hgood.out.2.2.2, selR_len, ← hgood.out.1])
  by_cases hlt : k < n
  · have hltI : (k : Int) < n := by omega
    obtain ⟨b, off, rfl, hb0, hcc⟩ := HR.out (by omega)
    obtain ⟨s, hs⟩ : ∃ s, f k = s := ⟨_, rfl⟩
    have HS := Lib.hid hs
    have hcell : ∀ j u, s.cells[j]? = some u → wr.cell? ⟨b, off + k * 10 + j, none⟩ = some u := fun j u hu => (hbr.cell (p := ⟨b, off + k * 10 + j, none⟩) hb0).trans (hcc k hlt j u (by show (f k).cells[j]? = some u; rw [hs]; exact hu))
    have hall : ∀ w', Below w.heap.size w w' → ∀ j u, s.cells[j]? = some u → w'.cell? ⟨b, off + k * 10 + j, none⟩ = some u := fun w' hb j u hu => (hb.cell (p := ⟨b, off + k * 10 + j, none⟩) hb0).trans (hcc k hlt j u (by show (f k).cells[j]? = some u; rw [hs]; exact hu))
    have HALL := Lib.hid hall
    obtain ⟨s0, s1, s2, s3, sa, s5, x, y, z, s9⟩ := s
    have p4 := hcell 4 _ rfl
    clear hcell hall hcc hs
    by_cases ha : sa = arm
    · subst ha
      have HE : Hid (cntR f sa (k + 1) = m + 1 ∧ selR f sa Smp.value (k + 1) = l1 ++ [x] ∧ selR f sa Smp.below (k + 1) = l2 ++ [y] ∧ selR f sa Smp.before (k + 1) = l3 ++ [z]) := Lib.hid (by
        have hs := HS.out
        have hA : (f k).arm = sa := by rw [hs]
        refine ⟨by rw [cntR, if_pos hA, ← hgood.out.1], ?_, ?_, ?_⟩
        · rw [selR_yes hA (x := x) (by rw [hs]), ← hgood.out.2.1]
        · rw [selR_yes hA (x := y) (by rw [hs]), ← hgood.out.2.2.1]
        · rw [selR_yes hA (x := z) (by rw [hs]), ← hgood.out.2.2.2])
      have hrows : Rows0 wr.drew w.heap.size [(.slice A1 m c1, l1, x), (.slice A2 m c2, l2, y), (.slice A3 m c3, l3, z)] := ⟨fun r hr => by
          simp only [List.mem_cons, List.not_mem_nil, or_false] at hr
          rcases hr with rfl | rfl | rfl
          · exact Own.below ho1 ((Below.refl _ _).drew)
          · exact Own.below ho2 ((Below.refl _ _).drew)
          · exact Own.below ho3 ((Below.refl _ _).drew), fun r hr s hs => by
          simp only [List.mem_cons, List.not_mem_nil, or_false] at hr hs
          rcases hr with rfl | rfl | rfl <;> rcases hs with rfl | rfl | rfl
          · exact .inl rfl
          · exact .inr hap.out.1
          · exact .inr hap.out.2.1
          · exact .inr hap.out.1.sym
          · exact .inl rfl
          · exact .inr hap.out.2.2
          · exact .inr hap.out.2.1.sym
          · exact .inr hap.out.2.2.sym
          · exact .inl rfl, hbr.size⟩
      have hm1' := PA_mono hrows (r := (.slice A1 m c1, l1, x)) (by simp)
      have hr1' := PA_run hrows (r := (.slice A1 m c1, l1, x)) (by simp) (by have := HL1.out; simp only; omega)
      have hm2' := PA_mono hrows (r := (.slice A2 m c2, l2, y)) (by simp)
      have hr2' := PA_run hrows (r := (.slice A2 m c2, l2, y)) (by simp) (by have := HL2.out; simp only; omega)
      have hm3' := PA_mono hrows (r := (.slice A3 m c3, l3, z)) (by simp)
      have hr3' := PA_run hrows (r := (.slice A3 m c3, l3, z)) (by simp) (by have := HL3.out; simp only; omega)
      have htr := hrows.trans
      have hlt' := hrows.lt
      have hge' := hrows.ge
      have hS : ∀ z : Beh (RW (wsOf [(.slice A1 m c1, l1, x), (.slice A2 m c2, l2, y), (.slice A3 m c3, l3, z)])) wr.drew, wr.drew.heap.size ≤ z.w.heap.size := fun z => z.h.size
      have hzb : ∀ z : Beh (RW (wsOf [(.slice A1 m c1, l1, x), (.slice A2 m c2, l2, y), (.slice A3 m c3, l3, z)])) wr.drew, Below w.heap.size w z.w := fun z => hbr.drew.trans (z.h.below hbr.size hge')
      have x4 : ∀ z' : Beh (RW (wsOf [(.slice A1 m c1, l1, x), (.slice A2 m c2, l2, y), (.slice A3 m c3, l3, z)])) wr.drew, z'.w.cell? ⟨b, off + k * 10 + 6, none⟩ = some (.int .i64 x) := fun z' => HALL.out _ (hzb z') 6 _ rfl
      have x5 : ∀ z' : Beh (RW (wsOf [(.slice A1 m c1, l1, x), (.slice A2 m c2, l2, y), (.slice A3 m c3, l3, z)])) wr.drew, z'.w.cell? ⟨b, off + k * 10 + 7, none⟩ = some (.int .i64 y) := fun z' => HALL.out _ (hzb z') 7 _ rfl
      have x6 : ∀ z' : Beh (RW (wsOf [(.slice A1 m c1, l1, x), (.slice A2 m c2, l2, y), (.slice A3 m c3, l3, z)])) wr.drew, z'.w.cell? ⟨b, off + k * 10 + 8, none⟩ = some (.int .i64 z) := fun z' => HALL.out _ (hzb z') 8 _ rfl
      generalize hSe : wr.drew.heap.size = S at *
      clear hSe ho1 ho2 ho3
      go_wp2_with fail
      refine wp_region_pair (R := RW (wsOf [(.slice A1 m c1, l1, x), (.slice A2 m c2, l2, y), (.slice A3 m c3, l3, z)])) (fun v u => v.ownBlock ≠ u.ownBlock) 24 49 [] [(6, [], some (freshS S #[.int .i64 x] 3 1), []), (7, [28], some (PA w.heap.size S (.slice A1 m c1, l1, x)), [PA w.heap.size S (.slice A2 m c2, l2, y), PA w.heap.size S (.slice A3 m c3, l3, z)]), (14, [], some (freshS S #[.int .i64 y] 3 1), []), (15, [36], some (PA w.heap.size S (.slice A2 m c2, l2, y)), [PA w.heap.size S (.slice A1 m c1, l1, x), PA w.heap.size S (.slice A3 m c3, l3, z)]), (22, [], some (freshS S #[.int .i64 z] 3 1), []), (23, [44], some (PA w.heap.size S (.slice A3 m c3, l3, z)), [PA w.heap.size S (.slice A1 m c1, l1, x), PA w.heap.size S (.slice A2 m c2, l2, y)])] [7, 15, 23] [29, 37, 45]
        (by kernel_rfl) (by kernel_rfl) (by kernel_rfl) (by kernel_rfl) (fun h => absurd rfl h) rfl (RW.refl _) htr (fun _ _ h => Ne.symm h) ⟨by kernel_rfl, by decide, by decide⟩ (sib3 (.tail _ (.head _)) (.tail _ (.tail _ (.tail _ (.head _)))) (.tail _ (.tail _ (.tail _ (.tail _ (.tail _ (.head _))))))) ?_
      simp only [LateP, List.take_succ_cons, List.drop_succ_cons, List.take_zero, List.drop_zero, Nat.reduceSub, Nat.reduceAdd, Nat.sub_zero]
      repeat (go_big_quiet_step (rfl))
      refine wpQuiet_nil ?_
      refine late_buildR (fun w => by kernel_rfl) (fun z => RW.of_le ((Below.refl _ _).alloc (Nat.le_refl _) _)) (freshS_rw hlt') hS (by simp only [Act.put, List.setIfInBounds_toArray, List.set_cons_succ, List.set_cons_zero]; rfl) ?_
      refine wpQuiet_nil ?_
      refine pair_app [] (by simp) hm1' (fun _ => rfl) (fun z u hu => ?_) (by simp only [Act.put, List.setIfInBounds_toArray, List.set_cons_succ, List.set_cons_zero]; rfl) ?_
      · obtain ⟨v', w', e1, e2, e3, e4⟩ := hr1' z u hu
        exact ⟨v', w', e1, e2, e3, fun ψ hψ => by
          simp only [List.mem_cons, List.not_mem_nil, or_false] at hψ
          rcases hψ with rfl | rfl
          · exact e4 _ (by simp) hap.out.1
          · exact e4 _ (by simp) hap.out.2.1⟩
      repeat (go_big_quiet_step (rfl))
      refine wpQuiet_nil ?_
      refine late_buildR (fun w => by kernel_rfl) (fun z => RW.of_le ((Below.refl _ _).alloc (Nat.le_refl _) _)) (freshS_rw hlt') hS (by simp only [Act.put, List.setIfInBounds_toArray, List.set_cons_succ, List.set_cons_zero]; rfl) ?_
      refine wpQuiet_nil ?_
      refine pair_app [_, _] (by simp) hm2' (fun _ => rfl) (fun z u hu => ?_) (by simp only [Act.put, List.setIfInBounds_toArray, List.set_cons_succ, List.set_cons_zero]; rfl) ?_
      · obtain ⟨v', w', e1, e2, e3, e4⟩ := hr2' z u hu
        exact ⟨v', w', e1, e2, e3, fun ψ hψ => by
          simp only [List.mem_cons, List.not_mem_nil, or_false] at hψ
          rcases hψ with rfl | rfl
          · exact e4 _ (by simp) hap.out.1.sym
          · exact e4 _ (by simp) hap.out.2.2⟩
      repeat (go_big_quiet_step (rfl))
      refine wpQuiet_nil ?_
      refine late_buildR (fun w => by kernel_rfl) (fun z => RW.of_le ((Below.refl _ _).alloc (Nat.le_refl _) _)) (freshS_rw hlt') hS (by simp only [Act.put, List.setIfInBounds_toArray, List.set_cons_succ, List.set_cons_zero]; rfl) ?_
      refine wpQuiet_nil ?_
      refine pair_app [_, _, _, _] (by simp) hm3' (fun _ => rfl) (fun z u hu => ?_) (by simp only [Act.put, List.setIfInBounds_toArray, List.set_cons_succ, List.set_cons_zero]; rfl) ?_
      · obtain ⟨v', w', e1, e2, e3, e4⟩ := hr3' z u hu
        exact ⟨v', w', e1, e2, e3, fun ψ hψ => by
          simp only [List.mem_cons, List.not_mem_nil, or_false] at hψ
          rcases hψ with rfl | rfl
          · exact e4 _ (by simp) hap.out.2.1.sym
          · exact e4 _ (by simp) hap.out.2.2.sym⟩
      refine wpQuiet_nil ?_
      intro zz
      simp only [List.nil_append, List.cons_append, allGens, Option.getD_some]
      rintro vb1 _ va1 p1 vb2 _ va2 p2 vb3 _ va3 p3 hdist
      simp only [Act.put, List.setIfInBounds_toArray, List.set_cons_succ, List.set_cons_zero]
      simp only [Act.put, List.setIfInBounds_toArray, List.set_cons_succ, List.set_cons_zero, List.pairwise_cons, List.mem_cons, List.not_mem_nil, or_false, forall_eq_or_imp, forall_eq, List.Pairwise.nil, and_true, false_implies, implies_true] at hdist
      have hd12 : va1.ownBlock ≠ va2.ownBlock := hdist.1.1
      have hd13 : va1.ownBlock ≠ va3.ownBlock := hdist.1.2
      have hd23 : va2.ownBlock ≠ va3.ownBlock := hdist.2
      have hbz := hzb zz
      obtain ⟨o1, -, -⟩ := p1
      obtain ⟨o2, -, -⟩ := p2
      obtain ⟨o3, -, -⟩ := p3
      clear hdist x4 x5 x6 hzb hS hr1' hr2' hr3' hm1' hm2' hm3' htr hlt' hge' hbr hrows p4
      generalize zz.w = w4 at *
      have e1 : (l1 ++ [x]).length = m + 1 := by simp [HL1.out]
      have e2 : (l2 ++ [y]).length = m + 1 := by simp [HL2.out]
      have e3 : (l3 ++ [z]).length = m + 1 := by simp [HL3.out]
      obtain ⟨B1, d1, rfl, -⟩ := Own.shape o1
      obtain ⟨B2, d2, rfl, -⟩ := Own.shape o2
      obtain ⟨B3, d3, rfl, -⟩ := Own.shape o3
      rw [e1] at o1 hd12 hd13 ⊢
      rw [e2] at o2 hd12 hd23 ⊢
      rw [e3] at o3 hd13 hd23 ⊢
      have HD := Lib.hid (⟨hd12, hd13, hd23⟩ : _ ∧ _ ∧ _)
      clear e1 e2 e3 hd12 hd13 hd23 hap
      go_wp2_with fail
      go_roundg (n + 1 - (k + 1))
      case measure => have := HM.out; omega
      case rel => exact ⟨k + 1, m + 1, d1, d2, d3, B1, B2, B3, _, _, _, by omega, rfl, by go_num, rfl, rfl, rfl, Lib.hid ⟨HE.out.1.symm, HE.out.2.1.symm, HE.out.2.2.1.symm, HE.out.2.2.2.symm⟩, o1, o2, o3, Lib.hid ⟨fun g h1 h2 => HD.out.1 (h1.trans h2.symm), fun g h1 h2 => HD.out.2.1 (h1.trans h2.symm), fun g h1 h2 => HD.out.2.2 (h1.trans h2.symm)⟩, hbz⟩
    · have HE : Hid (cntR f arm (k + 1) = m ∧ selR f arm Smp.value (k + 1) = l1 ∧ selR f arm Smp.below (k + 1) = l2 ∧ selR f arm Smp.before (k + 1) = l3) := Lib.hid (by
        have hA : ¬ (f k).arm = arm := by rw [HS.out]; exact ha
        exact ⟨by rw [cntR, if_neg hA, ← hgood.out.1], by rw [selR_no hA, ← hgood.out.2.1], by rw [selR_no hA, ← hgood.out.2.2.1], by rw [selR_no hA, ← hgood.out.2.2.2]⟩)
      have haB : (sa == arm) = false := by rw [beq_eq_false_iff_ne]; exact ha
      go_wp2_with fail
      go_roundg (n + 1 - (k + 1))
      case measure => have := HM.out; omega
      case rel => exact ⟨k + 1, m, c1, c2, c3, A1, A2, A3, l1, l2, l3, by omega, rfl, by go_num, rfl, rfl, rfl, Lib.hid ⟨HE.out.1.symm, HE.out.2.1.symm, HE.out.2.2.1.symm, HE.out.2.2.2.symm⟩, ho1, ho2, ho3, hap, hbr⟩
  · have hkn : k = n := by omega
    obtain ⟨rfl, rfl, rfl, rfl⟩ := hgood.out
    have hltI : ¬ (k : Int) < n := by omega
    rw [hkn] at ho1 ho2 ho3 ⊢
    have hI : ¬ (n : Int) < n := by omega
    clear hap HL1 HL2 HL3 HM hlt hmn
    go_wp2_with fail
    exact bodyPost_ret (v := .tuple #[.slice A1 (cntR f arm n) c1, .slice A2 (cntR f arm n) c2, .slice A3 (cntR f arm n) c3]) (by simp [results, Tryd.results40, go_sem]) rfl ⟨_, _, _, _, _, _, rfl, ho1, ho2, ho3, hbr⟩
end Go.Proofs.YtpligjkbnlfhgaaDoor
