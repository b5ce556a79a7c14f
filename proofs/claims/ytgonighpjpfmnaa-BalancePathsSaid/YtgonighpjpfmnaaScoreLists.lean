/- The walk of flagstonelaw39.ScoreLists. -/
import Derived.Test.YtgonighpjpfmnaaScoreTells
import Derived.Test.YtgonighpjpfmnaaLate2
import Derived.ArgAppend
namespace Go.Proofs.Ytgonighpjpfmnaa
open Go.RowKit

theorem kWt_rows {w : World} {a : Option Addr} {len cap : Nat} (h : IsRows kWt w a len cap) : ∃ F : Nat → Wt, RowsAt w w.heap.size 3 a len (fun i => (F i).cells) := by
  obtain ⟨h1, _, f, hf, hR⟩ := h
  have hex : ∀ i, ∃ s : Wt, i < cap → f i = s.cells := fun i => by
    by_cases hi : i < cap
    · obtain ⟨s, hs⟩ := kWt_of (hf i hi)
      exact ⟨s, fun _ => hs⟩
    · exact ⟨default, fun h => absurd h hi⟩
  refine ⟨fun i => (hex i).choose, fun hn => ?_⟩
  obtain ⟨b, off, hA, hb, hc⟩ := hR (by omega)
  refine ⟨b, off, hA, hb, fun i hi j u hu => ?_⟩
  exact hc i (by omega) j u (by rw [(hex i).choose_spec (by omega)]; exact hu)

theorem flat_set {α : Type} (c : α → List Value) (size : Nat) (hc : ∀ a, (c a).length = size) (a' : α) (u : Value) (j : Nat) (hj : j < size) : ∀ (l : List α) (i : Nat) (a : α), l[i]? = some a → c a' = (c a).set j u → (l.flatMap c).set (i * size + j) u = (l.set i a').flatMap c
  | [], i, a, h, _ => by simp at h
  | b :: l, 0, a, h, hs => by
    simp only [List.getElem?_cons_zero, Option.some.injEq] at h
    subst h
    simp only [List.flatMap_cons, List.set_cons_zero, Nat.zero_mul, Nat.zero_add]
    rw [List.set_append_left _ _ (by rw [hc]; exact hj), hs]
  | b :: l, i + 1, a, h, hs => by
    rw [List.getElem?_cons_succ] at h
    simp only [List.flatMap_cons, List.set_cons_succ]
    rw [← flat_set c size hc a' u j hj l i a h hs, List.set_append_right _ _ (by rw [hc, Nat.succ_mul]; omega)]
    rw [hc, show (i + 1) * size + j - size = i * size + j by rw [Nat.succ_mul]; omega]

theorem OwnSmp.setArm {w : World} {B g n cap : Nat} {l : List Smp} (h : OwnSmp w B (.slice (some ⟨g, 0, none⟩) n cap) l) (hn : n = l.length) (k : Nat) (hk : k < l.length) (m : Int) :
    OwnSmp (w.setCell ⟨g, k * 10 + 4, none⟩ (.int .i64 m)) B (.slice (some ⟨g, 0, none⟩) n cap) (l.set k { l.getD k default with arm := m }) ∧ w.grownBy (w.setCell ⟨g, k * 10 + 4, none⟩ (.int .i64 m)) (some g) := by
  subst hn
  obtain ⟨h1, h2⟩ := World.ownsRow.stored h (k * 10 + 4) (.int .i64 m)
  refine ⟨?_, h2⟩
  unfold OwnSmp Own
  rw [List.length_set, ← flat_set Smp.cells 10 Smp.len { l.getD k default with arm := m } (.int .i64 m) 4 (by omega) l k (l.getD k default) (by rw [List.getElem?_eq_getElem hk, List.getD_eq_getElem?_getD, List.getElem?_eq_getElem hk]; rfl) rfl]
  exact h1

theorem info42 : (Try.prog.info? 42).map (fun i => (i.zero, i.size, i.bytes)) = some (some (.agg #[.int .i64 0, .int .i64 0, .int .i64 0]), 3, 24) := by kernel_rfl

set_option maxRecDepth 100000 in
set_option maxHeartbeats 4000000 in
theorem scoreLists8 (a0 : Option Addr) (len0 cap0 : Nat) (z0 : List Int) (a1 a2 a3 a4 : Int) (a5 : Option Addr) (len5 cap5 : Nat) (a6 : Bool) (w : World) (w0 : IsRow .u8 w a0 len0 cap0 z0) (w1 : (Lit.int .u8 a1).wf = true) (w2 : (Lit.int .u8 a2).wf = true) (w3 : (Lit.int .u8 a3).wf = true) (w4 : (Lit.int .u8 a4).wf = true) (w5 : IsRows kWt w a5 len5 cap5) :
    Calls Try.prog 8 #[.slice a0 len0 cap0, .int .u8 a1, .int .u8 a2, .int .u8 a3, .int .u8 a4, .slice a5 len5 cap5, .bool a6] w fun e w' => e = .returned (.bool true) ∧ Below w.heap.size w w' := by
  have b1 := bounds_u8 w1
  have b2 := bounds_u8 w2
  have b3 := bounds_u8 w3
  have b4 := bounds_u8 w4
  have hB := w0.bytes
  have hm0 : len0 ≤ 9223372036854775807 := by have := w0.rows.2.2; unfold maxLen at this; omega
  have hm5 : len5 ≤ 9223372036854775807 := by have h1 := w5.1; have h2 := w5.2.1; unfold maxLen at h2; omega
  obtain ⟨F5, hR5⟩ := kWt_rows w5
  obtain ⟨i0, hi, hz0, hz1, hz2⟩ := info_parts info42
  clear w0 w1 w2 w3 w4 w5
  by_cases hlen : 200 < len0
  · go_enter Try.func8, Try.ntmps8
    go_wp2_with (go_at_call 30; refine (awake30 _).mono ?_; rintro e w' ⟨rfl, hb⟩)
    go_ret
    exact ⟨rfl, hb⟩
  by_cases hlen5 : 20 < len5
  · go_enter Try.func8, Try.ntmps8
    go_wp2_with (go_at_call 30; refine (awake30 _).mono ?_; rintro e w' ⟨rfl, hb⟩)
    go_ret
    exact ⟨rfl, hb⟩
  · go_enter Try.func8, Try.ntmps8
    go_wp2_with fail
    refine (awake30 _).mono ?_
    rintro e w1 ⟨rfl, hb1⟩
    go_wp2_with fail
    refine (samples31 a0 len0 cap0 60 w1 (by omega) (by omega) (by omega) ((hB.kept hb1 (Nat.le_refl _)).more' hb1.size)).mono ?_
    rintro e w2 ⟨v, l, rfl, hl, hgood, hown, hb2⟩
    have hb := below_trans hb1 hb2
    have hown : OwnSmp w2 w.heap.size v l := Own.mono hown hb1.size
    have hin := Smp.made_in (by omega) hgood
    clear hgood hb1 hb2 hB
    obtain ⟨A, cp, rfl, hcp⟩ := Own.shape hown
    go_wp2_with fail
    go_loopg [16] l.length (fun m i wr => ∃ (k : Nat) (l' : List Smp), k ≤ l.length ∧ m = l.length - k ∧ i = .int .i64 k ∧ l'.length = l.length ∧ InSmp (fun i => l'.getD i default) l'.length ∧ OwnSmp wr w.heap.size (.slice A l.length cp) l' ∧ Below w.heap.size w wr)
    case atStart => exact ⟨0, l, by omega, by omega, rfl, rfl, hin, hown, hb⟩
    case round =>
      clear hown hin hb
      obtain ⟨k, l', hk, hm, rfl, hll, hin, hown, hb⟩ := hrel
      have HM := Lib.hid hm
      have HLL := Lib.hid hll
      clear hm
      have hRl : RowsAt wr wr.heap.size 10 A l'.length (fun i => ((l'.getD i default) : Smp).cells) := by
        have h := hown
        rw [← hll] at h
        exact OwnSmp.rows h
      clear hll
      by_cases hkl : k < l.length
      · obtain ⟨g, off, rfl, hgb, hc⟩ := hRl (by rw [HLL.out]; omega)
        have hoff : off = 0 := by
          rcases hown.2 with ⟨h, _⟩ | ⟨g', cap', cur, h, _⟩
          · cases h
          · injection h with h; injection h with h; injection h
        subst hoff
        have hinb := hin k (by rw [HLL.out]; exact hkl)
        dsimp only at hinb
        have g6 := hc k (by rw [HLL.out]; exact hkl) 6 _ rfl
        have g4 := hc k (by rw [HLL.out]; exact hkl) 4 _ rfl
        simp only [Nat.zero_add] at g6 g4
        have hown2 : OwnSmp wr w.heap.size (.slice (some ⟨g, 0, none⟩) l'.length cp) l' := by rw [HLL.out]; exact hown
        have gf := World.ownsRow.frozenAt hown2 (k * 10 + 4)
        obtain ⟨hs1, hs2⟩ := hown2.setArm rfl k (by rw [HLL.out]; exact hkl) 3
        have hgB : w.heap.size ≤ g := (World.ownsRow.lt hown2 g rfl).1
        clear hc hRl
        obtain ⟨q, hq⟩ : ∃ q, q = l'.getD k default := ⟨_, rfl⟩
        rw [← hq] at g6 hs1 hinb
        have HQ := Lib.hid hq
        clear hq
        cases hv : (q.value.tmod 11 == 7)
        · go_wp2_with fail
          go_roundg (l.length - (k + 1))
          case measure => have := HM.out; omega
          case rel => exact ⟨k + 1, l', by omega, rfl, by go_num, HLL.out, hin, hown, hb⟩
        · go_wp2_with fail
          go_roundg (l.length - (k + 1))
          case measure => have := HM.out; omega
          case rel =>
            refine ⟨k + 1, l'.set k { q with arm := 3 }, by omega, rfl, by go_num, by rw [List.length_set]; exact HLL.out, fun i hi => ?_, by rw [← HLL.out]; exact hs1, hb.setCell (p := ⟨g, k * 10 + 4, none⟩) hgB _⟩
            rw [List.length_set] at hi
            have h1 := hin i hi
            dsimp only at h1 ⊢
            rw [List.getD_eq_getElem?_getD, List.getElem?_set]
            by_cases hik : k = i
            · subst hik
              rw [if_pos rfl, if_pos hi]
              rw [HQ.out]
              exact h1
            · rw [if_neg hik, ← List.getD_eq_getElem?_getD]
              exact h1
      · have hRl : RowsAt wr wr.heap.size 10 A l.length (fun i => ((l'.getD i default) : Smp).cells) := by rw [← HLL.out]; exact hRl
        have hin : InSmp (fun i => l'.getD i default) l.length := by rw [← HLL.out]; exact hin
        obtain ⟨f, hfe⟩ : ∃ f : Nat → Smp, f = fun i => l'.getD i default := ⟨_, rfl⟩
        have hRl : RowsAt wr wr.heap.size 10 A l.length (fun i => (f i).cells) := by rw [hfe]; exact hRl
        have hin : InSmp f l.length := by rw [hfe]; exact hin
        clear hfe
        clear hown
        go_wp2_with fail
        refine (weights40 a1 a2 a3 a4 wr b1 b2 b3 b4).mono ?_
        rintro e w3 ⟨rfl, rfl⟩
        have gw := heap_alloc_new wr (.cells (([⟨1, 1 + a1 % 20, 1 + a2 % 20⟩, ⟨2, 1 + a3 % 20, 1 + a4 % 20⟩] : List Wt).flatMap Wt.cells).toArray 42)
        change (wr.alloc (.cells #[.int .i64 1, .int .i64 (1 + a1 % 20), .int .i64 (1 + a2 % 20), .int .i64 2, .int .i64 (1 + a3 % 20), .int .i64 (1 + a4 % 20)] 42)).heap[wr.heap.size]? = _ at gw
        have hb3 := hb.alloc hb.size (.cells #[.int .i64 1, .int .i64 (1 + a1 % 20), .int .i64 (1 + a2 % 20), .int .i64 2, .int .i64 (1 + a3 % 20), .int .i64 (1 + a4 % 20)] 42)
        have hb23 : Below wr.heap.size wr (wr.alloc (.cells #[.int .i64 1, .int .i64 (1 + a1 % 20), .int .i64 (1 + a2 % 20), .int .i64 2, .int .i64 (1 + a3 % 20), .int .i64 (1 + a4 % 20)] 42)) := (Below.refl _ _).alloc (Nat.le_refl _) _
        generalize wr.alloc (.cells #[.int .i64 1, .int .i64 (1 + a1 % 20), .int .i64 (1 + a2 % 20), .int .i64 2, .int .i64 (1 + a3 % 20), .int .i64 (1 + a4 % 20)] 42) = w3 at *
        have hR3 := (hRl.below hb23 (Nat.le_refl _)).more hb23.size
        obtain ⟨m0, hm0e⟩ : ∃ x : Wt, x = ⟨1, 1 + a1 % 20, 1 + a2 % 20⟩ := ⟨_, rfl⟩
        obtain ⟨m1, hm1e⟩ : ∃ x : Wt, x = ⟨2, 1 + a3 % 20, 1 + a4 % 20⟩ := ⟨_, rfl⟩
        rw [← hm0e, ← hm1e] at gw
        clear hm0e hm1e hRl hb hb23
        generalize wr.heap.size = G at *
        go_wp2_with fail
        refine wp_region_loose (R := LeW) 8 97 [] [(7, [], some (listAt Wt.cells 3 default [m1, m0, m1]))] (by kernel_rfl) (by kernel_rfl) (by kernel_rfl) (by kernel_rfl) (fun h => absurd rfl h) rfl LeW.refl (fun _ _ _ => LeW.trans) ?_
        simp only [Late, List.take_succ_cons, List.drop_succ_cons, List.take_zero, List.drop_zero, Nat.sub_zero]
        repeat (go_big_quiet_step (fail))
        refine wpQuiet_nil ?_
        refine late_append (vals := #[.slice (some ⟨G, 3, none⟩) 1 1, .slice (some ⟨G, 0, none⟩) 2 2]) (listAt_mono _ _ _ _) (fun x => ?_) rfl (by simp only [Act.put, List.setIfInBounds_toArray, List.set_cons_succ, List.set_cons_zero]; rfl) ?_
        · have gx : x.w.heap[G]? = some (.cells (([m0, m1] : List Wt).flatMap Wt.cells).toArray 42 (0, 0)) := by rw [x.h.block _ (lt_of_blk (w := w3) gw)]; exact gw
          have hc : ∀ j u, (([m0, m1] : List Wt).flatMap Wt.cells)[j]? = some u → x.w.cell? ⟨G, j, none⟩ = some u := fun j u hu => by rw [cell_of_block gx, List.getElem?_toArray]; exact hu
          obtain ⟨v', w', hr, ho, hg⟩ := run_append_arg_grows (P := Try.prog) x.w 43 43 42 i0 (.agg #[.int .i64 0, .int .i64 0, .int .i64 0]) 3 24 Try.underlying43 hi hz0 hz1 hz2 rfl (by omega) ⟨G, 3, none⟩ 1 1 m1.cells rfl (fun j u hu => by
              rw [Go.WideShapes.add_plain]
              refine hc (3 + j) u ?_
              have hj : j < 3 := (List.getElem?_eq_some_iff.1 hu).1
              rw [List.flatMap_cons, List.getElem?_append_right (by simp [Wt.cells])]
              simpa [Wt.cells] using hu)
            ⟨G, 0, none⟩ 2 2 (m0.cells ++ m1.cells) rfl (fun j u hu => by
              rw [Go.WideShapes.add_plain, Nat.zero_add]
              exact hc j u hu) (by omega) (by unfold maxLen; omega) (by omega)
          exact ⟨v', w', hr, below_of_grownBy hg, listAt_of_own (c := Wt.cells) (e := 42) (B := x.w.heap.size) (L := [m1, m0, m1]) Wt.len default ho⟩
        refine wpQuiet_nil ?_
        intro x
        simp only [List.nil_append, allGens, Option.getD_some]
        rintro v ⟨A7, cp7, rfl, hcp7, hR7⟩
        have hbx : Below w.heap.size w x.w := below_trans' hb3 hb3.size (Below.trans ((Below.refl _ w3).drew) x.h)
        have h3x : Below w3.heap.size w3 x.w := Below.trans ((Below.refl _ w3).drew) x.h
        have hRx := (hR3.below h3x (Nat.le_refl _)).more h3x.size
        have gx : x.w.heap[G]? = some (.cells (([m0, m1] : List Wt).flatMap Wt.cells).toArray 42 (0, 0)) := by rw [x.h.block _ (lt_of_blk (w := w3) gw)]; exact gw
        have hR5x := (hR5.below hbx (Nat.le_refl _)).more hbx.size
        simp only [Act.put, List.setIfInBounds_toArray, List.set_cons_succ, List.set_cons_zero, List.length_cons, List.length_nil, Nat.zero_add, Nat.reduceAdd]
        have hRm : RowsAt x.w x.w.heap.size 3 (some ⟨G, 0, none⟩) 2 (fun i => (([m0, m1] : List Wt).getD i default).cells) := rows_of_flat Wt.len default gx
        have hR7 : RowsAt x.w x.w.heap.size 3 A7 3 (fun i => (([m1, m0, m1] : List Wt).getD i default).cells) := hR7
        generalize x.w = w4 at *
        clear hR3 gw hb3 h3x hR5 gx
        -- each of the four lists
        obtain ⟨V, hV⟩ : ∃ V : List Value, V = [.slice a5 len5 cap5, .slice (some ⟨G, 0, none⟩) 2 2, .slice (some ⟨G, 0, none⟩) 1 2, .slice A7 3 cp7] := ⟨_, rfl⟩
        have hVl : ∀ i, i < 4 → ∃ Ai mi ci, ∃ gi : Nat → Wt, V[i]? = some (.slice Ai mi ci) ∧ mi ≤ 20 ∧ RowsAt w4 w4.heap.size 3 Ai mi (fun j => (gi j).cells) := fun i hi => by
          have h4 : i = 0 ∨ i = 1 ∨ i = 2 ∨ i = 3 := by omega
          rcases h4 with rfl | rfl | rfl | rfl
          · exact ⟨a5, len5, cap5, F5, by rw [hV]; rfl, by omega, hR5x⟩
          · exact ⟨_, 2, 2, _, by rw [hV]; rfl, by omega, hRm⟩
          · exact ⟨_, 1, 2, _, by rw [hV]; rfl, by omega, fun hn => by
              obtain ⟨b, off, hA, hb, hc⟩ := hRm (by omega)
              exact ⟨b, off, hA, hb, fun i hi => hc i (by omega)⟩⟩
          · exact ⟨_, 3, _, _, by rw [hV]; rfl, by omega, hR7⟩
        go_wp2_with fail
        have gV := heap_alloc_new w4 (.cells V.toArray 43)
        have hb5 := hbx.alloc hbx.size (.cells V.toArray 43)
        have h45 : Below w4.heap.size w4 (w4.alloc (.cells V.toArray 43)) := (Below.refl _ _).alloc (Nat.le_refl _) _
        rw [hV] at gV hb5 h45
        change (w4.alloc (.cells #[.slice a5 len5 cap5, .slice (some ⟨G, 0, none⟩) 2 2, .slice (some ⟨G, 0, none⟩) 1 2, .slice A7 3 cp7] 43)).heap[w4.heap.size]? = _ at gV
        change Below w.heap.size w (w4.alloc (.cells #[.slice a5 len5 cap5, .slice (some ⟨G, 0, none⟩) 2 2, .slice (some ⟨G, 0, none⟩) 1 2, .slice A7 3 cp7] 43)) at hb5
        change Below w4.heap.size w4 (w4.alloc (.cells #[.slice a5 len5 cap5, .slice (some ⟨G, 0, none⟩) 2 2, .slice (some ⟨G, 0, none⟩) 1 2, .slice A7 3 cp7] 43)) at h45
        generalize w4.alloc (.cells #[.slice a5 len5 cap5, .slice (some ⟨G, 0, none⟩) 2 2, .slice (some ⟨G, 0, none⟩) 1 2, .slice A7 3 cp7] 43) = w5 at *
        rw [← hV] at gV
        have HV := Lib.hid hV
        clear hV
        have hVl := Lib.hid hVl
        have hRw := (hRx.below h45 (Nat.le_refl _)).more h45.size
        clear hRx hRm hR7 hR5x
        go_loopg [19] 4 (fun m i wr => ∃ p : Nat, p ≤ 4 ∧ m = 4 - p ∧ i = .int .i64 p ∧ Below w5.heap.size w5 wr)
        case atStart => exact ⟨0, by omega, by omega, rfl, Below.refl _ _⟩
        case round =>
          obtain ⟨p, hp, hmp, rfl, hbr⟩ := hrel
          have HMP := Lib.hid hmp
          clear hmp
          by_cases hp4 : p < 4
          · have hdp : decide ((p : Int) < 4) = true := by simp; omega
            obtain ⟨Ai, mi, ci, gi, hVi, hmi, hRi⟩ := hVl.out p hp4
            have HVi := Lib.hid hVi
            clear hVi
            go_wp2_with fail
            have gC := heap_alloc_new wr (.cells (([60, 50] : List Int).flatMap fun i => [Value.int .i64 i]).toArray 3)
            have hbr2 := hbr.alloc hbr.size (.cells (([60, 50] : List Int).flatMap fun i => [Value.int .i64 i]).toArray 3)
            change (wr.alloc (.cells #[.int .i64 60, .int .i64 50] 3)).heap[wr.heap.size]? = _ at gC
            change Below w5.heap.size w5 (wr.alloc (.cells #[.int .i64 60, .int .i64 50] 3)) at hbr2
            have hrC : Below wr.heap.size wr (wr.alloc (.cells #[.int .i64 60, .int .i64 50] 3)) := (Below.refl _ _).alloc (Nat.le_refl _) _
            generalize wr.alloc (.cells #[.int .i64 60, .int .i64 50] 3) = w6 at *
            generalize hLc : ([60, 50] : List Int) = Lc at gC
            have hLl : Lc.length = 2 := by rw [← hLc]; rfl
            have hC6 := rows_of_flat (c := fun i => [Value.int .i64 i]) (size := 1) (fun _ => rfl) (0 : Int) gC
            rw [hLl] at hC6
            have hz6 : wr.heap.size < w6.heap.size := lt_of_blk gC
            clear hLc hLl gC
            generalize wr.heap.size = C at *
            go_loopg [74] 2 (fun m i wi => ∃ q : Nat, q ≤ 2 ∧ m = 2 - q ∧ i = .int .i64 q ∧ Below w6.heap.size w6 wi)
            case atStart => exact ⟨0, by omega, by omega, rfl, Below.refl _ _⟩
            case round =>
              obtain ⟨q, hq, hmq, rfl, hbi⟩ := hrel
              have HMQ := Lib.hid hmq
              clear hmq
              by_cases hq2 : q < 2
              · have hdq : decide ((q : Int) < 2) = true := by simp; omega
                obtain ⟨c, hc⟩ : ∃ c, c = Lc.getD q 0 := ⟨_, rfl⟩
                have hc0 : wr.cell? ⟨C, q, none⟩ = some (.int .i64 c) := by
                  have := (hC6.below hbi (Nat.le_refl _)).at hq2 (j := 0) (u := .int .i64 c) (by rw [hc]; rfl)
                  simpa using this
                have hbw : Below w5.heap.size w5 wr := hbr2.trans (hbi.mono hbr2.size)
                clear hc
                have hx : ∀ x : Beh LeW wr.drew, Below w5.heap.size w5 x.w := fun x => below_trans' hbw hbw.size (Below.trans ((Below.refl _ wr).drew) x.h)
                have hxR : ∀ x : Beh LeW wr.drew, RowsAt x.w x.w.heap.size 10 A l.length (fun i => (f i).cells) := fun x => (hRw.below (hx x) (Nat.le_refl _)).more (hx x).size
                have hxW : ∀ x : Beh LeW wr.drew, RowsAt x.w x.w.heap.size 3 Ai mi (fun j => (gi j).cells) := fun x => by
                  have h := h45.trans ((hx x).mono h45.size)
                  exact (hRi.below h (Nat.le_refl _)).more h.size
                have q0 : ∀ x : Beh LeW wr.drew, x.w.cell? ⟨w4.heap.size, p, none⟩ = some (.slice Ai mi ci) := fun x => by
                  have h1 : x.w.heap[w4.heap.size]? = some (.cells V.toArray 43 (0, 0)) := by rw [(hx x).block _ (lt_of_blk gV)]; exact gV
                  rw [cell_of_block h1, List.getElem?_toArray]; exact HVi.out
                go_wp2_with fail
                refine wp_region_loose (R := LeW) 18 97 [] [(7, [], some (listAt Scr.cells 3 default (allR f l.length gi mi c a6 l.length))), (15, [], some (listAt Scr.cells 3 default (allR f l.length gi mi c a6 l.length))), (16, [85, 93], none)] (by kernel_rfl) (by kernel_rfl) (by kernel_rfl) (by kernel_rfl) (fun h => absurd rfl h) rfl LeW.refl (fun _ _ _ => LeW.trans) ?_
                simp only [Late, List.take_succ_cons, List.drop_succ_cons, List.take_zero, List.drop_zero, Nat.reduceSub, Nat.reduceAdd, Nat.sub_zero]
                repeat (go_big_quiet_step (fail))
                refine wpQuiet_nil ?_
                refine late_gen Try.func42 (by kernel_rfl) (by kernel_rfl) (listAt_mono _ _ _ _) (fun x => (all42 A l.length cp f Ai mi ci gi c a6 x.w (by omega) hcp (by omega) (hxR x) hin (hxW x)).mono fun e w' ⟨v, he, ho, hb⟩ => ⟨v, he, hb, listAt_of_own (c := Scr.cells) (e := 37) (size := 3) (fun _ => rfl) default ho⟩) rfl (by simp only [Act.put, List.setIfInBounds_toArray, List.set_cons_succ, List.set_cons_zero]; rfl) ?_
                repeat (go_big_quiet_step (fail))
                refine wpQuiet_nil ?_
                refine late_gen Try.func43 (by kernel_rfl) (by kernel_rfl) (listAt_mono _ _ _ _) (fun x => (all43 A l.length cp f Ai mi ci gi c a6 x.w (by omega) hcp (by omega) (hxR x) hin (hxW x)).mono fun e w' ⟨v, he, ho, hb⟩ => ⟨v, he, hb, listAt_of_own (c := Scr.cells) (e := 37) (size := 3) (fun _ => rfl) default ho⟩) rfl (by simp only [Act.put, List.setIfInBounds_toArray, List.set_cons_succ, List.set_cons_zero]; rfl) ?_
                refine wpQuiet_nil ?_
                refine late_call2 (c := .bool true) Try.func41 (by kernel_rfl) (by kernel_rfl) (by decide) (by simp) (by simp) (fun x v1 v2 h1 h2 => by
                    obtain ⟨A1, p1, rfl, _, hr1⟩ := h1
                    obtain ⟨A2, p2, rfl, _, hr2⟩ := h2
                    exact same41 A1 A2 _ p1 p2 _ x.w (Nat.le_trans (allR_len _ _ _ _ _ _ _) (by omega)) hr1 hr2) (by simp only [Act.put, List.setIfInBounds_toArray, List.set_cons_succ, List.set_cons_zero]; rfl) ?_
                repeat (go_big_quiet_step (fail))
                refine wpQuiet_nil ?_
                intro x
                simp only [allGens]
                intro v1 _ v2 _
                simp only [Act.put, List.setIfInBounds_toArray, List.set_cons_succ, List.set_cons_zero]
                have hfin := below_trans' hbi hbi.size (Below.trans ((Below.refl _ wr).drew) x.h)
                clear hx hxR hxW q0 hc0 hbw
                generalize x.w = w8 at *
                go_wp2_with fail
                go_roundg (2 - (q + 1))
                case measure => have := HMQ.out; omega
                case rel => exact ⟨q + 1, by omega, rfl, by go_num, hfin⟩
              · have hdq : decide ((q : Int) < 2) = false := by simp; omega
                go_wp2_with fail
                go_roundg (4 - (p + 1))
                case measure => have := HMP.out; omega
                case rel => exact ⟨p + 1, by omega, rfl, by go_num, hbr2.trans (hbi.mono hbr2.size)⟩
          · have hdp : decide ((p : Int) < 4) = false := by simp; omega
            go_wp2_with fail
            go_ret
            exact ⟨rfl, hb5.trans (hbr.mono hb5.size)⟩
end Go.Proofs.Ytgonighpjpfmnaa
