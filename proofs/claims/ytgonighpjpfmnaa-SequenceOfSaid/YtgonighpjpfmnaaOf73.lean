/- The reference's sequence.Of. -/
import Derived.Test.YtgonighpjpfmnaaOf72
import Derived.Test.YtgonighpjpfmnaaHeldT
namespace Go.Proofs.Ytgonighpjpfmnaa
open Go.RowKit Go.Maps

theorem RowsAt.less {w : World} {B size : Nat} {A : Option Addr} {n k : Nat} {f : Nat → List Value} (h : RowsAt w B size A n f) (hk : k ≤ n) : RowsAt w B size A k f := fun hn => by
  obtain ⟨b, off, hA, hb, hc⟩ := h (by omega)
  exact ⟨b, off, hA, hb, fun i hi j u hu => hc i (by omega) j u hu⟩

theorem blk_kept {w w' : World} {b : Nat} {o : Obj} (hb : Below w.heap.size w w') (g : w.heap[b]? = some o) : w'.heap[b]? = some o := (hb.block _ (lt_of_blk g)).trans g
theorem RowsAt.grown {w w' : World} {size n b off : Nat} {f : Nat → List Value} {row : Option Nat} (h : RowsAt w w.heap.size size (some ⟨b, off, none⟩) n f) (hg : w.grownBy w' row) (hne : row = some b → False) : RowsAt w' w'.heap.size size (some ⟨b, off, none⟩) n f := fun hn => by
  obtain ⟨b', off', hA, hb, hc⟩ := h hn
  injection hA with hA
  injection hA with h1 h2
  subst h1
  subst h2
  refine ⟨b, off, rfl, Nat.lt_of_lt_of_le hb hg.size, fun i hi j u hu => ?_⟩
  rw [← hc i hi j u hu]
  exact World.cell?_of_block (hg.block b hb (fun e => hne e.symm))

set_option maxRecDepth 100000 in
set_option maxHeartbeats 4000000 in
theorem of73 (A : Option Addr) (n c : Nat) (f : Nat → Scr) (level : Int) (w : World) (hn : n ≤ 100) (hcap : n ≤ c) (hR : RowsAt w w.heap.size 3 A n fun i => (f i).cells)
    (hf : ∀ k, k < n → -9223372036854775808 ≤ (f k).unit ∧ (f k).rng ≤ 9223372036854775807) :
    Calls Try.prog 73 #[.slice A n c, .int .i64 level] w fun en w' => ∃ vl vh, en = .returned (.agg #[vl, vh]) ∧
      Own intC 3 1 w' w.heap.size vl ((List.range n).map fun k : Nat => lowR f level (k + 1)) ∧
      Own intC 3 1 w' w.heap.size vh ((List.range n).map fun k : Nat => highR f level (k + 1)) ∧ Below w.heap.size w w' := by
  have hl1 := fun (k : Nat) w' (hk : k ≤ n) h1 => lower69 A k c f level w' (by omega) h1 (fun i hi => hf i (by omega))
  have hl2 := fun (k : Nat) w' (hk : k ≤ n) h1 => upper71 A k c f level w' (by omega) h1 (fun i hi => hf i (by omega))
  obtain ⟨L1, hL1⟩ : ∃ L : Nat → Int, (fun k : Nat => lowR f level (k + 1)) = L := ⟨_, rfl⟩
  obtain ⟨L2, hL2⟩ : ∃ L : Nat → Int, (fun k : Nat => highR f level (k + 1)) = L := ⟨_, rfl⟩
  rw [hL1, hL2]
  replace hl1 := fun (k : Nat) w' (hk : k + 1 ≤ n) h1 => (hl1 (k + 1) w' hk h1).mono (R' := fun en w2 => en = .returned (.int .i64 (L1 k)) ∧ Below w'.heap.size w' w2) fun e w2 h => by rw [← hL1]; exact h
  replace hl2 := fun (k : Nat) w' (hk : k + 1 ≤ n) h1 => (hl2 (k + 1) w' hk h1).mono (R' := fun en w2 => en = .returned (.int .i64 (L2 k)) ∧ Below w'.heap.size w' w2) fun e w2 h => by rw [← hL2]; exact h
  have HL1 := Lib.hid hl1
  have HL2 := Lib.hid hl2
  clear hl1 hl2 hf hL1 hL2
  go_enter Try.func73, Try.ntmps73
  go_wp2_with fail
  have hb0 : Below w.heap.size w ((w.alloc (.cells #[.slice none 0 0, .slice none 0 0] 95)).alloc (.cells #[.slice none 0 0, .slice none 0 0] 95)) := ((Below.refl _ _).alloc (Nat.le_refl _) _).alloc (by simp) _
  have g4 : ((w.alloc (.cells #[.slice none 0 0, .slice none 0 0] 95)).alloc (.cells #[.slice none 0 0, .slice none 0 0] 95)).heap[w.heap.size]? = some (.cells #[.slice none 0 0, .slice none 0 0] 95 (0, 0)) := by
    rw [Below.heap_alloc _ _ _ (by simp)]; exact heap_alloc_new w _
  have g5 : ((w.alloc (.cells #[.slice none 0 0, .slice none 0 0] 95)).alloc (.cells #[.slice none 0 0, .slice none 0 0] 95)).heap[w.heap.size + 1]? = some (.cells #[.slice none 0 0, .slice none 0 0] 95 (0, 0)) := by
    have h := heap_alloc_new (w.alloc (.cells #[.slice none 0 0, .slice none 0 0] 95)) (.cells #[.slice none 0 0, .slice none 0 0] 95)
    rw [show (w.alloc (.cells #[.slice none 0 0, .slice none 0 0] 95)).heap.size = w.heap.size + 1 by simp] at h
    exact h
  have hsz : ((w.alloc (.cells #[.slice none 0 0, .slice none 0 0] 95)).alloc (.cells #[.slice none 0 0, .slice none 0 0] 95)).heap.size = w.heap.size + 2 := by simp
  generalize ((w.alloc (.cells #[.slice none 0 0, .slice none 0 0] 95)).alloc (.cells #[.slice none 0 0, .slice none 0 0] 95)) = w3 at *
  generalize hg5 : w.heap.size + 1 = G5 at *
  obtain ⟨G4, hg4⟩ : ∃ G, w.heap.size = G := ⟨_, rfl⟩
  rw [hg4] at g4 ⊢
  have q4 : G4 < w3.heap.size := by omega
  have q5 : G5 < w3.heap.size := by omega
  have d4 : G4 ≠ G5 := by omega
  have hw4 : w.heap.size ≤ G4 := by omega
  have hw5 : w.heap.size ≤ G5 := by omega
  have hbs : w.heap.size ≤ w3.heap.size := by omega
  clear hsz hg4 hg5
  go_loopg [6] n (fun m i wr => ∃ (k cl ch : Nat) (Al Ah : Option Addr), k ≤ n ∧ m = n - k ∧ i = .int .i64 ((k : Int) + 1) ∧ Own intC 3 1 wr w3.heap.size (.slice Al k cl) ((List.range k).map L1) ∧ Own intC 3 1 wr w3.heap.size (.slice Ah k ch) ((List.range k).map L2) ∧ apartV (.slice Al k cl) (.slice Ah k ch) ∧
    wr.heap[G5]? = some (.cells #[.slice Al k cl, .slice Ah k ch] 95 (0, 0)) ∧ wr.heap[G4]? = some (.cells #[.slice none 0 0, .slice none 0 0] 95 (0, 0)) ∧ Below w.heap.size w wr ∧ w3.heap.size ≤ wr.heap.size)
  case atStart => exact ⟨0, 0, 0, none, none, by omega, by omega, rfl, own_new, own_new, (fun _ h => by cases h), g5, g4, hb0, Nat.le_refl _⟩
  case round =>
    obtain ⟨k, cl, ch, Al, Ah, hk, hm, rfl, hol, hoh, hap, h5, h4, hb, hs⟩ := hrel
    have HM := Lib.hid hm
    clear hm hb0 g4 g5
    by_cases hkn : k < n
    · obtain ⟨bA, offA, hA, hbAw, -⟩ := hR (by omega)
      subst hA
      have hi1 : (0 : Int) ≤ (k : Int) + 1 := by omega
      have hi2 : (k : Int) + 1 ≤ c := by omega
      have hi3 : ((k : Int) + 1).toNat = k + 1 := by omega
      obtain ⟨i0, hi, hz0, hz1, hz2⟩ := info_parts info3n
      obtain ⟨C0, hC0⟩ : ∃ C : World → Prop, C = fun w' => w'.cell? ⟨G5, 0, none⟩ = some (.slice Al k cl) := ⟨_, rfl⟩
      obtain ⟨C1, hC1⟩ : ∃ C : World → Prop, C = fun w' => w'.cell? ⟨G5, 1, none⟩ = some (.slice Ah k ch) := ⟨_, rfl⟩
      have lift : ∀ w', w'.heap[G5]? = some (.cells #[.slice Al k cl, .slice Ah k ch] 95 (0, 0)) → ∀ listed, held [(8, C0), (17, C1)] listed w' := fun w' h listed p hp _ => by
        simp only [List.mem_cons, List.not_mem_nil, or_false] at hp
        rcases hp with rfl | rfl
        · rw [hC0]; exact cell_of_block h 0
        · rw [hC1]; exact cell_of_block h 1
      have HS := lift wr.drew h5 (Array.replicate 22 false)
      have l5 : G5 < wr.heap.size := Nat.lt_of_lt_of_le q5 hs
      have hRw : RowsAt wr.drew wr.drew.heap.size 3 (some ⟨bA, offA, none⟩) (k + 1) fun i => (f i).cells := ((hR.below hb.drew (Nat.le_refl _)).more hb.size).less (by omega)
      have ol0 := Own.below hol ((Below.refl _ _).drew)
      have oh0 := Own.below hoh ((Below.refl _ _).drew)
      have g50 : wr.drew.heap[G5]? = some (.cells #[.slice Al k cl, .slice Ah k ch] 95 (0, 0)) := h5
      have g40 : wr.drew.heap[G4]? = some (.cells #[.slice none 0 0, .slice none 0 0] 95 (0, 0)) := h4
      have hbd : Below w.heap.size w wr.drew := hb.drew
      have hsd : w3.heap.size ≤ wr.drew.heap.size := hs
      have hl2 : ((List.range k).map L1 ++ [L1 k]).length = k + 1 := by simp
      have hl3 : ((List.range k).map L2 ++ [L2 k]).length = k + 1 := by simp
      have done : ∀ (listed : Array Bool) w', listed.getD 8 true = true → listed.getD 17 true = true → held [(8, C0), (17, C1)] listed w' := fun listed w' e1 e2 p hp hl => by
        simp only [List.mem_cons, List.not_mem_nil, or_false] at hp
        rcases hp with rfl | rfl
        · rw [e1] at hl; cases hl
        · rw [e2] at hl; cases hl
      have HRB : Hid (w3.heap.size ≤ bA → False) := Lib.hid (fun hle => by have := hbAw; omega)
      have HC0 := Lib.hid hC0
      have HC1 := Lib.hid hC1
      clear hC0 hC1
      go_wp2_with fail
      refine wp_region_heldT [(8, C0), (17, C1)] (by kernel_rfl) ?_
      rw [show ∀ l : List Oper, l.toArray.size = l.length from fun _ => rfl]
      simp only [List.length_cons, List.length_nil, Nat.reduceAdd]
      clear hol hoh h5 h4 hs hb
      generalize wr.drew = W0 at *
      refine hT_on (i := 0) (d := (some 13)) (v := ?_) (a' := ?_) (by kernel_rfl) (by kernel_rfl) (by kernel_rfl) (by kernel_rfl) (by kernel_rfl) (fun _ _ _ h => h) HS ?_ ?_ ?_
      rotate_left 2
      · (intro o ho w'; simp only [List.getElem?_toArray, List.getElem?_cons_zero, Option.some.injEq] at ho; subst ho; go_simp; try with_reducible rfl)
      · (simp only [Act.put, List.setIfInBounds_toArray, List.set_cons_succ, List.set_cons_zero]; rfl)
      clear HS; intro HS
      refine hT_ld (i := 1) (m := 8) (C := C0) (d := (some 14)) (v := ?_) (a' := ?_) (by kernel_rfl) (by kernel_rfl) (by kernel_rfl) (by kernel_rfl) (by kernel_rfl) (by kernel_rfl) (by simp) (by kernel_rfl) (fun _ _ _ h => h) HS ?_ ?_ ?_
      rotate_left 2
      · (intro o ho w' hC; rw [HC0.out] at hC; simp only [List.getElem?_toArray, List.getElem?_cons_succ, List.getElem?_cons_zero, Option.some.injEq] at ho; subst ho; (try dsimp only at hC); go_simp; try with_reducible rfl)
      · (simp only [Act.put, List.setIfInBounds_toArray, List.set_cons_succ, List.set_cons_zero]; rfl)
      clear HS; intro HS
      refine hT_on (i := 2) (d := (some 15)) (v := ?_) (a' := ?_) (by kernel_rfl) (by kernel_rfl) (by kernel_rfl) (by kernel_rfl) (by kernel_rfl) (fun _ _ _ h => h) HS ?_ ?_ ?_
      rotate_left 2
      · (intro o ho w'; simp only [List.getElem?_toArray, List.getElem?_cons_succ, List.getElem?_cons_zero, Option.some.injEq] at ho; subst ho; go_simp; try with_reducible rfl)
      · (simp only [Act.put, List.setIfInBounds_toArray, List.set_cons_succ, List.set_cons_zero]; rfl)
      clear HS; intro HS
      refine hT_on (i := 3) (d := (some 16)) (v := ?_) (a' := ?_) (by kernel_rfl) (by kernel_rfl) (by kernel_rfl) (by kernel_rfl) (by kernel_rfl) (fun _ _ _ h => h) HS ?_ ?_ ?_
      rotate_left 2
      · (intro o ho w'; simp only [List.getElem?_toArray, List.getElem?_cons_succ, List.getElem?_cons_zero, Option.some.injEq] at ho; subst ho; go_simp; try with_reducible rfl)
      · (simp only [Act.put, List.setIfInBounds_toArray, List.set_cons_succ, List.set_cons_zero]; rfl)
      clear HS; intro HS
      refine hT_on (i := 4) (d := (some 17)) (v := ?_) (a' := ?_) (by kernel_rfl) (by kernel_rfl) (by kernel_rfl) (by kernel_rfl) (by kernel_rfl) (fun _ _ _ h => h) HS ?_ ?_ ?_
      rotate_left 2
      · (intro o ho w'; simp only [List.getElem?_toArray, List.getElem?_cons_succ, List.getElem?_cons_zero, Option.some.injEq] at ho; subst ho; go_simp; try with_reducible rfl)
      · (simp only [Act.put, List.setIfInBounds_toArray, List.set_cons_succ, List.set_cons_zero]; rfl)
      clear HS; intro HS
      refine hT_on (i := 5) (d := (some 18)) (v := ?_) (a' := ?_) (by kernel_rfl) (by kernel_rfl) (by kernel_rfl) (by kernel_rfl) (by kernel_rfl) (fun _ _ _ h => h) HS ?_ ?_ ?_
      rotate_left 2
      · (intro o ho w'; simp only [List.getElem?_toArray, List.getElem?_cons_succ, List.getElem?_cons_zero, Option.some.injEq] at ho; subst ho; go_simp; try with_reducible rfl)
      · (simp only [Act.put, List.setIfInBounds_toArray, List.set_cons_succ, List.set_cons_zero]; rfl)
      clear HS; intro HS
      refine hT_on (i := 9) (d := (some 22)) (v := ?_) (a' := ?_) (by kernel_rfl) (by kernel_rfl) (by kernel_rfl) (by kernel_rfl) (by kernel_rfl) (fun _ _ _ h => h) HS ?_ ?_ ?_
      rotate_left 2
      · (intro o ho w'; simp only [List.getElem?_toArray, List.getElem?_cons_succ, List.getElem?_cons_zero, Option.some.injEq] at ho; subst ho; go_simp; try with_reducible rfl)
      · (simp only [Act.put, List.setIfInBounds_toArray, List.set_cons_succ, List.set_cons_zero]; rfl)
      clear HS; intro HS
      refine hT_ld (i := 10) (m := 17) (C := C1) (d := (some 23)) (v := ?_) (a' := ?_) (by kernel_rfl) (by kernel_rfl) (by kernel_rfl) (by kernel_rfl) (by kernel_rfl) (by kernel_rfl) (by simp) (by kernel_rfl) (fun _ _ _ h => h) HS ?_ ?_ ?_
      rotate_left 2
      · (intro o ho w' hC; rw [HC1.out] at hC; simp only [List.getElem?_toArray, List.getElem?_cons_succ, List.getElem?_cons_zero, Option.some.injEq] at ho; subst ho; (try dsimp only at hC); go_simp; try with_reducible rfl)
      · (simp only [Act.put, List.setIfInBounds_toArray, List.set_cons_succ, List.set_cons_zero]; rfl)
      clear HS; intro HS
      refine hT_on (i := 11) (d := (some 24)) (v := ?_) (a' := ?_) (by kernel_rfl) (by kernel_rfl) (by kernel_rfl) (by kernel_rfl) (by kernel_rfl) (fun _ _ _ h => h) HS ?_ ?_ ?_
      rotate_left 2
      · (intro o ho w'; simp only [List.getElem?_toArray, List.getElem?_cons_succ, List.getElem?_cons_zero, Option.some.injEq] at ho; subst ho; go_simp; try with_reducible rfl)
      · (simp only [Act.put, List.setIfInBounds_toArray, List.set_cons_succ, List.set_cons_zero]; rfl)
      clear HS; intro HS
      refine hT_on (i := 12) (d := (some 25)) (v := ?_) (a' := ?_) (by kernel_rfl) (by kernel_rfl) (by kernel_rfl) (by kernel_rfl) (by kernel_rfl) (fun _ _ _ h => h) HS ?_ ?_ ?_
      rotate_left 2
      · (intro o ho w'; simp only [List.getElem?_toArray, List.getElem?_cons_succ, List.getElem?_cons_zero, Option.some.injEq] at ho; subst ho; go_simp; try with_reducible rfl)
      · (simp only [Act.put, List.setIfInBounds_toArray, List.set_cons_succ, List.set_cons_zero]; rfl)
      clear HS; intro HS
      refine hT_on (i := 13) (d := (some 26)) (v := ?_) (a' := ?_) (by kernel_rfl) (by kernel_rfl) (by kernel_rfl) (by kernel_rfl) (by kernel_rfl) (fun _ _ _ h => h) HS ?_ ?_ ?_
      rotate_left 2
      · (intro o ho w'; simp only [List.getElem?_toArray, List.getElem?_cons_succ, List.getElem?_cons_zero, Option.some.injEq] at ho; subst ho; go_simp; try with_reducible rfl)
      · (simp only [Act.put, List.setIfInBounds_toArray, List.set_cons_succ, List.set_cons_zero]; rfl)
      clear HS; intro HS
      refine hT_on (i := 14) (d := (some 27)) (v := ?_) (a' := ?_) (by kernel_rfl) (by kernel_rfl) (by kernel_rfl) (by kernel_rfl) (by kernel_rfl) (fun _ _ _ h => h) HS ?_ ?_ ?_
      rotate_left 2
      · (intro o ho w'; simp only [List.getElem?_toArray, List.getElem?_cons_succ, List.getElem?_cons_zero, Option.some.injEq] at ho; subst ho; go_simp; try with_reducible rfl)
      · (simp only [Act.put, List.setIfInBounds_toArray, List.set_cons_succ, List.set_cons_zero]; rfl)
      clear HS; intro HS
      refine hT_one (i := 6) (by kernel_rfl) (fun o ho K hK => ?_)
      simp only [List.getElem?_toArray, List.getElem?_cons_succ, List.getElem?_cons_zero, Option.some.injEq] at ho; subst ho
      go_simp
      go_at_call 69
      refine (HL1.out k _ (by omega) hRw).mono ?_
      rintro e w6 ⟨rfl, hq⟩
      replace hRw := (hRw.below hq (Nat.le_refl _)).more hq.size
      replace g50 := blk_kept hq g50
      replace g40 := blk_kept hq g40
      replace ol0 := Own.below ol0 hq
      replace oh0 := Own.below oh0 hq
      replace hbd := below_trans' hbd hbd.size hq
      replace hsd := Nat.le_trans hsd hq.size
      clear hq
      refine hK.out _ _ ?_ (fun HS' => ?_)
      · exact lift w6 g50 _
      clear hK K HS; have HS := HS'; clear HS'
      (try simp only [Act.put, List.setIfInBounds_toArray, List.set_cons_zero, List.set_cons_succ])
      refine hT_one (i := 7) (by kernel_rfl) (fun o ho K hK => ?_)
      simp only [List.getElem?_toArray, List.getElem?_cons_succ, List.getElem?_cons_zero, Option.some.injEq] at ho; subst ho
      go_simp
      have hq := (Below.refl w6.heap.size w6).alloc (Nat.le_refl _) (.cells #[.int .i64 (L1 k)] 3)
      have nn := heap_alloc_new w6 (.cells #[.int .i64 (L1 k)] 3)
      replace hRw := (hRw.below hq (Nat.le_refl _)).more hq.size
      replace g50 := blk_kept hq g50
      replace g40 := blk_kept hq g40
      replace ol0 := Own.below ol0 hq
      replace oh0 := Own.below oh0 hq
      replace hbd := below_trans' hbd hbd.size hq
      replace hsd := Nat.le_trans hsd hq.size
      clear hq
      refine hK.out _ _ ?_ (fun HS' => ?_)
      · exact lift (w6.alloc (.cells #[.int .i64 (L1 k)] 3)) g50 _
      clear hK K HS; have HS := HS'; clear HS'
      (try simp only [Act.put, List.setIfInBounds_toArray, List.set_cons_zero, List.set_cons_succ])
      refine hT_one (i := 8) (by kernel_rfl) (fun o ho K hK => ?_)
      simp only [List.getElem?_toArray, List.getElem?_cons_succ, List.getElem?_cons_zero, Option.some.injEq] at ho; subst ho
      generalize w6.alloc (.cells #[.int .i64 (L1 k)] 3) = w7 at *
      generalize w6.heap.size = N7 at *
      have hnw : ∀ j u, ([.int .i64 (L1 k)] : List Value)[j]? = some u → w7.cell? ((⟨N7, 0, none⟩ : Addr).add j) = some u := fun j u hu => by
        rw [Go.WideShapes.add_plain, Nat.zero_add, cell_of_block nn, List.getElem?_toArray]
        exact hu
      have hown : w7.ownsRow w3.heap.size 3 1 (.slice Al k cl) k (((List.range k).map L1).flatMap intC) := by
        have h := ol0
        unfold Own at h
        rwa [show ((List.range k).map L1).length = k by simp] at h
      obtain ⟨v21, w8, hr8, ho8, hg8, -, hbl8⟩ := run_append_own_at (P := Try.prog) w7 w3.heap.size 44 44 3 i0 _ 1 8 Try.underlying44 hi hz0 hz1 hz2 rfl (by omega) (.slice Al k cl) k (((List.range k).map L1).flatMap intC) hown ⟨N7, 0, none⟩ 1 1 [.int .i64 (L1 k)] rfl hnw (fun u hu => by rw [List.mem_singleton] at hu; subst hu; rfl) (by unfold maxLen; omega) (by omega) hsd
      have on1 : Own intC 3 1 w8 w3.heap.size v21 ((List.range k).map L1 ++ [L1 k]) := Own.snoc (c := intC) (by rw [show ((List.range k).map L1).length = k by simp]; exact ho8)
      obtain ⟨A1, c1, he, -⟩ := Own.shape on1
      rw [hl2] at he
      subst he
      have hge : ∀ q, (Value.slice Al k cl).ownBlock = some q → w3.heap.size ≤ q := fun q hq => (Own.lt ol0 hq).2
      have ap1 : ∀ q, (Value.slice A1 (k + 1) c1).ownBlock = some q → (Value.slice Ah k ch).ownBlock ≠ some q := fun q hq hq2 => by
        rcases hbl8 with hbl8 | hbl8
        · exact hap q (hbl8.symm.trans hq) hq2
        · have := (Own.lt oh0 hq2).1
          rw [hq] at hbl8
          injection hbl8 with hbl8
          omega
      replace oh0 : Own intC 3 1 w8 w3.heap.size (.slice Ah k ch) ((List.range k).map L2) := World.ownsRow.kept oh0 hg8 (by
          cases hq : (Value.slice Ah k ch).ownBlock with
          | none => exact .inl rfl
          | some q => exact .inr (fun e => hap q e.symm hq))
      replace g50 := (hg8.block G5 (lt_of_blk g50) (fun e => by have := hge G5 e.symm; omega)).trans g50
      replace g40 := (hg8.block G4 (lt_of_blk g40) (fun e => by have := hge G4 e.symm; omega)).trans g40
      replace hbd := hbd.grown hg8 hbd.size (fun q hq => Nat.le_trans hbs (hge q hq))
      replace hRw := RowsAt.grown hRw hg8 (fun e => HRB.out (hge _ e))
      replace hsd := Nat.le_trans hsd hg8.size
      refine oper_app (v := .slice A1 (k + 1) c1) (w' := w8) #[.slice Al k cl, .slice (some ⟨N7, 0, none⟩) 1 1] rfl hr8 ?_ _ rfl
      clear hr8 ho8 hown hnw hge nn ol0
      refine hK.out _ _ ?_ (fun HS' => ?_)
      · exact lift w8 g50 _
      clear hK K HS; have HS := HS'; clear HS'
      (try simp only [Act.put, List.setIfInBounds_toArray, List.set_cons_zero, List.set_cons_succ])
      refine hT_on (i := 18) (d := (some 31)) (v := ?_) (a' := ?_) (by kernel_rfl) (by kernel_rfl) (by kernel_rfl) (by kernel_rfl) (by kernel_rfl) (fun _ _ _ h => h) HS ?_ ?_ ?_
      rotate_left 2
      · (intro o ho w'; simp only [List.getElem?_toArray, List.getElem?_cons_succ, List.getElem?_cons_zero, Option.some.injEq] at ho; subst ho; go_simp; try with_reducible rfl)
      · (simp only [Act.put, List.setIfInBounds_toArray, List.set_cons_succ, List.set_cons_zero]; rfl)
      clear HS; intro HS
      refine hT_one (i := 15) (by kernel_rfl) (fun o ho K hK => ?_)
      simp only [List.getElem?_toArray, List.getElem?_cons_succ, List.getElem?_cons_zero, Option.some.injEq] at ho; subst ho
      go_simp
      go_at_call 71
      refine (HL2.out k _ (by omega) hRw).mono ?_
      rintro e w9 ⟨rfl, hq⟩
      replace hRw := (hRw.below hq (Nat.le_refl _)).more hq.size
      replace g50 := blk_kept hq g50
      replace g40 := blk_kept hq g40
      replace on1 := Own.below on1 hq
      replace oh0 := Own.below oh0 hq
      replace hbd := below_trans' hbd hbd.size hq
      replace hsd := Nat.le_trans hsd hq.size
      clear hq
      refine hK.out _ _ ?_ (fun HS' => ?_)
      · exact lift w9 g50 _
      clear hK K HS; have HS := HS'; clear HS'
      (try simp only [Act.put, List.setIfInBounds_toArray, List.set_cons_zero, List.set_cons_succ])
      refine hT_one (i := 16) (by kernel_rfl) (fun o ho K hK => ?_)
      simp only [List.getElem?_toArray, List.getElem?_cons_succ, List.getElem?_cons_zero, Option.some.injEq] at ho; subst ho
      go_simp
      have hq := (Below.refl w9.heap.size w9).alloc (Nat.le_refl _) (.cells #[.int .i64 (L2 k)] 3)
      have nn := heap_alloc_new w9 (.cells #[.int .i64 (L2 k)] 3)
      replace hRw := (hRw.below hq (Nat.le_refl _)).more hq.size
      replace g50 := blk_kept hq g50
      replace g40 := blk_kept hq g40
      replace on1 := Own.below on1 hq
      replace oh0 := Own.below oh0 hq
      replace hbd := below_trans' hbd hbd.size hq
      replace hsd := Nat.le_trans hsd hq.size
      clear hq
      refine hK.out _ _ ?_ (fun HS' => ?_)
      · exact lift (w9.alloc (.cells #[.int .i64 (L2 k)] 3)) g50 _
      clear hK K HS; have HS := HS'; clear HS'
      (try simp only [Act.put, List.setIfInBounds_toArray, List.set_cons_zero, List.set_cons_succ])
      refine hT_one (i := 17) (by kernel_rfl) (fun o ho K hK => ?_)
      simp only [List.getElem?_toArray, List.getElem?_cons_succ, List.getElem?_cons_zero, Option.some.injEq] at ho; subst ho
      generalize w9.alloc (.cells #[.int .i64 (L2 k)] 3) = w10 at *
      generalize w9.heap.size = N10 at *
      have hnw : ∀ j u, ([.int .i64 (L2 k)] : List Value)[j]? = some u → w10.cell? ((⟨N10, 0, none⟩ : Addr).add j) = some u := fun j u hu => by
        rw [Go.WideShapes.add_plain, Nat.zero_add, cell_of_block nn, List.getElem?_toArray]
        exact hu
      have hown : w10.ownsRow w3.heap.size 3 1 (.slice Ah k ch) k (((List.range k).map L2).flatMap intC) := by
        have h := oh0
        unfold Own at h
        rwa [show ((List.range k).map L2).length = k by simp] at h
      obtain ⟨v30, w11, hr8, ho8, hg8, -, hbl8⟩ := run_append_own_at (P := Try.prog) w10 w3.heap.size 44 44 3 i0 _ 1 8 Try.underlying44 hi hz0 hz1 hz2 rfl (by omega) (.slice Ah k ch) k (((List.range k).map L2).flatMap intC) hown ⟨N10, 0, none⟩ 1 1 [.int .i64 (L2 k)] rfl hnw (fun u hu => by rw [List.mem_singleton] at hu; subst hu; rfl) (by unfold maxLen; omega) (by omega) hsd
      have on2 : Own intC 3 1 w11 w3.heap.size v30 ((List.range k).map L2 ++ [L2 k]) := Own.snoc (c := intC) (by rw [show ((List.range k).map L2).length = k by simp]; exact ho8)
      obtain ⟨A2, c2, he, -⟩ := Own.shape on2
      rw [hl3] at he
      subst he
      have hge : ∀ q, (Value.slice Ah k ch).ownBlock = some q → w3.heap.size ≤ q := fun q hq => (Own.lt oh0 hq).2
      have ap2 : ∀ q, (Value.slice A1 (k + 1) c1).ownBlock = some q → (Value.slice A2 (k + 1) c2).ownBlock ≠ some q := fun q hq hq2 => by
        rcases hbl8 with hbl8 | hbl8
        · exact ap1 q hq (hbl8.symm.trans hq2)
        · have := (Own.lt on1 hq).1
          rw [hq2] at hbl8
          injection hbl8 with hbl8
          omega
      replace on1 : Own intC 3 1 w11 w3.heap.size (.slice A1 (k + 1) c1) ((List.range k).map L1 ++ [L1 k]) := World.ownsRow.kept on1 hg8 (by
          cases hq : (Value.slice A1 (k + 1) c1).ownBlock with
          | none => exact .inl rfl
          | some q => exact .inr (fun e => ap1 q hq e.symm))
      replace g50 := (hg8.block G5 (lt_of_blk g50) (fun e => by have := hge G5 e.symm; omega)).trans g50
      replace g40 := (hg8.block G4 (lt_of_blk g40) (fun e => by have := hge G4 e.symm; omega)).trans g40
      replace hbd := hbd.grown hg8 hbd.size (fun q hq => Nat.le_trans hbs (hge q hq))
      replace hRw := RowsAt.grown hRw hg8 (fun e => HRB.out (hge _ e))
      replace hsd := Nat.le_trans hsd hg8.size
      refine oper_app (v := .slice A2 (k + 1) c2) (w' := w11) #[.slice Ah k ch, .slice (some ⟨N10, 0, none⟩) 1 1] rfl hr8 ?_ _ rfl
      clear hr8 ho8 hown hnw hge nn oh0
      refine hK.out _ _ ?_ (fun HS' => ?_)
      · exact done _ _ (by kernel_rfl) (by kernel_rfl)
      clear hK K HS; have HS := HS'; clear HS'
      (try simp only [Act.put, List.setIfInBounds_toArray, List.set_cons_zero, List.set_cons_succ])
      refine hT_one (i := 19) (by kernel_rfl) (fun o ho K hK => ?_)
      simp only [List.getElem?_toArray, List.getElem?_cons_succ, List.getElem?_cons_zero, Option.some.injEq] at ho; subst ho
      have y0 := cell_of_block g50 0
      have y1 := cell_of_block g50 1
      have f0 := free_of_block g50
      simp only [List.getElem?_toArray, List.getElem?_cons_zero, List.getElem?_cons_succ] at y0 y1
      go_simp
      refine hK.out _ _ ?_ (fun HS' => ?_)
      · exact done _ _ (by kernel_rfl) (by kernel_rfl)
      clear hK K HS; have HS := HS'; clear HS'
      (try simp only [Act.put, List.setIfInBounds_toArray, List.set_cons_zero, List.set_cons_succ])
      refine hT_on (i := 20) (d := (some 32)) (v := ?_) (a' := ?_) (by kernel_rfl) (by kernel_rfl) (by kernel_rfl) (by kernel_rfl) (by kernel_rfl) (fun _ _ _ h => h) HS ?_ ?_ ?_
      rotate_left 2
      · (intro o ho w'; simp only [List.getElem?_toArray, List.getElem?_cons_succ, List.getElem?_cons_zero, Option.some.injEq] at ho; subst ho; go_simp; try with_reducible rfl)
      · (simp only [Act.put, List.setIfInBounds_toArray, List.set_cons_succ, List.set_cons_zero]; rfl)
      clear HS; intro HS
      refine hT_one (i := 21) (by kernel_rfl) (fun o ho K hK => ?_)
      simp only [List.getElem?_toArray, List.getElem?_cons_succ, List.getElem?_cons_zero, Option.some.injEq] at ho; subst ho
      have j0 := block_set g50 0 (.slice A1 (k + 1) c1)
      have f0 := free_of_block j0
      have y1 := cell_of_block j0 1
      clear y0
      go_simp
      refine hK.out _ _ ?_ (fun HS' => ?_)
      · exact done _ _ (by kernel_rfl) (by kernel_rfl)
      clear hK K HS; have HS := HS'; clear HS'
      (try simp only [Act.put, List.setIfInBounds_toArray, List.set_cons_zero, List.set_cons_succ])
      refine held_done (by kernel_rfl) ?_ _
      have hset : w11.grownBy ((w11.setCell ⟨G5, 0, none⟩ (.slice A1 (k + 1) c1)).setCell ⟨G5, 1, none⟩ (.slice A2 (k + 1) c2)) (some G5) := only_setCell (p := ⟨G5, 1, none⟩) (only_setCell (p := ⟨G5, 0, none⟩) (only_refl _ _) (.inl rfl) _) (.inl rfl) _
      have j5 : ((w11.setCell ⟨G5, 0, none⟩ (.slice A1 (k + 1) c1)).setCell ⟨G5, 1, none⟩ (.slice A2 (k + 1) c2)).heap[G5]? = some (.cells #[.slice A1 (k + 1) c1, .slice A2 (k + 1) c2] 95 (0, 0)) := block_set (block_set g50 0 _) 1 _
      have j4 := (hset.block G4 (lt_of_blk g40) (by simp; omega)).trans g40
      have jo1 := Own.only on1 hset q5
      have jo2 := Own.only on2 hset q5
      have jb : Below w.heap.size w ((w11.setCell ⟨G5, 0, none⟩ (.slice A1 (k + 1) c1)).setCell ⟨G5, 1, none⟩ (.slice A2 (k + 1) c2)) := (hbd.setCell hw5 _).setCell hw5 _
      have js : w3.heap.size ≤ ((w11.setCell ⟨G5, 0, none⟩ (.slice A1 (k + 1) c1)).setCell ⟨G5, 1, none⟩ (.slice A2 (k + 1) c2)).heap.size := Nat.le_trans hsd hset.size
      clear g50 g40 on1 on2 hbd hsd hset
      go_wp2_with fail
      go_roundg (n - (k + 1))
      case measure => have := HM.out; omega
      case rel => exact ⟨k + 1, c1, c2, A1, A2, by omega, rfl, by go_num, by rw [List.range_succ, List.map_append]; exact jo1, by rw [List.range_succ, List.map_append]; exact jo2, ap2, j5, j4, jb, js⟩
    · obtain rfl : k = n := by omega
      have y0 := cell_of_block h5 0
      have y1 := cell_of_block h5 1
      have x0 := cell_of_block h4 0
      have x1 := cell_of_block h4 1
      have e0 := free_of_block h4 0
      have e1 := free_of_block h4 1
      simp only [List.getElem?_toArray, List.getElem?_cons_zero, List.getElem?_cons_succ] at y0 y1 x0 x1
      have hset : wr.grownBy ((wr.setCell ⟨G4, 0, none⟩ (.slice Al k cl)).setCell ⟨G4, 1, none⟩ (.slice Ah k ch)) (some G4) := only_setCell (p := ⟨G4, 1, none⟩) (only_setCell (p := ⟨G4, 0, none⟩) (only_refl _ _) (.inl rfl) _) (.inl rfl) _
      have g4' : ((wr.setCell ⟨G4, 0, none⟩ (.slice Al k cl)).setCell ⟨G4, 1, none⟩ (.slice Ah k ch)).heap[G4]? = some (.cells #[.slice Al k cl, .slice Ah k ch] 95 (0, 0)) := block_set (block_set h4 0 _) 1 _
      have t0 := cell_of_block g4' 0
      have t1 := cell_of_block g4' 1
      simp only [List.getElem?_toArray, List.getElem?_cons_zero, List.getElem?_cons_succ] at t0 t1
      have hfin : Below w.heap.size w ((wr.setCell ⟨G4, 0, none⟩ (.slice Al k cl)).setCell ⟨G4, 1, none⟩ (.slice Ah k ch)) := (hb.setCell hw4 _).setCell hw4 _
      have r1 := Own.mono (Own.only hol hset q4) hbs
      have r2 := Own.mono (Own.only hoh hset q4) hbs
      clear hset g4' h4 h5
      go_wp2_with fail
      exact bodyPost_ret (v := .agg #[.slice Al k cl, .slice Ah k ch]) (by simp [results, Try.results73, go_sem, t0, t1]) rfl ⟨_, _, rfl, r1, r2, hfin⟩
end Go.Proofs.Ytgonighpjpfmnaa
