/- The contract of flagstoneref39.All. -/
import Derived.Test.YtgonighpjpfmnaaScoreAll
namespace Go.Proofs.Ytgonighpjpfmnaa
open Go.RowKit

def WtPost (r : Option Wt) (w : World) (e : Ending) (w' : World) : Prop :=
  e = .returned (.tuple #[.agg #[.int .i64 (r.getD ⟨0, 0, 0⟩).ver, .int .i64 (r.getD ⟨0, 0, 0⟩).con, .int .i64 (r.getD ⟨0, 0, 0⟩).tre], .bool r.isSome]) ∧ Below w.heap.size w w'

theorem WtPost.some {r : Option Wt} {w w' : World} {e : Ending} {x : Wt} (h : WtPost r w e w') (hr : r = some x) : e = .returned (.tuple #[.agg #[.int .i64 x.ver, .int .i64 x.con, .int .i64 x.tre], .bool true]) ∧ Below w.heap.size w w' := by
  subst hr; exact h
theorem WtPost.none {r : Option Wt} {w w' : World} {e : Ending} (h : WtPost r w e w') (hr : r = none) : e = .returned (.tuple #[.agg #[.int .i64 0, .int .i64 0, .int .i64 0], .bool false]) ∧ Below w.heap.size w w' := by
  subst hr; exact h

set_option maxHeartbeats 1000000 in
theorem weights86 (A' : Option Addr) (m cp' : Nat) (g : Nat → Wt) (ver : Int) (w : World) (hm : m ≤ 1048576) (hW : RowsAt w w.heap.size 3 A' m fun i => (g i).cells) :
    Calls Try.prog 86 #[.slice A' m cp', .int .i64 ver] w (WtPost (findW g ver m) w) := by
  have hres := heap_alloc_new w (.cells #[.int .i64 0, .int .i64 0, .int .i64 0] 42)
  have hb0 : Below w.heap.size w (w.alloc (.cells #[.int .i64 0, .int .i64 0, .int .i64 0] 42)) := (Below.refl _ _).alloc (Nat.le_refl _) _
  have r0 := cell_of_block hres 0
  have r1 := cell_of_block hres 1
  have r2 := cell_of_block hres 2
  have rf := free_of_block hres
  have hRr := hW.below hb0 (Nat.le_refl _)
  simp only [List.getElem?_toArray, List.getElem?_cons_zero, List.getElem?_cons_succ] at r0 r1 r2
  go_enter Try.func86, Try.ntmps86
  go_wp2_with fail
  generalize w.alloc (.cells #[.int .i64 0, .int .i64 0, .int .i64 0] 42) = w1 at *
  clear hW hres
  go_loop [6] (fun i => ∃ j : Nat, j ≤ m ∧ i = .int .i64 j ∧ findW g ver j = none) (fun i => m - (intOf i).toNat)
  case atStart => exact ⟨0, Nat.zero_le _, rfl, rfl⟩
  case round =>
    obtain ⟨j, hj, rfl, hf⟩ := hrel
    have HF := Lib.hid hf
    clear hf
    by_cases hjm : j < m
    · obtain ⟨b, off, rfl, hbk, hcw⟩ := hRr (by omega)
      have v0 := hcw j hjm 0 _ rfl
      have v1 := hcw j hjm 1 _ rfl
      have v2 := hcw j hjm 2 _ rfl
      clear hcw
      simp only [Nat.add_zero] at v0
      cases hv : ((g j).ver == ver)
      · have hfind : findW g ver (j + 1) = none := by simp only [findW, HF.out]; rw [if_neg (by simpa using hv)]
        have HG := Lib.hid hfind
        clear hfind
        go_wp2_with fail
        go_round
        case rel => exact ⟨j + 1, by omega, by go_num, HG.out⟩
        case measure => simp [intOf]; omega
      · have hfind : findW g ver m = some (g j) := findW_stay (j := j + 1) (by simp only [findW, HF.out]; rw [if_pos (by simpa using hv)]) m (by omega)
        have HG := Lib.hid hfind
        clear hfind
        have hne : ¬ w.heap.size = b := by omega
        go_wp2_with fail
        exact bodyPost_ret (v := .tuple #[.agg #[.int .i64 (g j).ver, .int .i64 (g j).con, .int .i64 (g j).tre], .bool true]) (by simp [results, Try.results86, go_sem, r0, r1, r2]) rfl ⟨by rw [HG.out]; rfl, by repeat (first | exact hb0 | refine Below.setCell ?_ (by simp <;> omega) _)⟩
    · obtain rfl : j = m := by omega
      go_wp2_with fail
      exact bodyPost_ret (v := .tuple #[.agg #[.int .i64 0, .int .i64 0, .int .i64 0], .bool false]) (by simp [results, Try.results86, go_sem, r0, r1, r2]) rfl ⟨by rw [HF.out]; rfl, by repeat (first | exact hb0 | refine Below.setCell ?_ (by simp <;> omega) _)⟩

set_option maxRecDepth 100000 in
set_option maxHeartbeats 2000000 in
theorem all43 (A : Option Addr) (n cp : Nat) (f : Nat → Smp) (A' : Option Addr) (m cp' : Nat) (g : Nat → Wt) (cap : Int) (adj : Bool) (w : World) (hn : n ≤ 1048576) (hnc : n ≤ cp) (hm : m ≤ 1048576)
    (hR : RowsAt w w.heap.size 10 A n fun i => (f i).cells) (hin : InSmp f n) (hW : RowsAt w w.heap.size 3 A' m fun i => (g i).cells) :
    Calls Try.prog 43 #[.slice A n cp, .slice A' m cp', .int .i64 cap, .bool adj] w (AllPost (allR f n g m cap adj n) w) := by
  obtain ⟨i0, hi, hz0, hz1, hz2⟩ := info_parts info37
  go_enter Try.func43, Try.ntmps43
  go_wp2_with fail
  go_loopg [10, 9] n (fun mm i v wr => ∃ k : Nat, k ≤ n ∧ mm = n - k ∧ i = .int .i64 k ∧ OwnScr wr w.heap.size v (allR f n g m cap adj k) ∧ Below w.heap.size w wr)
  case atStart => exact ⟨0, by omega, by omega, rfl, Own.nil _ _ _ _ _, Below.refl _ _⟩
  case round =>
    obtain ⟨k, hk, hmm, rfl, hown, hb⟩ := hrel
    have HM := Lib.hid hmm
    clear hmm
    have hlen := allR_len f n g m cap adj k
    obtain ⟨L, hL⟩ : ∃ L, L = allR f n g m cap adj k := ⟨_, rfl⟩
    rw [← hL] at hown hlen
    have HL := Lib.hid hL
    clear hL
    obtain ⟨Av, cpv, rfl, hcap⟩ := Own.shape hown
    have fin : ∀ wi : World, OwnScr wi w.heap.size (.slice Av L.length cpv) L → scoreAt f n g m cap adj k = [] → OwnScr wi w.heap.size (.slice Av L.length cpv) (allR f n g m cap adj (k + 1)) := fun wi ho he => by
      simp only [allR, he, List.append_nil]; rw [← HL.out]; exact ho
    by_cases hlt : k < n
    · obtain ⟨b, off, rfl, hbk, hcell⟩ := hR.below hb (Nat.le_refl _) (by omega)
      have g5 := hcell k hlt 5 _ rfl
      clear hcell
      go_wp2_with fail
      refine (weights86 A' m cp' g (f k).version wr hm ((hW.below hb (Nat.le_refl _)).more hb.size)).mono fun e w1 h => ?_
      cases hf : findW g (f k).version m with
      | none =>
        obtain ⟨rfl, hb1⟩ := h.none hf
        have hs : scoreAt f n g m cap adj k = [] := by unfold scoreAt; rw [hf]
        have HS := Lib.hid hs
        have hown1 := Own.below hown hb1
        have hbb := below_trans' hb hb.size hb1
        clear hs hf h g5
        go_wp2_with fail
        go_roundg (n - (k + 1))
        case measure => have := HM.out; omega
        case rel => exact ⟨k + 1, by omega, rfl, by go_num, fin _ (Own.below hown1 ((Below.refl _ _).alloc (Nat.le_refl _) _)) HS.out, hbb.alloc hbb.size _⟩
      | some x =>
        obtain ⟨rfl, hb1⟩ := h.some hf
        have HF := Lib.hid hf
        have hown1 := Own.below hown hb1
        have hbb := below_trans' hb hb.size hb1
        clear hf h g5 hown
        have hb2 := hbb.alloc hbb.size (.cells #[.int .i64 x.ver, .int .i64 x.con, .int .i64 x.tre] 42)
        have hown2 : OwnScr (w1.alloc (.cells #[.int .i64 x.ver, .int .i64 x.con, .int .i64 x.tre] 42)) w.heap.size (.slice Av L.length cpv) L := Own.below hown1 ((Below.refl _ _).alloc (Nat.le_refl _) _)
        go_wp2_with fail
        clear hown1 hbb hb1 hb
        generalize w1.alloc (.cells #[.int .i64 x.ver, .int .i64 x.con, .int .i64 x.tre] 42) = w2 at *
        refine (of39 _ n cp f k x.ver x.con x.tre cap adj w2 hn hnc ((hR.below hb2 (Nat.le_refl _)).more hb2.size) hin).mono fun e w3 h => ?_
        cases hr : ofR f n k x.con x.tre cap adj with
        | none =>
          obtain ⟨rfl, hb3⟩ := h.none hr
          have hs : scoreAt f n g m cap adj k = [] := by unfold scoreAt; rw [HF.out]; simp only [hr, scrOf]
          have hown3 := Own.below hown2 hb3
          have hb4 := below_trans' hb2 hb2.size hb3
          have HS := Lib.hid hs
          clear hr hs h
          go_wp2_with fail
          go_roundg (n - (k + 1))
          case measure => have := HM.out; omega
          case rel => exact ⟨k + 1, by omega, rfl, by go_num, fin _ (Own.below hown3 ((Below.refl _ _).alloc (Nat.le_refl _) _)) HS.out, hb4.alloc hb4.size _⟩
        | some s =>
          obtain ⟨sa, sb, sc⟩ := s
          obtain ⟨rfl, hb3⟩ := h.some hr
          have hs : scoreAt f n g m cap adj k = [⟨sa, sb, sc⟩] := by unfold scoreAt; rw [HF.out]; simp only [hr, scrOf]
          have hown3 : OwnScr (w3.alloc (.cells #[.int .i64 sa, .int .i64 sb, .int .i64 sc] 37)) w.heap.size (.slice Av L.length cpv) L := Own.below (Own.below hown2 hb3) ((Below.refl _ _).alloc (Nat.le_refl _) _)
          have hb4 := below_trans' hb2 hb2.size hb3
          have hb5 := hb4.alloc hb4.size (.cells #[.int .i64 sa, .int .i64 sb, .int .i64 sc] 37)
          have HS := Lib.hid hs
          have hz5 : w.heap.size ≤ w3.heap.size := hb4.size
          clear hr hs h hb3 hown2 hb2 hb4
          go_wp2_with (at_builtin; refine wpList_append_lies _ (by rfl) (.tmp 44) (.tmp 46) 38 (by rfl) w.heap.size 37 i0 _ 3 24 Try.underlying38 hi hz0 hz1 hz2 rfl (by omega) _ _ _ (by rfl) (World.ownsRow.alloc hown3 _) ⟨w3.heap.size + 1, 0, none⟩ 1 1 [.int .i64 sa, .int .i64 sb, .int .i64 sc] (by rfl) (by rfl) (World.news_of_block (by have := heap_alloc_new (w3.alloc (.cells #[.int .i64 sa, .int .i64 sb, .int .i64 sc] 37)) (.cells #[.int .i64 sa, .int .i64 sb, .int .i64 sc] 37); simpa using this)) (by simp [Value.oneCell']) (by omega) (by unfold maxLen; omega) (by omega) (by simp; omega) (w3.heap.size + 2) (by simp) ?_; intro g' cap' w4 hown4 hgrow hat hlt4)
          have hb6 : Below w.heap.size w w4 := (hb5.alloc hb5.size _).grown hgrow (by simp; omega) (fun q hq => (World.ownsRow.lt hown3 q hq).1)
          have ho4 : OwnScr w4 w.heap.size (.slice (some ⟨g', 0, none⟩) (L.length + 1) cap') (allR f n g m cap adj (k + 1)) := by
            simp only [allR, HS.out]
            rw [← HL.out]
            exact Own.snoc (c := Scr.cells) (s := ⟨sa, sb, sc⟩) hown4
          clear hown3 hown4 hgrow hat hb5
          go_roundg (n - (k + 1))
          case measure => have := HM.out; omega
          case rel => exact ⟨k + 1, by omega, rfl, by go_num, ho4, hb6⟩
    · obtain rfl : k = n := by omega
      go_wp2_with fail
      go_ret
      exact ⟨_, rfl, by rw [← HL.out]; exact hown, hb⟩
end Go.Proofs.Ytgonighpjpfmnaa
