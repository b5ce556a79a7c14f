/- The contracts of the two functions All and what they call. -/
import Derived.Test.YtgonighpjpfmnaaAwake39
namespace Go.Proofs.Ytgonighpjpfmnaa
open Go.RowKit

structure Wt where
  ver : Int
  con : Int
  tre : Int
def Wt.cells (x : Wt) : List Value := [.int .i64 x.ver, .int .i64 x.con, .int .i64 x.tre]
instance : Inhabited Wt := ⟨⟨0, 0, 0⟩⟩

def findW (g : Nat → Wt) (ver : Int) : Nat → Option Wt
  | 0 => none
  | m + 1 => match findW g ver m with
    | some x => some x
    | none => if (g m).ver = ver then some (g m) else none

def scrOf : Option (Int × Int × Int) → List Scr
  | some (a, b, c) => [⟨a, b, c⟩]
  | none => []
def scoreAt (f : Nat → Smp) (n : Nat) (g : Nat → Wt) (m : Nat) (cap : Int) (adj : Bool) (k : Nat) : List Scr :=
  match findW g (f k).version m with
  | some x => scrOf (ofR f n k x.con x.tre cap adj)
  | none => []
def allR (f : Nat → Smp) (n : Nat) (g : Nat → Wt) (m : Nat) (cap : Int) (adj : Bool) : Nat → List Scr
  | 0 => []
  | k + 1 => allR f n g m cap adj k ++ scoreAt f n g m cap adj k

theorem scrOf_len (r : Option (Int × Int × Int)) : (scrOf r).length ≤ 1 := by cases r <;> simp [scrOf]
theorem allR_len (f : Nat → Smp) (n : Nat) (g : Nat → Wt) (m : Nat) (cap : Int) (adj : Bool) (k : Nat) : (allR f n g m cap adj k).length ≤ k := by
  induction k with
  | zero => simp [allR]
  | succ k ih =>
    have : (scoreAt f n g m cap adj k).length ≤ 1 := by unfold scoreAt; split; exact scrOf_len _; simp
    simp only [allR, List.length_append]; omega

theorem findW_stay {g : Nat → Wt} {ver : Int} {j : Nat} {x : Wt} (h : findW g ver j = some x) : ∀ m, j ≤ m → findW g ver m = some x
  | 0, hm => by obtain rfl : j = 0 := by omega
                exact h
  | m + 1, hm => by
    by_cases e : j = m + 1
    · subst e; exact h
    · simp only [findW, findW_stay h m (by omega)]

def AllPost (L : List Scr) (w : World) (e : Ending) (w' : World) : Prop := ∃ v, e = .returned v ∧ OwnScr w' w.heap.size v L ∧ Below w.heap.size w w'

set_option maxRecDepth 100000 in
set_option maxHeartbeats 2000000 in
theorem all42 (A : Option Addr) (n cp : Nat) (f : Nat → Smp) (A' : Option Addr) (m cp' : Nat) (g : Nat → Wt) (cap : Int) (adj : Bool) (w : World) (hn : n ≤ 1048576) (hnc : n ≤ cp) (hm : m ≤ 1048576)
    (hR : RowsAt w w.heap.size 10 A n fun i => (f i).cells) (hin : InSmp f n) (hW : RowsAt w w.heap.size 3 A' m fun i => (g i).cells) :
    Calls Try.prog 42 #[.slice A n cp, .slice A' m cp', .int .i64 cap, .bool adj] w (AllPost (allR f n g m cap adj n) w) := by
  obtain ⟨i0, hi, hz0, hz1, hz2⟩ := info_parts info37
  go_enter Try.func42, Try.ntmps42
  go_wp2_with fail
  go_loopg [18, 9] n (fun mm i v wr => ∃ k : Nat, k ≤ n ∧ mm = n - k ∧ i = .int .i64 k ∧ OwnScr wr w.heap.size v (allR f n g m cap adj k) ∧ Below w.heap.size w wr)
  case atStart => exact ⟨0, by omega, by omega, rfl, Own.nil _ _ _ _ _, Below.refl _ _⟩
  case round =>
    obtain ⟨k, hk, hmm, rfl, hown, hb⟩ := hrel
    have HM := Lib.hid hmm
    clear hmm
    have hlen := allR_len f n g m cap adj k
    obtain ⟨L, hL⟩ : ∃ L, L = allR f n g m cap adj k := ⟨_, rfl⟩
    rw [← hL] at hown hlen
    have HL := Lib.hid hL
    clear hL
    obtain ⟨Av, cpv, rfl, hcap⟩ := Own.shape hown
    by_cases hlt : k < n
    · have hRr := (hR.below hb (Nat.le_refl _))
      obtain ⟨b, off, rfl, hbk, hcell⟩ := hRr (by omega)
      have g0 := hcell k hlt 0 _ rfl
      have g1 := hcell k hlt 1 _ rfl
      have g2 := hcell k hlt 2 _ rfl
      have g3 := hcell k hlt 3 _ rfl
      have g4 := hcell k hlt 4 _ rfl
      have g5 := hcell k hlt 5 _ rfl
      have g6 := hcell k hlt 6 _ rfl
      have g7 := hcell k hlt 7 _ rfl
      have g8 := hcell k hlt 8 _ rfl
      have g9 := hcell k hlt 9 _ rfl
      clear hcell
      simp only [Nat.add_zero] at g0
      go_wp2_with fail
      clear g0 g1 g2 g3 g4 g5 g6 g7 g8 g9
      have hx := heap_alloc_new wr (.cells (f k).cells.toArray 34)
      have hown1 : OwnScr (wr.alloc (.cells (f k).cells.toArray 34)) w.heap.size (.slice Av L.length cpv) L := Own.below hown ((Below.refl _ _).alloc (Nat.le_refl _) _)
      have hb1 := hb.alloc hb.size (.cells (f k).cells.toArray 34)
      obtain ⟨x, hxe⟩ : ∃ x, x = wr.heap.size := ⟨_, rfl⟩
      rw [← hxe] at hx
      have hxb : w.heap.size ≤ x := by have := hb.size; omega
      rw [← hxe]
      clear hxe
      change OwnScr (wr.alloc (.cells #[.string (f k).id, .string (f k).client, .int .i64 (f k).seq, .int .i64 (f k).time, .int .i64 (f k).arm, .int .i64 (f k).version, .int .i64 (f k).value, .int .i64 (f k).below, .int .i64 (f k).before, .bool (f k).mixed] 34)) w.heap.size (.slice Av L.length cpv) L at hown1
      change Below w.heap.size w (wr.alloc (.cells #[.string (f k).id, .string (f k).client, .int .i64 (f k).seq, .int .i64 (f k).time, .int .i64 (f k).arm, .int .i64 (f k).version, .int .i64 (f k).value, .int .i64 (f k).below, .int .i64 (f k).before, .bool (f k).mixed] 34)) at hb1
      change (wr.alloc (.cells #[.string (f k).id, .string (f k).client, .int .i64 (f k).seq, .int .i64 (f k).time, .int .i64 (f k).arm, .int .i64 (f k).version, .int .i64 (f k).value, .int .i64 (f k).below, .int .i64 (f k).before, .bool (f k).mixed] 34)).heap[x]? = some (.cells (f k).cells.toArray 34 (0, 0)) at hx
      generalize wr.alloc (.cells #[.string (f k).id, .string (f k).client, .int .i64 (f k).seq, .int .i64 (f k).time, .int .i64 (f k).arm, .int .i64 (f k).version, .int .i64 (f k).value, .int .i64 (f k).below, .int .i64 (f k).before, .bool (f k).mixed] 34) = w1 at *
      clear hown hb hRr hbk
      go_loopg [25, 9] m (fun mm i vv wi => ∃ j : Nat, j ≤ m ∧ mm = m - j ∧ i = .int .i64 j ∧ vv = .slice Av L.length cpv ∧ findW g (f k).version j = none ∧ OwnScr wi w.heap.size (.slice Av L.length cpv) L ∧ Below w.heap.size w wi ∧ wi.heap[x]? = some (.cells (f k).cells.toArray 34 (0, 0)))
      case atStart => exact ⟨0, by omega, by omega, rfl, rfl, rfl, hown1, hb1, hx⟩
      case round =>
        clear hown1 hb1 hx
        obtain ⟨j, hj, hmj, rfl, rfl, hfj, hown, hb, hx⟩ := hrel
        have HMJ := Lib.hid hmj
        have HFJ := Lib.hid hfj
        clear hmj hfj
        have fin : ∀ wi : World, OwnScr wi w.heap.size (.slice Av L.length cpv) L → scoreAt f n g m cap adj k = [] → OwnScr wi w.heap.size (.slice Av L.length cpv) (allR f n g m cap adj (k + 1)) := fun wi ho he => by
          simp only [allR, he, List.append_nil]; rw [← HL.out]; exact ho
        by_cases hjm : j < m
        · have hWr := (hW.below hb (Nat.le_refl _))
          obtain ⟨b', off', rfl, hbk', hcw⟩ := hWr (by omega)
          have v0 := hcw j hjm 0 _ rfl
          have v1 := hcw j hjm 1 _ rfl
          have v2 := hcw j hjm 2 _ rfl
          clear hcw
          simp only [Nat.add_zero] at v0
          have x5 := cell_of_block hx 5
          simp only [Smp.cells, List.getElem?_toArray, List.getElem?_cons_zero, List.getElem?_cons_succ] at x5
          have hxz := lt_of_blk hx
          have hbz : b' < wr.heap.size := by have := hb.size; omega
          cases hv : ((g j).ver != (f k).version)
          · have hfind : findW g (f k).version m = some (g j) := findW_stay (j := j + 1) (by simp only [findW, HFJ.out]; rw [if_pos (by simpa [bne] using hv)]) m (by omega)
            have HF := Lib.hid hfind
            clear hfind
            go_wp2_with fail
            have hb2 := hb.alloc hb.size (.cells #[.int .i64 (g j).ver, .int .i64 (g j).con, .int .i64 (g j).tre] 42)
            have hown2 : OwnScr (wr.alloc (.cells #[.int .i64 (g j).ver, .int .i64 (g j).con, .int .i64 (g j).tre] 42)) w.heap.size (.slice Av L.length cpv) L := Own.below hown ((Below.refl _ _).alloc (Nat.le_refl _) _)
            clear v0 v1 v2 x5 hown hb hx hxz hbz hWr hbk'
            generalize wr.alloc (.cells #[.int .i64 (g j).ver, .int .i64 (g j).con, .int .i64 (g j).tre] 42) = w2 at *
            refine (of38 _ n cp f k (g j).ver (g j).con (g j).tre cap adj w2 hn hnc ((hR.below hb2 (Nat.le_refl _)).more hb2.size) hin).mono fun e w3 h => ?_
            cases hr : ofR f n k (g j).con (g j).tre cap adj with
            | none =>
              obtain ⟨rfl, hb3⟩ := h.none hr
              have hs : scoreAt f n g m cap adj k = [] := by unfold scoreAt; rw [HF.out]; simp only [hr, scrOf]
              have hown3 := Own.below hown2 hb3
              have hb4 := below_trans' hb2 hb2.size hb3
              have HS := Lib.hid hs
              clear hr hs h
              go_wp2_with fail
              go_roundg (n - (k + 1))
              case measure => have := HM.out; omega
              case rel => exact ⟨k + 1, by omega, rfl, by go_num, fin _ (Own.below hown3 ((Below.refl _ _).alloc (Nat.le_refl _) _)) HS.out, hb4.alloc hb4.size _⟩
            | some s =>
              obtain ⟨sa, sb, sc⟩ := s
              obtain ⟨rfl, hb3⟩ := h.some hr
              have hs : scoreAt f n g m cap adj k = [⟨sa, sb, sc⟩] := by unfold scoreAt; rw [HF.out]; simp only [hr, scrOf]
              have hown3 : OwnScr (w3.alloc (.cells #[.int .i64 sa, .int .i64 sb, .int .i64 sc] 37)) w.heap.size (.slice Av L.length cpv) L := Own.below (Own.below hown2 hb3) ((Below.refl _ _).alloc (Nat.le_refl _) _)
              have hb4 := below_trans' hb2 hb2.size hb3
              have hb5 := hb4.alloc hb4.size (.cells #[.int .i64 sa, .int .i64 sb, .int .i64 sc] 37)
              have HS := Lib.hid hs
              have hz5 : w.heap.size ≤ w3.heap.size := hb4.size
              clear hr hs h hb3 hown2 hb2 hb4
              go_wp2_with (at_builtin; refine wpList_append_lies _ (by rfl) (.tmp 45) (.tmp 47) 38 (by rfl) w.heap.size 37 i0 _ 3 24 Try.underlying38 hi hz0 hz1 hz2 rfl (by omega) _ _ _ (by rfl) (World.ownsRow.alloc hown3 _) ⟨w3.heap.size + 1, 0, none⟩ 1 1 [.int .i64 sa, .int .i64 sb, .int .i64 sc] (by rfl) (by rfl) (World.news_of_block (by have := heap_alloc_new (w3.alloc (.cells #[.int .i64 sa, .int .i64 sb, .int .i64 sc] 37)) (.cells #[.int .i64 sa, .int .i64 sb, .int .i64 sc] 37); simpa using this)) (by simp [Value.oneCell']) (by omega) (by unfold maxLen; omega) (by omega) (by simp; omega) (w3.heap.size + 2) (by simp) ?_; intro g' cap' w4 hown4 hgrow hat hlt4)
              have hb6 : Below w.heap.size w w4 := (hb5.alloc hb5.size _).grown hgrow (by simp; omega) (fun q hq => (World.ownsRow.lt hown3 q hq).1)
              have ho4 : OwnScr w4 w.heap.size (.slice (some ⟨g', 0, none⟩) (L.length + 1) cap') (allR f n g m cap adj (k + 1)) := by
                simp only [allR, HS.out]
                rw [← HL.out]
                have := Own.snoc (c := Scr.cells) (s := ⟨sa, sb, sc⟩) hown4
                exact this
              clear hown3 hown4 hgrow hat hb5
              go_roundg (n - (k + 1))
              case measure => have := HM.out; omega
              case rel => exact ⟨k + 1, by omega, rfl, by go_num, ho4, hb6⟩
          · have hver : (g j).ver ≠ (f k).version := by simpa [bne] using hv
            have hfind : findW g (f k).version (j + 1) = none := by simp only [findW, HFJ.out]; rw [if_neg hver]
            have HF := Lib.hid hfind
            clear hfind hver
            go_wp2_with fail
            go_roundg (m - (j + 1))
            case measure => have := HMJ.out; omega
            case rel => exact ⟨j + 1, by omega, rfl, by go_num, rfl, HF.out, Own.below hown ((Below.refl _ _).alloc (Nat.le_refl _) _), hb.alloc hb.size _, by rw [Below.heap_alloc _ _ _ hxz]; exact hx⟩
        · have hs : scoreAt f n g m cap adj k = [] := by
            unfold scoreAt; rw [show m = j by omega, HFJ.out]
          have HS := Lib.hid hs
          clear hs
          go_wp2_with fail
          go_roundg (n - (k + 1))
          case measure => have := HM.out; omega
          case rel => exact ⟨k + 1, by omega, rfl, by go_num, fin _ hown HS.out, hb⟩
    · obtain rfl : k = n := by omega
      go_wp2_with fail
      go_ret
      exact ⟨_, rfl, by rw [← HL.out]; exact hown, hb⟩
end Go.Proofs.Ytgonighpjpfmnaa
