/- Contracts of the two functions Of (score, flagstoneref39). -/
import Derived.Test.YtgonighpjpfmnaaSamples
import Derived.Test.YtgonighpjpfmnaaScore2
import Derived.Deep.DeepCutAuto
namespace Go.Proofs.Ytgonighpjpfmnaa
open Go.RowKit

def okV (f : Nat → Smp) (cap : Int) : Nat → Bool
  | 0 => true
  | j + 1 => okV f cap j && (decide (0 ≤ (f j).value) && decide ((f j).value ≤ cap))

/-- What Of tells: num, unit, range. -/
def ofR (f : Nat → Smp) (n : Nat) (k c t cap : Int) (adj : Bool) : Option (Int × Int × Int) :=
  if 0 ≤ k ∧ k < n ∧ vldWI c t = true ∧ 1 ≤ cap ∧ cap ≤ 1048576 ∧ okV f cap (k.toNat + 1) = true then
    let p1 := if adj then predT f n k 1 cap else 0
    let p2 := if adj then predT f n k 2 cap else 0
    let y := (f k.toNat).value
    if (f k.toNat).arm = 1 then some (c * t * (p2 - p1) - (c + t) * t * (y - p1), c * t * cap, cap * (2 * (c * t) + (c + t) * max c t))
    else if (f k.toNat).arm = 2 then some (c * t * (p2 - p1) + (c + t) * c * (y - p2), c * t * cap, cap * (2 * (c * t) + (c + t) * max c t))
    else none
  else none

def scoreV (r : Option (Int × Int × Int)) : Value := match r with
  | some (a, b, c) => .agg #[.int .i64 a, .int .i64 b, .int .i64 c]
  | none => .agg #[.int .i64 0, .int .i64 0, .int .i64 0]

def OfPost (r : Option (Int × Int × Int)) (w : World) (e : Ending) (w' : World) : Prop := e = .returned (.tuple #[scoreV r, .bool r.isSome]) ∧ Below w.heap.size w w'

set_option maxRecDepth 100000 in
set_option maxHeartbeats 2000000 in
theorem of38_bad1 (A : Option Addr) (n cp : Nat) (k v c t cap : Int) (adj : Bool) (w : World) (_hn : n ≤ 1048576)
    (hbad : k < 0 ∨ n ≤ k ∨ vldWI c t = false ∨ cap < 1 ∨ 1048576 < cap) :
    Calls Try.prog 38 #[.slice A n cp, .int .i64 k, .agg #[.int .i64 v, .int .i64 c, .int .i64 t], .int .i64 cap, .bool adj] w (OfPost none w) := by
  by_cases h1 : k < 0
  · go_enter Try.func38, Try.ntmps38
    go_wp2_with fail
    exact bodyPost_ret (v := .tuple #[scoreV none, .bool false]) (by simp [results, Try.results38, go_sem, scoreV]) rfl ⟨rfl, by repeat (first | exact Below.refl _ _ | refine Below.alloc ?_ (by simp <;> omega) _ | refine Below.setCell ?_ (by simp <;> omega) _ | (refine below_trans ?_ (by assumption)))⟩
  by_cases h2 : (n : Int) ≤ k
  · go_enter Try.func38, Try.ntmps38
    go_wp2_with fail
    exact bodyPost_ret (v := .tuple #[scoreV none, .bool false]) (by simp [results, Try.results38, go_sem, scoreV]) rfl ⟨rfl, by repeat (first | exact Below.refl _ _ | refine Below.alloc ?_ (by simp <;> omega) _ | refine Below.setCell ?_ (by simp <;> omega) _ | (refine below_trans ?_ (by assumption)))⟩
  cases h3 : vldWI c t
  · go_enter Try.func38, Try.ntmps38
    go_wp2_with (go_at_call 83; refine (valid83 _ _ _).mono ?_; rintro e w1 ⟨rfl, hb⟩; obtain ⟨hc, hf⟩ := bcell hb; have hz := hb.size; simp only [World.size_alloc] at hz)
    exact bodyPost_ret (v := .tuple #[scoreV none, .bool false]) (by simp [results, Try.results38, go_sem, scoreV, hc]) rfl ⟨rfl, by repeat (first | exact Below.refl _ _ | refine Below.alloc ?_ (by simp <;> omega) _ | refine Below.setCell ?_ (by simp <;> omega) _ | (refine below_trans ?_ (by assumption)))⟩
  · have h4 : cap < 1 ∨ 1048576 < cap := by rcases hbad with h | h | h | h | h; omega; omega; rw [h3] at h; cases h; omega; omega
    clear hbad
    rcases h4 with h4 | h4
    all_goals
      go_enter Try.func38, Try.ntmps38
      go_wp2_with (go_at_call 83; refine (valid83 _ _ _).mono ?_; rintro e w1 ⟨rfl, hb⟩; obtain ⟨hc, hf⟩ := bcell hb; have hz := hb.size; simp only [World.size_alloc] at hz)
      exact bodyPost_ret (v := .tuple #[scoreV none, .bool false]) (by simp [results, Try.results38, go_sem, scoreV, hc]) rfl ⟨rfl, by repeat (first | exact Below.refl _ _ | refine Below.alloc ?_ (by simp <;> omega) _ | refine Below.setCell ?_ (by simp <;> omega) _ | (refine below_trans ?_ (by assumption)))⟩

theorem okV_mono {f : Nat → Smp} {cap : Int} {j : Nat} : ∀ k, j ≤ k → okV f cap k = true → okV f cap j = true
  | 0, h, hk => by obtain rfl : j = 0 := by omega
                   rfl
  | k + 1, h, hk => by
    by_cases e : j = k + 1
    · rw [e]; exact hk
    · simp only [okV, Bool.and_eq_true] at hk
      exact okV_mono k (by omega) hk.1
theorem okV_at {f : Nat → Smp} {cap : Int} {j k : Nat} (h : okV f cap k = true) (hj : j < k) : 0 ≤ (f j).value ∧ (f j).value ≤ cap := by
  have := okV_mono (j := j + 1) k (by omega) h
  simp only [okV, Bool.and_eq_true, decide_eq_true_eq] at this
  exact this.2

theorem predI_bd (f : Nat → Smp) (cap : Int) (k : Nat) (arm : Int) (h0 : 0 ≤ cap) (h : okV f cap k = true) : 0 ≤ predI f k arm cap ∧ predI f k arm cap ≤ cap := by
  have tot : ∀ s j, j ≤ k → 0 ≤ totS s f k arm j ∧ totS s f k arm j ≤ cap * cntS s f k arm j := by
    intro s j
    induction j with
    | zero => intro _; simp [totS, cntS]
    | succ j ih =>
      intro hj
      have h1 := ih (by omega)
      have h2 := okV_at h (show j < k by omega)
      simp only [totS, cntS]
      split
      · rw [Int.mul_add, Int.mul_one]; omega
      · simp; exact h1
  have q : ∀ s, 0 < cntS s f k arm k → 0 ≤ totS s f k arm k / cntS s f k arm k ∧ totS s f k arm k / cntS s f k arm k ≤ cap := fun s hs => by
    have := tot s k (Nat.le_refl _)
    exact ⟨Int.ediv_nonneg this.1 (by omega), Int.le_of_lt_add_one (Int.ediv_lt_of_lt_mul hs (by rw [Int.add_mul]; omega))⟩
  unfold predI
  split
  · exact q true (by assumption)
  · split
    · exact q false (by assumption)
    · omega

/-- What Of keeps in memory while it runs: the zero result, the weights. -/
structure OS (w : World) (c t : Int) (wr : World) : Prop where
  low : Below w.heap.size w wr
  res : wr.heap[w.heap.size + 1]? = some (.cells #[.int .i64 0, .int .i64 0, .int .i64 0] 37 (0, 0))
  wts : wr.heap[w.heap.size + 1 + 1]? = some (.cells #[.int .i64 c, .int .i64 t] 115 (0, 0))
theorem lt_of_blk {w : World} {g : Nat} {o : Obj} (h : w.heap[g]? = some o) : g < w.heap.size := (Array.getElem?_eq_some_iff.1 h).1
theorem OS.go {w : World} {c t : Int} {wr w' : World} (h : OS w c t wr) (hb : Below wr.heap.size wr w') : OS w c t w' :=
  ⟨below_trans h.low hb, by rw [hb.block _ (lt_of_blk h.res)]; exact h.res, by rw [hb.block _ (lt_of_blk h.wts)]; exact h.wts⟩
theorem OS.alloc {w : World} {c t : Int} {wr : World} (h : OS w c t wr) (o : Obj) : OS w c t (wr.alloc o) := h.go ((Below.refl _ _).alloc (Nat.le_refl _) _)
theorem OS.facts {w : World} {c t : Int} {wr : World} (h : OS w c t wr) : (wr.cell? ⟨w.heap.size + 1, 0, none⟩ = some (.int .i64 0) ∧ wr.cell? ⟨w.heap.size + 1, 1, none⟩ = some (.int .i64 0) ∧ wr.cell? ⟨w.heap.size + 1, 2, none⟩ = some (.int .i64 0)) ∧ (∀ i, wr.frozen? ⟨w.heap.size + 1, i, none⟩ = false) ∧ wr.cell? ⟨w.heap.size + 1 + 1, 0, none⟩ = some (.int .i64 c) ∧ wr.cell? ⟨w.heap.size + 1 + 1, 1, none⟩ = some (.int .i64 t) ∧ w.heap.size + 3 ≤ wr.heap.size :=
  ⟨⟨cell_of_block h.res 0, cell_of_block h.res 1, cell_of_block h.res 2⟩, fun i => free_of_block h.res i, cell_of_block h.wts 0, cell_of_block h.wts 1, by have := lt_of_blk h.wts; omega⟩

theorem OS.start (w : World) (c t : Int) (o : Obj) : OS w c t (((w.alloc o).alloc (.cells #[.int .i64 0, .int .i64 0, .int .i64 0] 37)).alloc (.cells #[.int .i64 c, .int .i64 t] 115)) := by
  refine ⟨(((Below.refl _ _).alloc (Nat.le_refl _) _).alloc (by simp) _).alloc (by simp; omega) _, ?_, ?_⟩
  · rw [Below.heap_alloc _ _ _ (by simp)]
    have := heap_alloc_new (w.alloc o) (.cells #[.int .i64 0, .int .i64 0, .int .i64 0] 37)
    simpa using this
  · have := heap_alloc_new ((w.alloc o).alloc (.cells #[.int .i64 0, .int .i64 0, .int .i64 0] 37)) (.cells #[.int .i64 c, .int .i64 t] 115)
    simpa using this

theorem OS.set {w : World} {c t : Int} {wr : World} (h : OS w c t wr) {p : Addr} (hp : w.heap.size + 3 ≤ p.block) (u : Value) : OS w c t (wr.setCell p u) :=
  ⟨h.low.setCell (by omega) u, by rw [Below.heap_setCell _ _ _ _ (by omega)]; exact h.res, by rw [Below.heap_setCell _ _ _ _ (by omega)]; exact h.wts⟩
theorem OS.drew {w : World} {c t : Int} {wr : World} (h : OS w c t wr) : OS w c t wr.drew := h.go (Below.refl _ _).drew
theorem OS.c0 {w : World} {c t : Int} {wr : World} (h : OS w c t wr) : wr.cell? ⟨w.heap.size + 1 + 1, 0, none⟩ = some (.int .i64 c) := cell_of_block h.wts 0
theorem OS.c1 {w : World} {c t : Int} {wr : World} (h : OS w c t wr) : wr.cell? ⟨w.heap.size + 1 + 1, 1, none⟩ = some (.int .i64 t) := cell_of_block h.wts 1
theorem OS.sz {w : World} {c t : Int} {wr : World} (h : OS w c t wr) : w.heap.size + 3 ≤ wr.heap.size := by have := lt_of_blk h.wts; omega

theorem mul_bd {a b A B : Int} (h1 : -A ≤ a) (h2 : a ≤ A) (h3 : -B ≤ b) (h4 : b ≤ B) : -(A * B) ≤ a * b ∧ a * b ≤ A * B := by
  have hA : a.natAbs ≤ A.toNat := by omega
  have hB : b.natAbs ≤ B.toNat := by omega
  have h := Nat.mul_le_mul hA hB
  rw [← Int.natAbs_mul] at h
  have e : ((A.toNat * B.toNat : Nat) : Int) = A * B := by rw [Int.natCast_mul, Int.toNat_of_nonneg (by omega), Int.toNat_of_nonneg (by omega)]
  omega

end Go.Proofs.Ytgonighpjpfmnaa
