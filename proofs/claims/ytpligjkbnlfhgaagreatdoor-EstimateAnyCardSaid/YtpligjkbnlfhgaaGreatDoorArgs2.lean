/- Arguments of a law that are slices of pairs of numbers: what the walk is told of their cells. No statement is proved here. -/
import Derived.Test.YtpligjkbnlfhgaaGreatDoorArgs
namespace Go.Proofs.YtpligjkbnlfhgaaGreatDoor
open Go.RowKit Go.ChangeShapes Go.WideShapes Go.Deep
section
variable {H : Type} {enc : TypeId × Value → H} {w : World} {base : Nat} {held : Bool}
def pK : List CK := [.int .i32, .int .i32]
theorem trod_pair32 {spare : Nat → Bool} {fuel : Nat} {cs : List Value} {x : DataW H × List MemPlace} (h : DataW.trod enc Tryz.prog w base spare held fuel 84 cs = some x) : CellsOk pK cs := by
  obtain ⟨xs, m, _, _, hlen, hxs, hf⟩ := DataW.trod_array Tryz.underlying84 h
  have e1 : Tryz.prog.cellsOf 21 = 1 := by kernel_rfl
  have e2 : Tryz.prog.cellsOf 84 = 2 := by kernel_rfl
  rw [e2] at hlen
  rw [e1] at hf
  match cs, hlen with
  | [c0, c1], _ =>
    have h0 := hf 0 (by decide)
    have h1 := hf 1 (by decide)
    rw [List.getElem?_eq_getElem (by omega)] at h0 h1
    obtain ⟨m0, h0', _, hw0⟩ := DataW.trod_int Tryz.underlying21 h0
    obtain ⟨m1, h1', _, hw1⟩ := DataW.trod_int Tryz.underlying21 h1
    simp only [Nat.zero_mul, Nat.one_mul, List.drop_zero, List.drop_succ_cons, List.take_succ_cons, List.take_zero, List.cons.injEq, and_true] at h0' h1'
    exact ⟨⟨m0, h0', hw0⟩, ⟨m1, h1', hw1⟩, trivial⟩

theorem open_pairs {fuel : Nat} {a : Option Addr} {len cap : Nat} {x : DataW H × List MemPlace} (h : DataW.trod enc Tryz.prog w base (fun _ => true) held fuel 49 [.slice a len cap] = some x) : IsRows pK w a len cap := by
  have hK : Tryz.prog.cellsOf 84 = 2 := by kernel_rfl
  rcases open_slice Tryz.underlying49 h with ⟨hcs, _⟩ | ⟨x, len', cap', m, n, D, Pl, hcs, _, hl, hm, hmm, _, hi⟩
  · simp at hcs
    obtain ⟨rfl, rfl, rfl⟩ := hcs
    exact ⟨Nat.le_refl _, by unfold maxLen; omega, fun _ => [], fun i hi => by omega, fun hn => by omega⟩
  · simp at hcs
    obtain ⟨rfl, rfl, rfl⟩ := hcs
    simp only [if_true] at hmm
    subst hmm
    simp only [hK] at hi
    refine ⟨hl, hm, fun i => if h : i < m then (hi i h).choose else [], fun i him => ?_, fun hn => ?_⟩
    · simp only [him, dif_pos]
      exact trod_pair32 (hi i him).choose_spec.2
    · have hcell : ∀ i (him : i < m) j, j < 2 → w.cell? ((x.add (i * 2)).add j) = (hi i him).choose[j]? := fun i him j hj => by
        have h1 := (hi i him).choose_spec.1
        obtain ⟨_, h2, h3⟩ := World.cells?_some h1
        exact h3 j hj
      have hlen : ∀ i (him : i < m), (hi i him).choose.length = 2 := fun i him => CellsOk.len (trod_pair32 (hi i him).choose_spec.2)
      obtain ⟨b, off, s⟩ := x
      have h0 := hcell 0 hn 0 (by decide)
      rw [List.getElem?_eq_getElem (by rw [hlen 0 hn]; decide)] at h0
      have hs : s = none := by simpa [Addr.add] using World.cell?_spot h0
      subst hs
      have hadd : ∀ i j, ((⟨b, off, none⟩ : Addr).add (i * 2)).add j = ⟨b, off + i * 2 + j, none⟩ := fun i j => by
        rw [Go.WideShapes.add_plain, Go.WideShapes.add_plain]
      refine ⟨b, off, rfl, ?_, fun i him j u hu => ?_⟩
      · rw [hadd] at h0
        refine Decidable.byContradiction fun hb => ?_
        have : w.heap[b]? = none := Array.getElem?_eq_none (by omega)
        simp [World.cell?, this] at h0
      · simp only [him, dif_pos] at hu
        have hj : j < 2 := by have := (List.getElem?_eq_some_iff.1 hu).1; rw [hlen i him] at this; exact this
        show w.cell? ⟨b, off + i * 2 + j, none⟩ = some u
        rw [← hadd, hcell i him j hj, hu]
theorem pairs_sized {fuel : Nat} {a : Option Addr} {len cap : Nat} {x : DataW H × List MemPlace} (h : DataW.trod enc Tryz.prog w base (fun _ => true) held fuel 49 [.slice a len cap] = some x) : cap = 0 ∨ ∃ el sp, x.1 = .slice el sp ∧ el.length + sp.length = cap := by
  rcases open_slice Tryz.underlying49 h with ⟨hcs, _⟩ | ⟨x, len', cap', m, n, D, Pl, hcs, _, hl, hm, hmm, hx, hi⟩
  · simp at hcs
    exact .inl hcs.2.2
  · simp at hcs
    obtain ⟨rfl, rfl, rfl⟩ := hcs
    simp only [if_true] at hmm
    subst hmm
    subst hx
    exact .inr ⟨_, _, rfl, by simp; omega⟩
theorem pairs_bytes : Tryz.prog.bytesOf 84 = 8 := by kernel_rfl
end

/-- Pairs of numbers behind a slice's address. -/
def Rd32 (w : World) (A : Option Addr) (n : Nat) (f g : Nat → Int) : Prop := 0 < n → ∃ b off, A = some ⟨b, off, none⟩ ∧ b < w.heap.size ∧ ∀ i, i < n → w.cell? ⟨b, off + i * 2, none⟩ = some (.int .i32 (f i)) ∧ w.cell? ⟨b, off + i * 2 + 1, none⟩ = some (.int .i32 (g i))
def bd32 (f : Nat → Int) (n : Nat) : Prop := ∀ i, i < n → -2147483648 ≤ f i ∧ f i ≤ 2147483647
theorem pK_open {L : List Value} (h : CellsOk pK L) : ∃ x y : Int, L = [.int .i32 x, .int .i32 y] ∧ (-2147483648 ≤ x ∧ x ≤ 2147483647) ∧ -2147483648 ≤ y ∧ y ≤ 2147483647 := by
  have hl := CellsOk.len h
  match L, hl with
  | [u, v], _ =>
    have h1 : CK.Ok (.int .i32) u := h.1
    have h2 : CK.Ok (.int .i32) v := h.2.1
    obtain ⟨x, rfl, h4⟩ := h1
    obtain ⟨y, rfl, h6⟩ := h2
    exact ⟨x, y, rfl, bounds_i32 h4, bounds_i32 h6⟩
theorem rows_pairs {w : World} {a : Option Addr} {len cap : Nat} (h : IsRows pK w a len cap) : len ≤ maxLen ∧ ∃ f g, Rd32 w a len f g ∧ bd32 f len ∧ bd32 g len := by
  obtain ⟨h1, h2, F, hF, hR⟩ := h
  have hp : ∀ i, ∃ x y : Int, i < cap → F i = [.int .i32 x, .int .i32 y] ∧ (-2147483648 ≤ x ∧ x ≤ 2147483647) ∧ -2147483648 ≤ y ∧ y ≤ 2147483647 := fun i => by
    by_cases hi : i < cap
    · obtain ⟨x, y, h⟩ := pK_open (hF i hi)
      exact ⟨x, y, fun _ => h⟩
    · exact ⟨0, 0, fun h => absurd h hi⟩
  obtain ⟨f, hf⟩ := Classical.axiomOfChoice hp
  obtain ⟨g, hg⟩ := Classical.axiomOfChoice hf
  refine ⟨by omega, f, g, fun hn => ?_, fun i hi => (hg i (by omega)).2.1, fun i hi => (hg i (by omega)).2.2⟩
  obtain ⟨b, off, hA, hb, hc⟩ := hR (by omega)
  refine ⟨b, off, hA, hb, fun i hi => ?_⟩
  have e := (hg i (by omega)).1
  have c0 := hc i (by omega) 0 (.int .i32 (f i)) (by rw [e]; rfl)
  have c1 := hc i (by omega) 1 (.int .i32 (g i)) (by rw [e]; rfl)
  exact ⟨c0, c1⟩
theorem Rd32.below {w w' : World} {A : Option Addr} {n : Nat} {f g : Nat → Int} (h : Rd32 w A n f g) (hb : Below w.heap.size w w') : Rd32 w' A n f g := fun hn => by
  obtain ⟨b, off, hA, hbl, hc⟩ := h hn
  refine ⟨b, off, hA, Nat.lt_of_lt_of_le hbl hb.size, fun i hi => ?_⟩
  have e : ∀ j, w'.cell? ⟨b, j, none⟩ = w.cell? ⟨b, j, none⟩ := fun j => by simp only [World.cell?, hb.block b hbl]
  rw [e, e]
  exact hc i hi
end Go.Proofs.YtpligjkbnlfhgaaGreatDoor
