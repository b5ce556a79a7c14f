/- Appends of numbers of 32 binary digits in a drawn region. No statement is proved here. -/
import Derived.Test.YtpligjkbnlfhgaaGreatDoorPair
namespace Go.Proofs.YtpligjkbnlfhgaaGreatDoor
open Go.RowKit

def intW (x : Int) : List Value := [.int .i32 x]
theorem intW_len (a : Int) : (intW a).length = 1 := rfl
set_option maxHeartbeats 600000 in
/-- An append of one element, in place or not. -/
theorem append_rwB {α : Type} (c : α → List Value) (size bytes e t : Nat) (z : Value) (i0 : TypeInfo) (hc : ∀ a, (c a).length = size) (h1c : ∀ a, ∀ u ∈ c a, u.oneCell' = true) (ht : Tryz.prog.underlying t = some (.slice e)) (hi : Tryz.prog.info? e = some i0) (hz0 : i0.zero = some z) (hz1 : i0.size = size) (hz2 : i0.bytes = bytes) (hzs : z.cells.size = size) (hsz : 0 < size)
    {Ws : List (Nat × Nat × List Value)} {w : World} {B : Nat} {v : Value} {L : List α} {x : α} {g2 : Nat} (hown : Own c e size w B v L) (hW : ∀ p ∈ wrOf c size v L x, p ∈ Ws) (h2 : w.heap[g2]? = some (.cells (c x).toArray e (0, 0))) (hbig : (L.length + 1) * bytes ≤ 140737488355328) (hL : L.length ≤ 140737488355328) (hB : B ≤ w.heap.size) :
    ∃ v' w', (Builtin.append_ #[t, t] t #[v, .slice (some ⟨g2, 0, none⟩) 1 1]).run Tryz.prog w = .ok v' w' ∧ RW Ws w w' ∧ Own c e size w' B v' (L ++ [x]) ∧ (v'.ownBlock = v.ownBlock ∨ v'.ownBlock = some w.heap.size) ∧ v'.ownBlock ≠ none := by
  have hnews : ∀ j u, (c x)[j]? = some u → w.cell? ((⟨g2, 0, none⟩ : Addr).add j) = some u := fun j u hu => by
    rw [Go.WideShapes.add_plain, Nat.zero_add, cell_of_block h2, List.getElem?_toArray]
    exact hu
  have hx : (c x).length = 1 * size := by rw [hc]; omega
  obtain ⟨v', w', hr, h3, h4, h5, h6⟩ := run_append_own_at (P := Tryz.prog) w B t t e i0 z size bytes ht hi hz0 hz1 hz2 hzs hsz v L.length (L.flatMap c) hown ⟨g2, 0, none⟩ 1 1 (c x) hx hnews (h1c x) (by unfold maxLen; omega) hbig hB
  have hsn : Own c e size w' B v' (L ++ [x]) := Own.snoc h3
  have hnn : v'.ownBlock ≠ none := fun hn => by
    rcases h3.2 with ⟨_, h0⟩ | ⟨g', cap', cur, hv', _⟩
    · omega
    · rw [hv'] at hn; cases hn
  refine ⟨v', w', hr, ?_, hsn, h6, hnn⟩
  rcases hown.2 with ⟨hv, h0⟩ | ⟨g, cap, cur, rfl, hBg, hcur, hn1, hn2, hszc, htk⟩
  · subst hv
    exact RW.of_le ⟨h4.os, h4.tape, h4.output, h4.size, fun k hk => h4.block k hk (by simp [Value.ownBlock])⟩
  · by_cases hroom : L.length + 1 ≤ cap
    · have hsrc := Src.ofSlice (P := Tryz.prog) w (size := i0.size) ht ⟨g2, 0, none⟩ 1 1 (c x) (by rw [hz1]; exact hx) hnews (h1c x)
      have hle : L.length * size + (c x).length ≤ cur.size := by
        rw [hszc, hc]
        have : (L.length + 1) * size ≤ cap * size := Nat.mul_le_mul_right _ hroom
        rw [Nat.add_mul] at this
        omega
      have hrm := run_append_room_src (P := Tryz.prog) w t t t e i0 ht hi g 0 L.length cap (.slice (some ⟨g2, 0, none⟩) 1 1) 1 (c x) hsrc hroom (fun j hj => by
          rw [hz1, Nat.zero_add, cell_of_block hcur, Array.getElem?_eq_getElem (by omega)]; rfl) (fun j _ => free_of_block hcur _)
      rw [hz1, Nat.zero_add, hr] at hrm
      injection hrm with hv hw
      subst hw
      have hself := setCells_self (c x) (L.length * size) w cur hcur
      have hbel := setCells_below (S := 0) (Nat.zero_le g) (c x) (L.length * size) w w (Below.refl _ _)
      refine ⟨hbel.os, hbel.tape, hbel.output, hbel.size, fun k hk => ?_⟩
      by_cases hkg : k = g
      · subst hkg
        exact .inr ⟨L.length * size, c x, cur, e, hW _ (by simp [wrOf, Value.ownBlock]), hcur, hle, hself⟩
      · exact .inl (setCells_other hkg _ _ _)
    · obtain ⟨v'', w'', hr2, _, hg3⟩ := run_append_arg_grows (P := Tryz.prog) w t t e i0 z size bytes ht hi hz0 hz1 hz2 hzs hsz ⟨g, 0, none⟩ L.length cap (L.flatMap c) (by rw [flat_len c size hc]) (fun j u hu => by
          rw [Go.WideShapes.add_plain, Nat.zero_add, cell_of_block hcur]
          rw [← htk, List.getElem?_take] at hu
          split at hu
          · simpa using hu
          · cases hu) ⟨g2, 0, none⟩ 1 1 (c x) hx hnews (by omega) (by unfold maxLen; omega) hbig
      rw [hr] at hr2
      injection hr2 with _ hw
      subst hw
      exact RW.of_le (below_of_grownBy hg3)


def wsOfW (rows : List NRow) : List (Nat × Nat × List Value) := rows.flatMap fun r => wrOf intW 1 r.1 r.2.1 r.2.2
structure RowsW (w0 : World) (B : Nat) (rows : List NRow) : Prop where
  own : ∀ r ∈ rows, Own intW 21 1 w0 B r.1 r.2.1
  apart : ∀ r ∈ rows, ∀ s ∈ rows, r = s ∨ apartV r.1 s.1
  base : B ≤ w0.heap.size

theorem mem_wsOfW {rows : List NRow} {k o : Nat} {cs : List Value} (h : (k, o, cs) ∈ wsOfW rows) : ∃ r ∈ rows, r.1.ownBlock = some k ∧ o = r.2.1.length * 1 ∧ cs = intW r.2.2 := by
  obtain ⟨r, hr, h⟩ := List.mem_flatMap.1 h
  exact ⟨r, hr, mem_wrOf h⟩
theorem RowsW.uniq {w0 : World} {B : Nat} {rows : List NRow} (h : RowsW w0 B rows) : ∀ k o cs o' cs', (k, o, cs) ∈ wsOfW rows → (k, o', cs') ∈ wsOfW rows → o = o' ∧ cs = cs' := fun k o cs o' cs' h1 h2 => by
  obtain ⟨r, hr, h3, rfl, rfl⟩ := mem_wsOfW h1
  obtain ⟨s, hs, h4, rfl, rfl⟩ := mem_wsOfW h2
  rcases h.apart r hr s hs with rfl | ha
  · exact ⟨rfl, rfl⟩
  · exact absurd h4 (ha k h3)
theorem RowsW.lt {w0 : World} {B : Nat} {rows : List NRow} (h : RowsW w0 B rows) : ∀ k o cs, (k, o, cs) ∈ wsOfW rows → k < w0.heap.size := fun k o cs h1 => by
  obtain ⟨r, hr, h3, _⟩ := mem_wsOfW h1
  exact (Own.lt (h.own r hr) h3).1
theorem RowsW.ge {w0 : World} {B : Nat} {rows : List NRow} (h : RowsW w0 B rows) : ∀ k o cs, (k, o, cs) ∈ wsOfW rows → B ≤ k := fun k o cs h1 => by
  obtain ⟨r, hr, h3, _⟩ := mem_wsOfW h1
  exact (Own.lt (h.own r hr) h3).2
theorem RowsW.trans {w0 : World} {B : Nat} {rows : List NRow} (h : RowsW w0 B rows) : ∀ a b c, RW (wsOfW rows) a b → RW (wsOfW rows) b c → RW (wsOfW rows) a c := fun _ _ _ => RW.trans h.uniq

/-- What an append leaves. -/
def PAw (B S : Nat) (r : NRow) : Pred := fun v w => Own intW 21 1 w B v (r.2.1 ++ [r.2.2]) ∧ v.ownBlock ≠ none ∧ (v.ownBlock = r.1.ownBlock ∨ ∃ h, v.ownBlock = some h ∧ S ≤ h)

theorem fits_rowsW {w0 : World} {B : Nat} {rows : List NRow} (h : RowsW w0 B rows) {r : NRow} (hr : r ∈ rows) {v : Value} (hv : v.ownBlock = r.1.ownBlock ∨ ∃ h, v.ownBlock = some h ∧ w0.heap.size ≤ h) {L : List Int} (hL : L = r.2.1 ∨ L = r.2.1 ++ [r.2.2]) : Fits intW 1 (wsOfW rows) v L := fun k o cs hm hk => by
  obtain ⟨s, hs, h4, rfl, rfl⟩ := mem_wsOfW hm
  have hkl := (Own.lt (h.own s hs) h4).1
  have hrk : r.1.ownBlock = some k := by
    rcases hv with hv | ⟨q, hv, hq⟩
    · rw [← hv]; exact hk
    · rw [hk] at hv; injection hv with hv; omega
  obtain rfl : r = s := by
    rcases h.apart r hr s hs with e | ha
    · exact e
    · exact absurd h4 (ha k hrk)
  rcases hL with rfl | rfl
  · exact .inl (Nat.le_refl _)
  · refine .inr ⟨by simp [intW], fun i hi => ?_⟩
    have hi0 : i = 0 := by simp [intW] at hi; exact hi
    subst hi0
    rw [List.flatMap_append, List.getElem?_append_right (by rw [flat_len intW 1 intW_len]; omega), flat_len intW 1 intW_len]
    simp [intW]

theorem PAw_mono {w0 : World} {B : Nat} {rows : List NRow} (h : RowsW w0 B rows) {r : NRow} (hr : r ∈ rows) : ∀ v w w', RW (wsOfW rows) w w' → PAw B w0.heap.size r v w → PAw B w0.heap.size r v w' := fun _ _ _ hR ⟨p1, p2, p3⟩ =>
  ⟨own_rw p1 hR (fits_rowsW h hr p3 (.inr rfl)), p2, p3⟩

theorem info21n : (Tryz.prog.info? 21).map (fun i => (i.zero, i.size, i.bytes)) = some (some (.int .i32 0), 1, 4) := by kernel_rfl

theorem PAw_run {w0 : World} {B : Nat} {rows : List NRow} (h : RowsW w0 B rows) {r : NRow} (hr : r ∈ rows) (hL : r.2.1.length ≤ 20000000000000) (z : Beh (RW (wsOfW rows)) w0) (u : Value) (hu : freshS w0.heap.size #[.int .i32 r.2.2] 21 1 u z.w) :
    ∃ v' w', (Builtin.append_ #[22, 22] 22 #[r.1, u]).run Tryz.prog z.w = .ok v' w' ∧ RW (wsOfW rows) z.w w' ∧ PAw B w0.heap.size r v' w' ∧ ∀ s ∈ rows, apartV r.1 s.1 → ∀ u, PAw B w0.heap.size s u z.w → v'.ownBlock ≠ u.ownBlock := by
  obtain ⟨i0, hi, hz0, hz1, hz2⟩ := info_parts info21n
  obtain ⟨g, rfl, _, hg⟩ := hu
  have hsz := z.h.size
  have ho := own_rw (h.own r hr) z.h (fits_rowsW h hr (.inl rfl) (.inl rfl))
  obtain ⟨v', w', h1, h2, h3, h4, h5⟩ := append_rwB intW 1 4 21 22 (.int .i32 0) i0 intW_len (fun a u hu => by simp only [intW, List.mem_singleton] at hu; subst hu; rfl) Tryz.underlying22 hi hz0 hz1 hz2 rfl (by omega) (Ws := wsOfW rows) (x := r.2.2) ho (fun p hp => List.mem_flatMap.2 ⟨r, hr, hp⟩) hg (by omega) (by omega) (Nat.le_trans h.base hsz)
  refine ⟨v', w', h1, h2, ⟨h3, h5, ?_⟩, fun s hs ha u ⟨q1, q2, q3⟩ he => ?_⟩
  · rcases h4 with h4 | h4
    · exact .inl h4
    · exact .inr ⟨_, h4, hsz⟩
  · cases hub : u.ownBlock with
    | none => exact q2 hub
    | some k =>
      have hkl := (Own.lt q1 hub).1
      rw [hub] at he q3
      rcases h4 with h4 | h4
      · rw [he] at h4
        rcases q3 with q3 | ⟨j, q3, q4⟩
        · exact ha k h4.symm q3.symm
        · injection q3 with q3
          have := (Own.lt (h.own r hr) h4.symm).1
          omega
      · rw [he] at h4
        injection h4 with h4
        omega

theorem ownW_rd {w : World} {B n c : Nat} {A : Option Addr} {l : List Int} {F : Nat → Int} (h : Own intW 21 1 w B (.slice A n c) l) (hF : ∀ i, i < l.length → l.getD i 0 = F i) : n = l.length ∧ (0 < n → ∃ b off, A = some ⟨b, off, none⟩ ∧ b < w.heap.size ∧ ∀ i, i < n → w.cell? ⟨b, off + i, none⟩ = some (.int .i32 (F i))) := by
  have hlen : (l.flatMap intW).length = l.length * 1 := flat_len intW 1 intW_len l
  rcases h.2 with ⟨hv, h0⟩ | ⟨g, cap, cur, hv, _, hg, hle, hcm, hsz, htk⟩
  · injection hv with h1 h2 h3
    subst h2 h3
    exact ⟨h0.symm, fun h => absurd h (by omega)⟩
  · injection hv with h1 h2 h3
    subst h1 h2 h3
    refine ⟨rfl, fun hn => ⟨g, 0, rfl, lt_of_blk hg, fun i hi => ?_⟩⟩
    have hx := flat_get intW 1 intW_len l i 0 (l.getD i 0) (by rw [List.getElem?_eq_getElem hi, List.getD_eq_getElem?_getD, List.getElem?_eq_getElem hi]; rfl) (by decide)
    rw [cell_of_block hg (0 + i), Nat.zero_add]
    rw [← htk, List.getElem?_take] at hx
    rw [hF i hi] at hx
    split at hx
    · simpa [intW] using hx
    · cases hx
theorem sib3 {i j q : Nat} {ds ds' ds'' : List Tmp} {φ1 φ2 φ3 : Pred} {plan : List (Nat × List Tmp × Option Pred × List Pred)} (h1 : (i, ds, some φ1, [φ2, φ3]) ∈ plan) (h2 : (j, ds', some φ2, [φ1, φ3]) ∈ plan) (h3 : (q, ds'', some φ3, [φ1, φ2]) ∈ plan) :
    ∀ k ∈ [i, j, q], ∃ ds φ sib, (k, ds, some φ, sib) ∈ plan ∧ sib ≠ [] ∧ ∀ p ∈ [i, j, q], p ≠ k → ∃ ds' φ' sib', (p, ds', some φ', sib') ∈ plan ∧ sib' ≠ [] ∧ φ' ∈ sib := by
  intro k hk
  simp only [List.mem_cons, List.not_mem_nil, or_false] at hk
  rcases hk with rfl | rfl | rfl
  · refine ⟨_, _, _, h1, by simp, fun p hp hne => ?_⟩
    simp only [List.mem_cons, List.not_mem_nil, or_false] at hp
    rcases hp with rfl | rfl | rfl
    · exact absurd rfl hne
    · exact ⟨_, _, _, h2, by simp, by simp⟩
    · exact ⟨_, _, _, h3, by simp, by simp⟩
  · refine ⟨_, _, _, h2, by simp, fun p hp hne => ?_⟩
    simp only [List.mem_cons, List.not_mem_nil, or_false] at hp
    rcases hp with rfl | rfl | rfl
    · exact ⟨_, _, _, h1, by simp, by simp⟩
    · exact absurd rfl hne
    · exact ⟨_, _, _, h3, by simp, by simp⟩
  · refine ⟨_, _, _, h3, by simp, fun p hp hne => ?_⟩
    simp only [List.mem_cons, List.not_mem_nil, or_false] at hp
    rcases hp with rfl | rfl | rfl
    · exact ⟨_, _, _, h1, by simp, by simp⟩
    · exact ⟨_, _, _, h2, by simp, by simp⟩
    · exact absurd rfl hne
end Go.Proofs.YtpligjkbnlfhgaaGreatDoor
