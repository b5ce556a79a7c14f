/- Slices of bytes that come from texts. No statement is proved here. -/
import Derived.Test.YtpligjkbnlfhgaaDoorFrF
import Derived.Test.YtpligjkbnlfhgaaDoorLw
import Derived.Laws.IdiomStrings
import Derived.ArgAppend
import Derived.Deep.AppendSrc
import Derived.Maps.AppendAt
import Derived.Deep.CutBlock
namespace Go.Proofs.YtpligjkbnlfhgaaDoor
open Go.RowKit

/-- The bytes l lie at the head of block g. -/
def ByB (w : World) (g : Nat) (l : List UInt8) : Prop := ∀ (j : Nat) (b : UInt8), l[j]? = some b → w.cell? ⟨g, j, none⟩ = some (.int .u8 (b.toNat : Int))
/-- A slice of bytes as '[]byte(..)' lays it. -/
structure ByS (w : World) (g c : Nat) (l : List UInt8) : Prop where
  blk : ∃ cur fz, w.heap[g]? = some (.cells cur 5 fz) ∧ cur.size = c ∧ c ≤ fz.1
  cells : ByB w g l
  le : l.length ≤ c
theorem ByS.lt {w : World} {g c : Nat} {l : List UInt8} (h : ByS w g c l) : g < w.heap.size := by
  obtain ⟨cur, fz, h1, -⟩ := h.blk
  exact (Array.getElem?_eq_some_iff.1 h1).1
theorem ByB.below {w w' : World} {g : Nat} {l : List UInt8} (h : ByB w g l) (hb : Below w.heap.size w w') (hg : g < w.heap.size) : ByB w' g l := fun j b hj => (hb.cell (p := ⟨g, j, none⟩) hg).trans (h j b hj)
theorem ByS.below {w w' : World} {g c : Nat} {l : List UInt8} (h : ByS w g c l) (hb : Below w.heap.size w w') : ByS w' g c l := by
  obtain ⟨cur, fz, h1, h2, h3⟩ := h.blk
  exact ⟨⟨cur, fz, by rw [hb.block g h.lt]; exact h1, h2, h3⟩, h.cells.below hb h.lt, h.le⟩
theorem ByS.free {w : World} {g c : Nat} {l : List UInt8} (h : ByS w g c l) {j : Nat} (hj : j < c) : w.frozen? ⟨g, j, none⟩ = false := by
  obtain ⟨cur, fz, h1, h2, h3⟩ := h.blk
  unfold World.frozen?
  rw [h1]
  have : ¬ fz.1 ≤ j := by omega
  simp [this]
theorem ByS.has {w : World} {g c : Nat} {l : List UInt8} (h : ByS w g c l) {j : Nat} (hj : j < c) : (w.cell? ⟨g, j, none⟩).isSome = true := by
  obtain ⟨cur, fz, h1, h2, h3⟩ := h.blk
  unfold World.cell?
  rw [h1]
  simp [show j < cur.size by omega]
/-- What '[]byte(s)' leaves. -/
theorem bys_of (w : World) (s : ByteArray) : ByS (w.drew.alloc (.cells (bytesRow s (grownCap w s.size 0 5)) 5 ((bytesRow s (grownCap w s.size 0 5)).size, (bytesRow s (grownCap w s.size 0 5)).size + 1))) w.heap.size (grownCap w s.size 0 5) s.data.toList := by
  have hge := grownCap_ge w s.size 0 5
  have hsz : (bytesRow s (grownCap w s.size 0 5)).size = grownCap w s.size 0 5 := by
    unfold bytesRow
    rw [Array.size_append, Array.size_map, Array.size_replicate]
    have : s.data.size = s.size := rfl
    omega
  have hnew : (w.drew.alloc (.cells (bytesRow s (grownCap w s.size 0 5)) 5 ((bytesRow s (grownCap w s.size 0 5)).size, (bytesRow s (grownCap w s.size 0 5)).size + 1))).heap[w.heap.size]? = some (.cells (bytesRow s (grownCap w s.size 0 5)) 5 ((bytesRow s (grownCap w s.size 0 5)).size, (bytesRow s (grownCap w s.size 0 5)).size + 1)) := by
    show (w.heap.push _)[w.heap.size]? = _
    simp
  refine ⟨⟨_, _, hnew, hsz, by show _ ≤ (bytesRow s (grownCap w s.size 0 5)).size; omega⟩, fun j b hj => ?_, by
    have : s.data.toList.length = s.size := by simp
    omega⟩
  have hjl : j < s.data.size := by have := (List.getElem?_eq_some_iff.1 hj).1; simpa using this
  unfold World.cell?
  rw [hnew]
  simp only
  have := bytesRow_at s (grownCap w s.size 0 5) j hjl
  rw [Array.getElem?_toList, Array.getElem?_eq_getElem hjl] at hj
  injection hj with hj
  rw [hj] at this
  simpa using this

section
variable {P : Program}
/-- An append that is known to run. -/
theorem wpList_append_ok {ops : Array Oper} {rest : List Oper} {o : Oper} {a : Act} {Q : Exit → Act → World → Prop} {w w' : World} (hgd : o.guard = none) (s x : Operand) (t : TypeId)
    (ho : o.op = .call { callee := .builtin .append, args := #[s, x], argTypes := #[t, t] }) {v1 v2 v' : Value} (hs : a.eval s = v1) (hx : a.eval x = v2)
    (hr : (Builtin.append_ #[t, t] o.type #[v1, v2]).run P w = .ok v' w') (h : wpList P ops Q rest (a.put o.dst v') w') : wpList P ops Q (o :: rest) a w := by
  refine wpList_plain hgd fun K hK => ?_
  unfold Oper.wp execOp
  simp only [ho, resolve, invoke, builtin, Sem.run_bind, Sem.run_pure, Result.andThen_ok, List.map_toArray, List.map_cons, List.map_nil, hs, hx, hr]
  exact hK _ _ h
end

theorem info5 : (Tryd.prog.info? 5).map (fun i => (i.zero, i.size, i.bytes)) = some (some (.int .u8 0), 1, 1) := by kernel_rfl
def byV (l : List UInt8) : List Value := l.map fun b => Value.int .u8 (b.toNat : Int)
theorem byV_get {l : List UInt8} {j : Nat} {b : UInt8} (h : l[j]? = some b) : (byV l)[j]? = some (.int .u8 (b.toNat : Int)) := by unfold byV; rw [List.getElem?_map, h]; rfl
theorem byV_one (l : List UInt8) : ∀ u ∈ byV l, u.oneCell' = true := fun u hu => by
  obtain ⟨b, _, rfl⟩ := List.mem_map.1 hu
  rfl
theorem ByB.news {w : World} {g : Nat} {l : List UInt8} (h : ByB w g l) : ∀ j u, (byV l)[j]? = some u → w.cell? ((⟨g, 0, none⟩ : Addr).add j) = some u := fun j u hu => by
  rw [Go.WideShapes.add_plain, Nat.zero_add]
  unfold byV at hu
  rw [List.getElem?_map] at hu
  cases hl : l[j]? with
  | none => rw [hl] at hu; cases hu
  | some b => rw [hl] at hu; injection hu with hu; subst hu; exact h j b hl
/-- The bytes of a slice of the call's own. -/
theorem own_by {w : World} {B n : Nat} {v : Value} {l : List UInt8} (h : w.ownsRow B 5 1 v n (byV l)) (hn : 0 < n) : ∃ g c, v = .slice (some ⟨g, 0, none⟩) n c ∧ l.length = n ∧ ByB w g l := by
  have hlen := h.1
  rcases h.2 with ⟨_, h0⟩ | ⟨g, cap, cur, rfl, hB, hg, hle, hcm, hsz, htk⟩
  · omega
  · refine ⟨g, cap, rfl, by unfold byV at hlen; simpa using hlen, fun j b hj => ?_⟩
    rw [cell_of_block hg j]
    have hx := byV_get hj
    rw [← htk, List.getElem?_take] at hx
    split at hx
    · simpa using hx
    · cases hx

/-- A byte ahead of bytes: append([]byte{b}, x...). -/
theorem append_front {w : World} {gl g n c : Nat} {l : List UInt8} {b : UInt8} (hl : w.heap[gl]? = some (.cells #[.int .u8 (b.toNat : Int)] 5 (0, 0))) (h : ByB w g l) (hn : l.length = n) (hn1 : n ≤ 1000) :
    ∃ g' c' w', (Builtin.append_ #[36, 36] 36 #[.slice (some ⟨gl, 0, none⟩) 1 1, .slice (some ⟨g, 0, none⟩) n c]).run Tryd.prog w = .ok (.slice (some ⟨g', 0, none⟩) (n + 1) c') w' ∧ ByB w' g' (b :: l) ∧ w.grownBy w' (some gl) := by
  obtain ⟨i0, hi, hz0, hz1, hz2⟩ := info_parts info5
  have hown : w.ownsRow gl 5 1 (.slice (some ⟨gl, 0, none⟩) 1 1) 1 [.int .u8 (b.toNat : Int)] := ⟨by simp, .inr ⟨gl, 1, _, rfl, Nat.le_refl _, hl, Nat.le_refl _, by unfold maxLen; omega, by simp, by simp⟩⟩
  obtain ⟨v', w', h1, h2, h3, -, -⟩ := run_append_own_at (P := Tryd.prog) w gl 36 36 5 i0 (.int .u8 0) 1 1 Tryd.underlying36 hi hz0 hz1 hz2 rfl (by omega) _ 1 [.int .u8 (b.toNat : Int)] hown ⟨g, 0, none⟩ n c (byV l) (by unfold byV; simpa using hn) h.news (byV_one l) (by unfold maxLen; omega) (by omega) (Nat.le_of_lt (Array.getElem?_eq_some_iff.1 hl).1)
  have e : ([.int .u8 (b.toNat : Int)] : List Value) ++ byV l = byV (b :: l) := rfl
  rw [e] at h2
  obtain ⟨g', c', rfl, -, hb⟩ := own_by h2 (by omega)
  exact ⟨g', c', w', by rw [h1, Nat.add_comm], hb, h3⟩

/-- A byte behind bytes: append(x, b). -/
theorem append_back {w : World} {gl g n c : Nat} {l : List UInt8} {b : UInt8} (hl : w.heap[gl]? = some (.cells #[.int .u8 (b.toNat : Int)] 5 (0, 0))) (h : ByS w g c l) (hn : l.length = n) (hn1 : n ≤ 1000) :
    ∃ g' c' w', (Builtin.append_ #[36, 36] 36 #[.slice (some ⟨g, 0, none⟩) n c, .slice (some ⟨gl, 0, none⟩) 1 1]).run Tryd.prog w = .ok (.slice (some ⟨g', 0, none⟩) (n + 1) c') w' ∧ ByB w' g' (l ++ [b]) ∧ w.grownBy w' (some g) ∧ (g' = g ∨ w.heap.size ≤ g') ∧ g' < w'.heap.size := by
  obtain ⟨i0, hi, hz0, hz1, hz2⟩ := info_parts info5
  have hone : ByB w gl [b] := fun j b' hj => by
    have hj0 : j = 0 := by have := (List.getElem?_eq_some_iff.1 hj).1; simp at this; exact this
    subst hj0
    simp only [List.getElem?_cons_zero, Option.some.injEq] at hj
    subst hj
    exact cell_of_block hl 0
  by_cases hroom : n + 1 ≤ c
  · have hsrc := Src.ofSlice (P := Tryd.prog) w (size := i0.size) Tryd.underlying36 ⟨gl, 0, none⟩ 1 1 (byV [b]) (by rw [hz1]; rfl) hone.news (byV_one [b])
    have hrm := run_append_room_src (P := Tryd.prog) w 36 36 36 5 i0 Tryd.underlying36 hi g 0 n c (.slice (some ⟨gl, 0, none⟩) 1 1) 1 (byV [b]) hsrc hroom (fun j hj => by
      have : j = 0 := by simp [byV] at hj; exact hj
      subst this
      rw [hz1]; exact h.has (by omega)) (fun j hj => by
      have : j = 0 := by simp [byV] at hj; exact hj
      subst this
      rw [hz1]; exact h.free (by omega))
    rw [hz1] at hrm
    refine ⟨g, c, _, hrm, fun j b' hj => ?_, only_setCell (only_refl _ _) (.inl rfl) _, .inl rfl, by show g < (w.setCell _ _).heap.size; simpa [World.setCell] using h.lt⟩
    have e0 : (⟨g, 0 + n * 1, none⟩ : Addr) = ⟨g, n, none⟩ := by rw [Nat.zero_add, Nat.mul_one]
    show (w.setCell ⟨g, 0 + n * 1, none⟩ (.int .u8 (b.toNat : Int))).cell? ⟨g, j, none⟩ = _
    rw [e0]
    rw [List.getElem?_append] at hj
    split at hj
    · rename_i hlt
      rw [World.cell?_setCell_other (h := fun e => by injection e with _ e2; omega)]
      exact h.cells j b' hj
    · rename_i hlt
      have hj0 : j - l.length = 0 := by have := (List.getElem?_eq_some_iff.1 hj).1; simp at this; omega
      have hjn : j = n := by omega
      subst hjn
      rw [hj0] at hj
      simp only [List.getElem?_cons_zero, Option.some.injEq] at hj
      subst hj
      exact World.cell?_setCell_same' w _ _ (h.has (by omega))
  · obtain ⟨v', w', h1, h2, h3⟩ := run_append_arg_grows (P := Tryd.prog) w 36 36 5 i0 (.int .u8 0) 1 1 Tryd.underlying36 hi hz0 hz1 hz2 rfl (by omega) ⟨g, 0, none⟩ n c (byV l) (by unfold byV; simpa using hn) h.cells.news ⟨gl, 0, none⟩ 1 1 (byV [b]) (by rfl) hone.news (by omega) (by unfold maxLen; omega) (by omega)
    have e : byV l ++ byV [b] = byV (l ++ [b]) := by unfold byV; simp
    rw [e] at h2
    have hlt := h2.lt
    obtain ⟨g', c', rfl, -, hb⟩ := own_by h2 (by omega)
    have hg' := World.ownsRow.lt h2 g' rfl
    exact ⟨g', c', w', h1, hb, ⟨h3.os, h3.tape, h3.output, h3.size, fun k hk _ => h3.block k hk (by simp)⟩, .inr hg'.1, hg'.2⟩
end Go.Proofs.YtpligjkbnlfhgaaDoor
