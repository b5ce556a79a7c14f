/- Several appends of one number each in one region that draws its order. No statement is proved here. -/
import Derived.Test.YtgonighpjpfmnaaWrt
namespace Go.Proofs.Ytgonighpjpfmnaa
open Go.RowKit

section
variable {P : Program} {ops : Array Oper} {R : World → World → Prop} {w0 : World}

theorem withGens_one {d : Tmp} {ψ : Pred} {G : Act → World → Prop} {w : World} : ∀ {pre0 : List (Tmp × Pred)} {a : Act}, (∀ p ∈ pre0, p.1 ≠ d) → (∀ v, ψ v w → G (a.put (some d) v) w) → withGens [d] G (pre0 ++ [(d, ψ)]) a w
  | [], a, _, h => by
    rw [List.nil_append, withGens, if_pos (by simp)]
    exact h
  | (e, χ) :: pre0, a, hp, h => by
    rw [List.cons_append, withGens, if_neg (by have := hp (e, χ) (by simp); simpa using this)]
    exact withGens_one (fun p hm => hp p (by simp [hm])) h

/-- An append with siblings, of what came up last. -/
theorem pair_app {dst : Option Tmp} {d : Tmp} {o1 : Operand} {ats : Array TypeId} {type : TypeId} {pos : String} {after : Array Edge} {a a' : Act} {next : List (Tmp × Pred) → Act → Prop} {ψ φ : Pred} {sib : List Pred} {Ψ : Value → Value → Prop} {c1 : Value} (pre0 : List (Tmp × Pred))
    (hpre : ∀ p ∈ pre0, p.1 ≠ d) (hm : ∀ v w w', R w w' → φ v w → φ v w') (he : ∀ v, (#[o1, .tmp d] : Array Operand).toList.map (a.put (some d) v).eval = [c1, v])
    (hrun : ∀ (x : Beh R w0) v, ψ v x.w → ∃ v' w', (Builtin.append_ ats type #[c1, v]).run P x.w = .ok v' w' ∧ R x.w w' ∧ φ v' w' ∧ ∀ ψ ∈ sib, ∀ u, ψ u x.w → Ψ v' u)
    (hp : a.put dst undef = a') (hn : next (pre0 ++ [(d, ψ)] ++ [(dst.getD 0, φ)]) a') : PairAt P ops R w0 ⟨dst, .call ⟨.builtin .append, #[o1, .tmp d], ats⟩, type, pos, after, none⟩ [d] φ sib Ψ (pre0 ++ [(d, ψ)]) a next := by
  refine ⟨hm, fun x => withGens_one hpre fun v hv => ?_, by rw [hp]; exact hn⟩
  exact tOp_append (R := R) (φ := fun v w' => φ v w' ∧ ∀ ψ ∈ sib, ∀ u, ψ u x.w → Ψ v u) (vals := #[c1, v]) (he v) (hrun x v hv)

theorem sib2 {i j : Nat} {ds ds' : List Tmp} {φ φ' : Pred} {plan : List (Nat × List Tmp × Option Pred × List Pred)} (h1 : (i, ds, some φ, [φ']) ∈ plan) (h2 : (j, ds', some φ', [φ]) ∈ plan) :
    ∀ k ∈ [i, j], ∃ ds φ sib, (k, ds, some φ, sib) ∈ plan ∧ sib ≠ [] ∧ ∀ q ∈ [i, j], q ≠ k → ∃ ds' φ' sib', (q, ds', some φ', sib') ∈ plan ∧ sib' ≠ [] ∧ φ' ∈ sib := by
  intro k hk
  simp only [List.mem_cons, List.not_mem_nil, or_false] at hk
  rcases hk with rfl | rfl
  · refine ⟨_, _, _, h1, by simp, fun q hq hne => ?_⟩
    simp only [List.mem_cons, List.not_mem_nil, or_false] at hq
    rcases hq with rfl | rfl
    · exact absurd rfl hne
    · exact ⟨_, _, _, h2, by simp, by simp⟩
  · refine ⟨_, _, _, h2, by simp, fun q hq hne => ?_⟩
    simp only [List.mem_cons, List.not_mem_nil, or_false] at hq
    rcases hq with rfl | rfl
    · exact ⟨_, _, _, h1, by simp, by simp⟩
    · exact absurd rfl hne
end

/-- Slices of numbers, and the number that is appended to each. -/
abbrev NRow := Value × List Int × Int
def wsOf (rows : List NRow) : List (Nat × Nat × List Value) := rows.flatMap fun r => wrOf intC 1 r.1 r.2.1 r.2.2
def apartV (v u : Value) : Prop := ∀ g, v.ownBlock = some g → u.ownBlock ≠ some g

structure Rows0 (w0 : World) (B : Nat) (rows : List NRow) : Prop where
  own : ∀ r ∈ rows, Own intC 3 1 w0 B r.1 r.2.1
  apart : ∀ r ∈ rows, ∀ s ∈ rows, r = s ∨ apartV r.1 s.1
  base : B ≤ w0.heap.size

theorem mem_wsOf {rows : List NRow} {k o : Nat} {cs : List Value} (h : (k, o, cs) ∈ wsOf rows) : ∃ r ∈ rows, r.1.ownBlock = some k ∧ o = r.2.1.length * 1 ∧ cs = intC r.2.2 := by
  obtain ⟨r, hr, h⟩ := List.mem_flatMap.1 h
  exact ⟨r, hr, mem_wrOf h⟩
theorem Rows0.uniq {w0 : World} {B : Nat} {rows : List NRow} (h : Rows0 w0 B rows) : ∀ k o cs o' cs', (k, o, cs) ∈ wsOf rows → (k, o', cs') ∈ wsOf rows → o = o' ∧ cs = cs' := fun k o cs o' cs' h1 h2 => by
  obtain ⟨r, hr, h3, rfl, rfl⟩ := mem_wsOf h1
  obtain ⟨s, hs, h4, rfl, rfl⟩ := mem_wsOf h2
  rcases h.apart r hr s hs with rfl | ha
  · exact ⟨rfl, rfl⟩
  · exact absurd h4 (ha k h3)
theorem Rows0.lt {w0 : World} {B : Nat} {rows : List NRow} (h : Rows0 w0 B rows) : ∀ k o cs, (k, o, cs) ∈ wsOf rows → k < w0.heap.size := fun k o cs h1 => by
  obtain ⟨r, hr, h3, _⟩ := mem_wsOf h1
  exact (Own.lt (h.own r hr) h3).1
theorem Rows0.ge {w0 : World} {B : Nat} {rows : List NRow} (h : Rows0 w0 B rows) : ∀ k o cs, (k, o, cs) ∈ wsOf rows → B ≤ k := fun k o cs h1 => by
  obtain ⟨r, hr, h3, _⟩ := mem_wsOf h1
  exact (Own.lt (h.own r hr) h3).2
theorem Rows0.trans {w0 : World} {B : Nat} {rows : List NRow} (h : Rows0 w0 B rows) : ∀ a b c, RW (wsOf rows) a b → RW (wsOf rows) b c → RW (wsOf rows) a c := fun _ _ _ => RW.trans h.uniq

/-- What an append leaves. -/
def PA (B S : Nat) (r : NRow) : Pred := fun v w => Own intC 3 1 w B v (r.2.1 ++ [r.2.2]) ∧ v.ownBlock ≠ none ∧ (v.ownBlock = r.1.ownBlock ∨ ∃ h, v.ownBlock = some h ∧ S ≤ h)

theorem fits_rows {w0 : World} {B : Nat} {rows : List NRow} (h : Rows0 w0 B rows) {r : NRow} (hr : r ∈ rows) {v : Value} (hv : v.ownBlock = r.1.ownBlock ∨ ∃ h, v.ownBlock = some h ∧ w0.heap.size ≤ h) {L : List Int} (hL : L = r.2.1 ∨ L = r.2.1 ++ [r.2.2]) : Fits intC 1 (wsOf rows) v L := fun k o cs hm hk => by
  obtain ⟨s, hs, h4, rfl, rfl⟩ := mem_wsOf hm
  have hkl := (Own.lt (h.own s hs) h4).1
  have hrk : r.1.ownBlock = some k := by
    rcases hv with hv | ⟨q, hv, hq⟩
    · rw [← hv]; exact hk
    · rw [hk] at hv; injection hv with hv; omega
  obtain rfl : r = s := by
    rcases h.apart r hr s hs with e | ha
    · exact e
    · exact absurd h4 (ha k hrk)
  rcases hL with rfl | rfl
  · exact .inl (Nat.le_refl _)
  · refine .inr ⟨by simp [intC], fun i hi => ?_⟩
    have hi0 : i = 0 := by simp [intC] at hi; exact hi
    subst hi0
    rw [List.flatMap_append, List.getElem?_append_right (by rw [flat_len intC 1 intC_len]; omega), flat_len intC 1 intC_len]
    simp [intC]

theorem PA_mono {w0 : World} {B : Nat} {rows : List NRow} (h : Rows0 w0 B rows) {r : NRow} (hr : r ∈ rows) : ∀ v w w', RW (wsOf rows) w w' → PA B w0.heap.size r v w → PA B w0.heap.size r v w' := fun _ _ _ hR ⟨p1, p2, p3⟩ =>
  ⟨own_rw p1 hR (fits_rows h hr p3 (.inr rfl)), p2, p3⟩

theorem info3n : (Try.prog.info? 3).map (fun i => (i.zero, i.size, i.bytes)) = some (some (.int .i64 0), 1, 8) := by kernel_rfl

theorem PA_run {w0 : World} {B : Nat} {rows : List NRow} (h : Rows0 w0 B rows) {r : NRow} (hr : r ∈ rows) (hL : r.2.1.length ≤ 1048576) (z : Beh (RW (wsOf rows)) w0) (u : Value) (hu : freshS w0.heap.size #[.int .i64 r.2.2] 3 1 u z.w) :
    ∃ v' w', (Builtin.append_ #[44, 44] 44 #[r.1, u]).run Try.prog z.w = .ok v' w' ∧ RW (wsOf rows) z.w w' ∧ PA B w0.heap.size r v' w' ∧ ∀ s ∈ rows, apartV r.1 s.1 → ∀ u, PA B w0.heap.size s u z.w → v'.ownBlock ≠ u.ownBlock := by
  obtain ⟨i0, hi, hz0, hz1, hz2⟩ := info_parts info3n
  obtain ⟨g, rfl, _, hg⟩ := hu
  have hsz := z.h.size
  have ho := own_rw (h.own r hr) z.h (fits_rows h hr (.inl rfl) (.inl rfl))
  obtain ⟨v', w', h1, h2, h3, h4, h5⟩ := append_rw intC 1 8 3 44 (.int .i64 0) i0 intC_len (fun a u hu => by simp only [intC, List.mem_singleton] at hu; subst hu; rfl) Try.underlying44 hi hz0 hz1 hz2 rfl (by omega) (Ws := wsOf rows) (x := r.2.2) ho (fun p hp => List.mem_flatMap.2 ⟨r, hr, hp⟩) hg hL (by omega) (Nat.le_trans h.base hsz)
  refine ⟨v', w', h1, h2, ⟨h3, h5, ?_⟩, fun s hs ha u ⟨q1, q2, q3⟩ he => ?_⟩
  · rcases h4 with h4 | h4
    · exact .inl h4
    · exact .inr ⟨_, h4, hsz⟩
  · cases hub : u.ownBlock with
    | none => exact q2 hub
    | some k =>
      have hkl := (Own.lt q1 hub).1
      rw [hub] at he q3
      rcases h4 with h4 | h4
      · rw [he] at h4
        rcases q3 with q3 | ⟨j, q3, q4⟩
        · exact ha k h4.symm q3.symm
        · injection q3 with q3
          have := (Own.lt (h.own r hr) h4.symm).1
          omega
      · rw [he] at h4
        injection h4 with h4
        omega
end Go.Proofs.Ytgonighpjpfmnaa
