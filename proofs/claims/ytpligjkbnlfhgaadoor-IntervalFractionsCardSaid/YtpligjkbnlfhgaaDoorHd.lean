/- Regions that draw their order, an operation at a time: one that is not wanted, one that yields its value, one that is called. No statement is proved here. -/
import Derived.Test.YtpligjkbnlfhgaaDoorBase
import Derived.Deep.RegionHeld3
namespace Go.Proofs.YtpligjkbnlfhgaaDoor
open Go.RowKit

section
variable {P : Program} {ops : Array Oper} {Q : Exit → Act → World → Prop} {md : Region.Mode} {S : World → Prop}

/-- One that is not wanted, taken first. -/
theorem offH {i : Nat} {d : Option Tmp} {fuel : Nat} {listed : Array Bool} {a a' : Act} {w : World} (hs : Region.noSelect ops = true) (hf : Region.free md ops listed i = true) (hr : (Region.ready md ops listed).contains i = true)
    (hd : (ops[i]?.map fun o => (Region.wanted o (yielded ops a.tmps), o.dst)) = some (false, d)) (hQ : ∀ c a w, Q (.panic c) (a.put d undef) w → Q (.panic c) a w) (hS : S w) (hp : a.put d undef = a')
    (h : wpAnyH P md ops Q S fuel (listed.setIfInBounds i true) a' w) : wpAnyH P md ops Q S (fuel + 1) listed a w := by
  cases ho : ops[i]? with
  | none => rw [ho] at hd; cases hd
  | some o =>
    rw [ho] at hd
    simp only [Option.map_some, Option.some.injEq, Prod.mk.injEq] at hd
    obtain ⟨h1, rfl⟩ := hd
    subst hp
    exact wpAnyH_take ho hs hf hr hQ (Or.inr ⟨h1, rfl⟩) hS h

/-- One that yields its value in every world that meets S, taken first. -/
theorem onH {i : Nat} {d : Option Tmp} {v : Value} {fuel : Nat} {listed : Array Bool} {a a' : Act} {w : World} (hs : Region.noSelect ops = true) (hf : Region.free md ops listed i = true) (hr : (Region.ready md ops listed).contains i = true)
    (hd : (ops[i]?.map fun o => (Region.wanted o (yielded ops a.tmps), o.dst)) = some (true, d)) (hQ : ∀ c a w, Q (.panic c) (a.put d v) w → Q (.panic c) a w)
    (hy : ∀ o, ops[i]? = some o → ∀ w, S w → (execOp a.eval o).run P w = .ok (.value v) w) (hS : S w) (hp : a.put d v = a')
    (h : wpAnyH P md ops Q S fuel (listed.setIfInBounds i true) a' w) : wpAnyH P md ops Q S (fuel + 1) listed a w := by
  cases ho : ops[i]? with
  | none => rw [ho] at hd; cases hd
  | some o =>
    rw [ho] at hd
    simp only [Option.map_some, Option.some.injEq, Prod.mk.injEq] at hd
    obtain ⟨h1, rfl⟩ := hd
    subst hp
    exact wpAnyH_take ho hs hf hr hQ (Or.inl ⟨h1, hy o ho⟩) hS h

/-- The one operation that may come up. -/
theorem oneH {i : Nat} {fuel : Nat} {listed : Array Bool} {a : Act} {w : World} (hr : Region.ready md ops listed = [i])
    (h : ∀ o, ops[i]? = some o → ∀ K' : Act → World → Prop, Shut (∀ a w, S w → (S w → wpAnyH P md ops Q S fuel (listed.setIfInBounds i true) a w) → K' a w) → if Region.wanted o (yielded ops a.tmps) = true then Oper.wp P o a w K' Q else K' (a.put o.dst undef) w) :
    wpAnyH P md ops Q S (fuel + 1) listed a w := by
  have hi : i ∈ Region.ready md ops listed := by rw [hr]; exact List.mem_singleton.2 rfl
  obtain ⟨_, o, ho, _⟩ := mem_ready.1 hi
  exact wpAnyH_ready hr (by simp) (AllReadyH.cons ho (h o ho) AllReadyH.nil)
end
end Go.Proofs.YtpligjkbnlfhgaaDoor
