/- A law's argument that is a struct of two slices of integers. No statement is proved here. -/
import Derived.Test.YtgonighpjpfmnaaArgs
import Derived.Test.YtgonighpjpfmnaaLaw39a
import Derived.ChangeSlices
namespace Go.Proofs.Ytgonighpjpfmnaa
open Go.RowKit Go.ChangeShapes Go.WideShapes Go.Deep

section
variable {H : Type} {enc : TypeId × Value → H} {P : Program} {w : World} {base : Nat} {held : Bool}
theorem open_int_row {t e : TypeId} {k : IntKind} {fuel : Nat} {cs : List Value} {x : DataW H × List MemPlace} (ht : P.underlying t = some (.slice e)) (he : P.underlying e = some (.int k)) (hc : P.cellsOf e = 1)
    (h : DataW.trod enc P w base (fun _ => true) held fuel t cs = some x) : ∃ a len cap zs, cs = [.slice a len cap] ∧ IsRow k w a len cap zs := by
  rcases open_ints ht he hc h with ⟨hcs, _⟩ | ⟨x, l, c, zs, hcs, _, hl, hm, hz, _, hcell, hwz⟩
  · exact ⟨none, 0, 0, [], hcs, .inl ⟨rfl, rfl, rfl, rfl⟩⟩
  · exact ⟨some x, l, c, zs, hcs, .inr ⟨_, rfl, hl, hm, by simpa using hz, hcell, hwz⟩⟩
theorem open_two {r : Reach} {b0 : Nat} {t s e : TypeId} {f0 f1 : Field} {k : IntKind} {v : Value} {d : DataW H} {p : List MemPlace} (hs : P.underlying t = some (.struct #[f0, f1])) (o0 : f0.offset = 0) (o1 : f1.offset = 1) (t0 : f0.type = s) (t1 : f1.type = s)
    (ht : P.underlying s = some (.slice e)) (he : P.underlying e = some (.int k)) (hce : P.cellsOf e = 1) (hcs : P.cellsOf s = 1) (hct : P.cellsOf t = 2)
    (hv : Value.okWide P w r b0 t v) (h : DataW.Trod enc P w base (fun _ => true) held t v d p) :
    ∃ a0 l0 c0 z0 a1 l1 c1 z1, v = .agg #[.slice a0 l0 c0, .slice a1 l1 c1] ∧ IsRow k w a0 l0 c0 z0 ∧ IsRow k w a1 l1 c1 z1 := by
  obtain ⟨cs, rfl, hsz⟩ := okWide_struct hs hv
  obtain ⟨fuel, hf⟩ := h
  obtain ⟨y, hf'⟩ : ∃ y, DataW.trod enc P w base (fun _ => true) held fuel t cs.toList = some y := ⟨_, by simpa [Value.cells] using hf⟩
  obtain ⟨xs, m, _, _, hlen, hxs, hfs⟩ := DataW.trod_struct hs hf'
  have h0 := hfs 0 f0 rfl
  have h1 := hfs 1 f1 rfl
  rw [o0, t0, hcs] at h0
  rw [o1, t1, hcs] at h1
  have hl : cs.toList.length = 2 := by rw [hlen, hct]
  obtain ⟨v0, v1, hcs2⟩ : ∃ v0 v1, cs.toList = [v0, v1] := by
    match hq : cs.toList, hl with
    | [a, b], _ => exact ⟨a, b, rfl⟩
  rw [hcs2] at h0 h1
  have hx2 : xs.length = 2 := by rw [hxs]; rfl
  rw [List.getElem?_eq_getElem (show 0 < xs.length by omega)] at h0
  rw [List.getElem?_eq_getElem (show 1 < xs.length by omega)] at h1
  obtain ⟨a0, l0, c0, z0, e0, r0⟩ := open_int_row ht he hce h0
  obtain ⟨a1, l1, c1, z1, e1, r1⟩ := open_int_row ht he hce h1
  have q0 : v0 = .slice a0 l0 c0 := by simpa using e0
  have q1 : v1 = .slice a1 l1 c1 := by simpa using e1
  subst q0
  subst q1
  refine ⟨a0, l0, c0, z0, a1, l1, c1, z1, ?_, r0, r1⟩
  rw [show cs = #[.slice a0 l0 c0, .slice a1 l1 c1] from Array.toList_inj.1 hcs2]
end
end Go.Proofs.Ytgonighpjpfmnaa
