/- Arguments of a law that are structs of integers, bools and strings (nested or not), and slices of such: what the walk is told of their cells. No statement is proved here. -/
import Derived.Test.YtgonighpjpfmnaaBase
import Derived.Deep.Slices
import Derived.Deep.Fields
import Derived.ChangeSame
import Derived.OpenShut
namespace Go.Proofs.Ytgonighpjpfmnaa
open Go.RowKit Go.ChangeShapes Go.WideShapes Go.Deep

inductive CK where
  | int (k : IntKind)
  | bool
  | str

def CK.Ok : CK → Value → Prop
  | .int k, v => ∃ n, v = .int k n ∧ (Lit.int k n).wf = true
  | .bool, v => ∃ b, v = .bool b
  | .str, v => ∃ s : ByteArray, v = .string s ∧ s.size ≤ maxLen

def CellsOk : List CK → List Value → Prop
  | [], [] => True
  | k :: K, v :: vs => k.Ok v ∧ CellsOk K vs
  | _, _ => False

theorem CellsOk.len : ∀ {K : List CK} {vs : List Value}, CellsOk K vs → vs.length = K.length
  | [], [], _ => rfl
  | _ :: _, _ :: _, h => by simp only [List.length_cons]; rw [CellsOk.len h.2]
theorem CellsOk.append : ∀ {K L : List CK} {vs us : List Value}, CellsOk K vs → CellsOk L us → CellsOk (K ++ L) (vs ++ us)
  | [], _, [], _, _, h => h
  | _ :: _, _, _ :: _, _, h, g => ⟨h.1, CellsOk.append h.2 g⟩

def catF (g : TypeId → Option (List CK)) (c : TypeId → Nat) : List Field → Nat → Option (List CK)
  | [], _ => some []
  | f :: l, off => match g f.type with
    | some K => if f.offset == off && c f.type == K.length then (catF g c l (off + K.length)).map (K ++ ·) else none
    | none => none

/-- The kinds of a type's cells, flat. -/
def kindsOf (P : Program) : Nat → TypeId → Option (List CK)
  | 0, _ => none
  | n + 1, t => match P.underlying t with
    | some (.int k) => some [.int k]
    | some .bool => some [.bool]
    | some .string => some [.str]
    | some (.struct fs) => match catF (kindsOf P n) P.cellsOf fs.toList 0 with
      | some K => if P.cellsOf t == K.length then some K else none
      | none => none
    | _ => none

section
variable {H : Type} {enc : TypeId × Value → H} {P : Program} {w : World} {base : Nat} {spare : Nat → Bool} {held : Bool}

theorem catF_ok {g : TypeId → Option (List CK)} {c : TypeId → Nat} {cs : List Value} : ∀ (l : List Field) (off : Nat) (K : List CK), catF g c l off = some K →
    (∀ f ∈ l, ∀ Kf, g f.type = some Kf → CellsOk Kf ((cs.drop f.offset).take (c f.type))) → CellsOk K ((cs.drop off).take K.length)
  | [], off, K, h, _ => by simp only [catF, Option.some.injEq] at h; subst h; simp [CellsOk]
  | f :: l, off, K, h, hf => by
    simp only [catF] at h
    cases hg : g f.type with
    | none => simp [hg] at h
    | some Kf =>
      simp only [hg] at h
      split at h
      · rename_i hc
        simp only [Bool.and_eq_true, beq_iff_eq] at hc
        cases hr : catF g c l (off + Kf.length) with
        | none => simp [hr] at h
        | some Kr =>
          simp only [hr, Option.map_some, Option.some.injEq] at h
          subst h
          have h1 := hf f (by simp) Kf hg
          rw [hc.1, hc.2] at h1
          have h2 := catF_ok l _ Kr hr fun f' hf' => hf f' (List.mem_cons_of_mem _ hf')
          rw [List.length_append, List.take_add, List.drop_drop]
          exact h1.append h2
      · cases h

theorem trod_kinds : ∀ (n : Nat) (t : TypeId) (K : List CK) (fuel : Nat) (cs : List Value) (x : DataW H × List MemPlace), kindsOf P n t = some K → DataW.trod enc P w base spare held fuel t cs = some x → CellsOk K cs
  | 0, _, _, _, _, _, hk, _ => by simp [kindsOf] at hk
  | n + 1, t, K, fuel, cs, x, hk, h => by
    unfold kindsOf at hk
    split at hk
    · rename_i k hu
      obtain ⟨m, rfl, _, hw⟩ := DataW.trod_int hu h
      injection hk with hk; subst hk
      exact ⟨⟨m, rfl, hw⟩, trivial⟩
    · rename_i hu
      obtain ⟨b, rfl, _⟩ := DataW.trod_bool hu h
      injection hk with hk; subst hk
      exact ⟨⟨b, rfl⟩, trivial⟩
    · rename_i hu
      obtain ⟨s, rfl, _, hs⟩ := DataW.trod_string hu h
      injection hk with hk; subst hk
      exact ⟨⟨s, rfl, hs⟩, trivial⟩
    · rename_i fs hu
      split at hk
      · rename_i K' hc
        split at hk
        · rename_i hC
          injection hk with hk; subst hk
          obtain ⟨xs, m, _, _, hlen, hxs, hfs⟩ := DataW.trod_struct hu h
          have h1 := catF_ok (cs := cs) fs.toList 0 K' hc fun f hf Kf hg => by
            obtain ⟨i, hi⟩ := List.getElem?_of_mem hf
            have hi' : fs[i]? = some f := by simpa using hi
            have h2 := hfs i f hi'
            have hil : i < xs.length := by rw [hxs]; exact (Array.getElem?_eq_some_iff.1 hi').1
            rw [List.getElem?_eq_getElem hil] at h2
            exact trod_kinds n f.type Kf m _ _ hg h2
          have hKl : cs.length = K'.length := by rw [hlen]; simpa using hC
          rw [List.drop_zero, List.take_of_length_le (by omega)] at h1
          exact h1
        · cases hk
      · cases hk
    · cases hk

/-- A slice of flat elements that came in. -/
def IsRows (K : List CK) (w : World) (a : Option Addr) (len cap : Nat) : Prop :=
  len ≤ cap ∧ cap ≤ maxLen ∧ ∃ f : Nat → List Value, (∀ i, i < cap → CellsOk K (f i)) ∧ RowsAt w w.heap.size K.length a cap f

theorem open_rows {t e : TypeId} {K : List CK} {fuel : Nat} {a : Option Addr} {len cap : Nat} {x : DataW H × List MemPlace} (ht : P.underlying t = some (.slice e)) (hk : kindsOf P 6 e = some K) (hK : P.cellsOf e = K.length) (hpos : 0 < K.length)
    (h : DataW.trod enc P w base (fun _ => true) held fuel t [.slice a len cap] = some x) : IsRows K w a len cap := by
  rcases open_slice ht h with ⟨hcs, _⟩ | ⟨x, len', cap', m, n, D, Pl, hcs, _, hl, hm, hmm, _, hi⟩
  · simp at hcs
    obtain ⟨rfl, rfl, rfl⟩ := hcs
    exact ⟨Nat.le_refl _, by unfold maxLen; omega, fun _ => [], fun i hi => by omega, fun hn => by omega⟩
  · simp at hcs
    obtain ⟨rfl, rfl, rfl⟩ := hcs
    simp only [if_true] at hmm
    subst hmm
    simp only [hK] at hi
    refine ⟨hl, hm, fun i => if h : i < m then (hi i h).choose else [], fun i him => ?_, fun hn => ?_⟩
    · simp only [him, dif_pos]
      exact trod_kinds 6 e K n _ _ hk (hi i him).choose_spec.2
    · have hcell : ∀ i (him : i < m) j, j < K.length → w.cell? ((x.add (i * K.length)).add j) = (hi i him).choose[j]? := fun i him j hj => by
        have h1 := (hi i him).choose_spec.1
        obtain ⟨_, h2, h3⟩ := World.cells?_some h1
        exact h3 j hj
      have hlen : ∀ i (him : i < m), (hi i him).choose.length = K.length := fun i him => CellsOk.len (trod_kinds 6 e K n _ _ hk (hi i him).choose_spec.2)
      obtain ⟨b, off, s⟩ := x
      have h0 := hcell 0 hn 0 hpos
      rw [List.getElem?_eq_getElem (by rw [hlen 0 hn]; exact hpos)] at h0
      have hs : s = none := by simpa [Addr.add] using World.cell?_spot h0
      subst hs
      have hadd : ∀ i j, ((⟨b, off, none⟩ : Addr).add (i * K.length)).add j = ⟨b, off + i * K.length + j, none⟩ := fun i j => by
        rw [Go.WideShapes.add_plain, Go.WideShapes.add_plain]
      refine ⟨b, off, rfl, ?_, fun i him j u hu => ?_⟩
      · rw [hadd] at h0
        refine Decidable.byContradiction fun hb => ?_
        have : w.heap[b]? = none := Array.getElem?_eq_none (by omega)
        simp [World.cell?, this] at h0
      · simp only [him, dif_pos] at hu
        have hj : j < K.length := by have := (List.getElem?_eq_some_iff.1 hu).1; rw [hlen i him] at this; exact this
        rw [← hadd, hcell i him j hj, hu]

theorem open_flat {r : Reach} {b0 : Nat} {t : TypeId} {fs : Array Field} {K : List CK} {v : Value} {d : DataW H} {p : List MemPlace} (hs : P.underlying t = some (.struct fs)) (hk : kindsOf P 6 t = some K)
    (hv : Value.okWide P w r b0 t v) (h : DataW.Trod enc P w base spare held t v d p) : ∃ cs : List Value, v = .agg cs.toArray ∧ CellsOk K cs := by
  obtain ⟨cs, rfl, hsz⟩ := okWide_struct hs hv
  obtain ⟨fuel, hf⟩ := h
  refine ⟨cs.toList, by simp, trod_kinds 6 t K fuel _ _ hk (by simpa [Value.cells] using hf)⟩
end
end Go.Proofs.Ytgonighpjpfmnaa
