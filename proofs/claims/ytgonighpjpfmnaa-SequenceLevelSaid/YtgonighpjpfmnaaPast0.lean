/- A score depends only on its sample and on those before it. Plain: no program is walked. -/
import Derived.Test.YtgonighpjpfmnaaApp
import Derived.Test.YtgonighpjpfmnaaScoreSums
namespace Go.Proofs.Ytgonighpjpfmnaa
open Go.RowKit

theorem selB_congr {s : Bool} {f f' : Nat → Smp} {k : Nat} {arm : Int} {j : Nat} (hj : f j = f' j) (hk : (f k).before = (f' k).before) : selB s f k arm j = selB s f' k arm j := by
  unfold selB
  rw [hj, hk]

theorem tot_congr {s : Bool} {f f' : Nat → Smp} {k : Nat} {arm : Int} (hk : (f k).before = (f' k).before) : ∀ j, (∀ i, i < j → f i = f' i) → cntS s f k arm j = cntS s f' k arm j ∧ totS s f k arm j = totS s f' k arm j
  | 0, _ => ⟨rfl, rfl⟩
  | j + 1, h => by
    obtain ⟨h1, h2⟩ := tot_congr (s := s) (arm := arm) hk j fun i hi => h i (by omega)
    simp only [cntS, totS]
    rw [h1, h2, selB_congr (h j (by omega)) hk, h j (by omega)]
    exact ⟨rfl, rfl⟩

theorem predI_congr {f f' : Nat → Smp} {k : Nat} {arm cap : Int} (hk : (f k).before = (f' k).before) (h : ∀ i, i < k → f i = f' i) : predI f k arm cap = predI f' k arm cap := by
  unfold predI
  rw [(tot_congr (s := true) hk k h).1, (tot_congr (s := true) hk k h).2, (tot_congr (s := false) hk k h).1, (tot_congr (s := false) hk k h).2]

theorem okV_congr {f f' : Nat → Smp} {cap : Int} : ∀ j, (∀ i, i < j → f i = f' i) → okV f cap j = okV f' cap j
  | 0, _ => rfl
  | j + 1, h => by
    simp only [okV]
    rw [okV_congr j fun i hi => h i (by omega), h j (by omega)]

theorem ofR_congr {f f' : Nat → Smp} {n n' k : Nat} {c t cap : Int} {adj : Bool} (h : ∀ i, i ≤ k → f i = f' i) (hn : k < n) (hn' : k < n') : ofR f n k c t cap adj = ofR f' n' k c t cap adj := by
  have hp : ∀ arm, predT f n k arm cap = predT f' n' k arm cap := fun arm => by
    unfold predT
    rw [if_pos (show (0 : Int) ≤ (k : Int) ∧ (k : Int) < n by omega), if_pos (show (0 : Int) ≤ (k : Int) ∧ (k : Int) < n' by omega)]
    simp only [Int.toNat_natCast]
    exact predI_congr (by rw [h k (Nat.le_refl _)]) fun i hi => h i (by omega)
  have ho : okV f cap (k + 1) = okV f' cap (k + 1) := okV_congr _ fun i hi => h i (by omega)
  have h1 : ((0 : Int) ≤ k ∧ (k : Int) < n ∧ vldWI c t = true ∧ 1 ≤ cap ∧ cap ≤ 1048576 ∧ okV f cap (k + 1) = true) ↔ ((0 : Int) ≤ k ∧ (k : Int) < n' ∧ vldWI c t = true ∧ 1 ≤ cap ∧ cap ≤ 1048576 ∧ okV f' cap (k + 1) = true) := by
    rw [ho]
    exact ⟨fun ⟨a, _, c⟩ => ⟨a, by omega, c⟩, fun ⟨a, _, c⟩ => ⟨a, by omega, c⟩⟩
  unfold ofR
  simp only [Int.toNat_natCast, hp, h k (Nat.le_refl _)]
  by_cases hc : ((0 : Int) ≤ k ∧ (k : Int) < n ∧ vldWI c t = true ∧ 1 ≤ cap ∧ cap ≤ 1048576 ∧ okV f cap (k + 1) = true)
  · rw [if_pos hc, if_pos (h1.1 hc)]
  · rw [if_neg hc, if_neg (fun hh => hc (h1.2 hh))]

theorem allR_congr {f f' : Nat → Smp} {n n' : Nat} {g : Nat → Wt} {m : Nat} {cap : Int} {adj : Bool} : ∀ j, j ≤ n → j ≤ n' → (∀ i, i < j → f i = f' i) → allR f n g m cap adj j = allR f' n' g m cap adj j
  | 0, _, _, _ => rfl
  | j + 1, hn, hn', h => by
    simp only [allR]
    rw [allR_congr (n := n) (n' := n') j (by omega) (by omega) fun i hi => h i (by omega)]
    congr 1
    unfold scoreAt
    rw [h j (by omega)]
    cases findW g (f' j).version m with
    | none => rfl
    | some x =>
      have e := ofR_congr (f := f) (f' := f') (n := n) (n' := n') (k := j) (c := x.con) (t := x.tre) (cap := cap) (adj := adj) (fun i hi => h i (by omega)) (by omega) (by omega)
      simp only [e]

/-- Made samples have a score each. -/
theorem made_one {l : List Smp} {cap : Int} {g : Nat → Wt} {m : Nat} {adj : Bool} (h : ∀ s ∈ l, Smp.made cap s) (hcap : 1 ≤ cap ∧ cap ≤ 1048576)
    (hg : ∀ v : Int, v = 1 ∨ v = 2 → ∃ x, findW g v m = some x ∧ 1 ≤ x.con ∧ x.con ≤ 10000 ∧ 1 ≤ x.tre ∧ x.tre ≤ 10000) (k : Nat) (hk : k < l.length) : (scoreAt (fun i => l.getD i default) l.length g m cap adj k).length = 1 := by
  have hm := h (l.getD k default) (by rw [List.getD_eq_getElem?_getD, List.getElem?_eq_getElem hk]; simp)
  obtain ⟨ha, hv, _⟩ := hm
  obtain ⟨x, hx, h1, h2, h3, h4⟩ := hg _ hv
  unfold scoreAt
  rw [hx]
  have hok := made_okV h (k + 1) hk
  simp only [ofR]
  rw [if_pos ⟨by omega, by omega, by simp [vldWI]; omega, hcap.1, hcap.2, by simpa using hok⟩]
  simp only [Int.toNat_natCast]
  rcases ha with ha | ha
  · rw [if_pos ha]; rfl
  · rw [if_neg (by rw [ha]; decide), if_pos ha]; rfl

theorem made_all {l : List Smp} {cap : Int} {g : Nat → Wt} {m : Nat} {adj : Bool} (h : ∀ s ∈ l, Smp.made cap s) (hcap : 1 ≤ cap ∧ cap ≤ 1048576)
    (hg : ∀ v : Int, v = 1 ∨ v = 2 → ∃ x, findW g v m = some x ∧ 1 ≤ x.con ∧ x.con ≤ 10000 ∧ 1 ≤ x.tre ∧ x.tre ≤ 10000) : ∀ j, j ≤ l.length → (allR (fun i => l.getD i default) l.length g m cap adj j).length = j
  | 0, _ => rfl
  | j + 1, hj => by
    simp only [allR]
    rw [List.length_append, made_all h hcap hg j (by omega), made_one h hcap hg j (by omega)]

/-- The elements of a part of a list of results. -/
theorem allR_pre {f : Nat → Smp} {n : Nat} {g : Nat → Wt} {m : Nat} {cap : Int} {adj : Bool} (i : Nat) : ∀ j d, (allR f n g m cap adj (j + d)).length ≥ (allR f n g m cap adj j).length ∧ (i < (allR f n g m cap adj j).length → (allR f n g m cap adj (j + d))[i]? = (allR f n g m cap adj j)[i]?)
  | j, 0 => ⟨Nat.le_refl _, fun _ => rfl⟩
  | j, d + 1 => by
    obtain ⟨h1, h2⟩ := allR_pre (f := f) (n := n) (g := g) (m := m) (cap := cap) (adj := adj) i j d
    have e : allR f n g m cap adj (j + (d + 1)) = allR f n g m cap adj (j + d) ++ scoreAt f n g m cap adj (j + d) := rfl
    rw [e]
    refine ⟨by rw [List.length_append]; omega, fun h => ?_⟩
    rw [List.getElem?_append_left (by omega)]
    exact h2 h

theorem getD_map_range {α : Type} {f : Nat → α} {n : Nat} {d : α} {i : Nat} (hi : i < n) : ((List.range n).map f).getD i d = f i := by
  rw [List.getD_eq_getElem?_getD, List.getElem?_map, List.getElem?_range hi]; rfl

theorem getD_append_l {α : Type} {L M : List α} {d : α} {i : Nat} (hi : i < L.length) : (L ++ M).getD i d = L.getD i d := by
  rw [List.getD_eq_getElem?_getD, List.getD_eq_getElem?_getD, List.getElem?_append_left hi]

theorem made_range {l : List Smp} {cap : Int} (h : ∀ s ∈ l, Smp.made cap s) {n : Nat} (hn : n ≤ l.length) : ∀ s ∈ (List.range n).map (fun i => l.getD i default), Smp.made cap s := fun s hs => by
  obtain ⟨i, hi, rfl⟩ := List.mem_map.1 hs
  rw [List.mem_range] at hi
  exact h _ (by rw [List.getD_eq_getElem?_getD, List.getElem?_eq_getElem (by omega)]; simp)
end Go.Proofs.Ytgonighpjpfmnaa
