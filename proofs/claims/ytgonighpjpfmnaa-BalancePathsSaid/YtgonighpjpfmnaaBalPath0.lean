/- What package balance's Path computes, in plain Lean. Plain: no program is walked. -/
import Derived.Test.YtgonighpjpfmnaaBalLevel
import Derived.Test.YtgonighpjpfmnaaScoreAll
namespace Go.Proofs.Ytgonighpjpfmnaa

/-- An exposure. -/
structure Ev where
  id : ByteArray
  client : ByteArray
  seq : Int
  time : Int
  arm : Int
  ver : Int
def Ev.cells (e : Ev) : List Value := [.string e.id, .string e.client, .int .i64 e.seq, .int .i64 e.time, .int .i64 e.arm, .int .i64 e.ver]
instance : Inhabited Ev := ⟨⟨⟨#[]⟩, ⟨#[]⟩, 0, 0, 0, 0⟩⟩
theorem Ev.len (e : Ev) : e.cells.length = 6 := rfl

def cf (a b : Int) : Nat → Int := fun i => if i = 0 then a else b
/-- The state behind some exposures: the wealth, the counts of each version, the wealths so far. -/
structure BS where
  w : Int
  c : Int → Int × Int
  out : List Int
/-- The weights with which an exposure counts. -/
def stepOk (g : Nat → Wt) (m : Nat) (e : Ev) : Option Wt := match findW g e.ver m with
  | some x => if (e.arm = 1 ∨ e.arm = 2) ∧ 1 ≤ x.con ∧ x.con ≤ 10000 ∧ 1 ≤ x.tre ∧ x.tre ≤ 10000 then some x else none
  | none => none
def bw (s : BS) (e : Ev) (x : Wt) : Int := balW s.w 2 2 (cf (s.c e.ver).1 (s.c e.ver).2) (cf x.con x.tre) e.arm
def bc (s : BS) (e : Ev) (x : Wt) : List Int := balC s.w 2 2 (cf (s.c e.ver).1 (s.c e.ver).2) (cf x.con x.tre) e.arm
def setC (c : Int → Int × Int) (v : Int) (p : Int × Int) : Int → Int × Int := fun x => if x = v then p else c x
def stepB (g : Nat → Wt) (m : Nat) (s : BS) (e : Ev) : BS := match stepOk g m e with
  | some x => ⟨bw s e x, setC s.c e.ver ((bc s e x).getD 0 0, (bc s e x).getD 1 0), s.out ++ [bw s e x]⟩
  | none => s
def runB (g : Nat → Wt) (m : Nat) (f : Nat → Ev) : Nat → BS
  | 0 => ⟨4294967296, fun _ => (0, 0), []⟩
  | k + 1 => stepB g m (runB g m f k) (f k)
def bpathR (g : Nat → Wt) (m : Nat) (f : Nat → Ev) (n : Nat) : List Int := (runB g m f n).out

theorem runB_bd (g : Nat → Wt) (m : Nat) (f : Nat → Ev) : ∀ n, (0 ≤ (runB g m f n).w ∧ (runB g m f n).w ≤ 2305843009213693952) ∧ (runB g m f n).out.length ≤ n
  | 0 => by simp [runB]
  | n + 1 => by
    obtain ⟨h1, h2⟩ := runB_bd g m f n
    simp only [runB, stepB]
    split
    · exact ⟨balW_bd h1.1 h1.2, by simp; omega⟩
    · exact ⟨h1, by omega⟩

theorem bc_len (s : BS) (e : Ev) (x : Wt) : (bc s e x).length = 2 := balC_len _ _ _ _ _ _
theorem bc_two (s : BS) (e : Ev) (x : Wt) : bc s e x = [(bc s e x).getD 0 0, (bc s e x).getD 1 0] := by
  have h := bc_len s e x
  match hh : bc s e x, h with
  | [a, b], _ => rfl

/-- The number of the first weights of a version. -/
def idxW (g : Nat → Wt) (ver : Int) : Nat → Option Nat
  | 0 => none
  | m + 1 => match idxW g ver m with
    | some i => some i
    | none => if (g m).ver = ver then some m else none

theorem findW_idx (g : Nat → Wt) (ver : Int) : ∀ m, findW g ver m = (idxW g ver m).map g
  | 0 => rfl
  | m + 1 => by
    simp only [findW, idxW, findW_idx g ver m]
    cases idxW g ver m with
    | some i => rfl
    | none => simp only [Option.map_none]; split <;> rfl

theorem idxW_some {g : Nat → Wt} {ver : Int} {j : Nat} : ∀ {m}, j < m → (g j).ver = ver → idxW g ver m ≠ none
  | 0, h, _ => by omega
  | m + 1, h, hv => by
    simp only [idxW]
    cases hh : idxW g ver m with
    | some k => simp
    | none =>
      by_cases hj : j < m
      · exact absurd hh (idxW_some hj hv)
      · have : j = m := by omega
        subst this
        simp [hv]

theorem idxW_lt {g : Nat → Wt} {ver : Int} {i : Nat} : ∀ {m}, idxW g ver m = some i → i < m ∧ (g i).ver = ver ∧ ∀ j, j < i → (g j).ver ≠ ver
  | 0, h => by cases h
  | m + 1, h => by
    simp only [idxW] at h
    cases hh : idxW g ver m with
    | some k =>
      rw [hh] at h
      simp only [Option.some.injEq] at h
      subst h
      obtain ⟨a, b, c⟩ := idxW_lt hh
      exact ⟨by omega, b, c⟩
    | none =>
      rw [hh] at h
      simp only at h
      split at h
      · rename_i hv
        simp only [Option.some.injEq] at h
        subst h
        refine ⟨by omega, hv, fun j hj hjv => ?_⟩
        have : idxW g ver m ≠ none := idxW_some hj hjv
        exact this hh
      · cases h
theorem idxW_none {g : Nat → Wt} {ver : Int} : ∀ {m}, idxW g ver m = none → ∀ j, j < m → (g j).ver ≠ ver := fun h _ hj hv => idxW_some hj hv h

theorem idxW_of {g : Nat → Wt} {ver : Int} {m i : Nat} (hi : i < m) (hv : (g i).ver = ver) (hn : ∀ j, j < i → (g j).ver ≠ ver) : idxW g ver m = some i := by
  cases h : idxW g ver m with
  | none => exact absurd hv (idxW_none h i hi)
  | some k =>
    obtain ⟨h1, h2, h3⟩ := idxW_lt h
    have : ¬ i < k := fun hlt => h3 i hlt hv
    have : ¬ k < i := fun hlt => hn k hlt h2
    rw [show k = i by omega]
theorem idxW_no {g : Nat → Wt} {ver : Int} {m : Nat} (hn : ∀ j, j < m → (g j).ver ≠ ver) : idxW g ver m = none := by
  cases h : idxW g ver m with
  | none => rfl
  | some k =>
    obtain ⟨h1, h2, h3⟩ := idxW_lt h
    exact absurd h2 (hn k h1)

/-- The counts by numbers of weights, as the reference keeps them. -/
def cntK (g : Nat → Wt) (m : Nat) (c : Int → Int × Int) (k : Nat) : Int × Int := if idxW g (g k).ver m = some k then c (g k).ver else (0, 0)

theorem cntK_set {g : Nat → Wt} {m : Nat} {c : Int → Int × Int} {v : Int} {p : Int × Int} {i : Nat} (hi : idxW g v m = some i) (k : Nat) : cntK g m (setC c v p) k = if k = i then p else cntK g m c k := by
  obtain ⟨h1, h2, h3⟩ := idxW_lt hi
  unfold cntK setC
  by_cases hk : k = i
  · subst hk
    rw [h2, if_pos hi, if_pos rfl, if_pos rfl]
  · rw [if_neg hk]
    by_cases hv : (g k).ver = v
    · rw [hv, hi, if_neg (by simp; omega), if_neg (by simp; omega)]
    · rw [if_neg hv]

/-! ### a ratio that is far from the declared one -/
def wF : Nat → Wt := fun _ => ⟨1, 5000, 5000⟩
def xF (a : Int) : Nat → Ev := fun _ => ⟨⟨#[]⟩, ⟨#[]⟩, 0, 0, a, 1⟩
def alarmF (a level : Int) (n : Nat) : Nat := firstN (fun i => (bpathR wF 1 (xF a) n).getD i 0) (thrI level 1) (bpathR wF 1 (xF a) n).length

theorem find_all : ∀ n, n < 20 → alarmF 1 50 (12 + n) = 8 ∧ alarmF 2 50 (12 + n) = 8 := by decide +kernel
theorem find_one : alarmF 1 999 1 = 0 ∧ alarmF 2 999 1 = 0 ∧ alarmF 1 50 7 = 0 ∧ alarmF 2 50 7 = 0 := by decide +kernel
end Go.Proofs.Ytgonighpjpfmnaa
