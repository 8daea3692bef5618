/-
  Plain facts: the excerpt of a span. No program in sight.
-/
import Derived.Test.YtiimacmaepheeaaDoorSrcEnds
import Derived.Lib.ItoaNum
import Derived.Lib.ItoaLen
namespace Go.Proofs.YtiimacmaepheeaaDoor
namespace Src

/-- the last offset that an excerpt shows -/
def lastAt (a e : Nat) : Nat := max a (e - 1)

def blanks (n : Nat) : List UInt8 := List.replicate n 32
def carets (n : Nat) : List UInt8 := List.replicate n 94

/-- what stands before the content of line n, where w is the width of the numbers -/
def headL (w n : Nat) : List UInt8 := blanks (w - (Lib.decDigits n).length) ++ Lib.decDigits n ++ [32, 124, 32]

/-- the marks of line n -/
def marksL (l : List UInt8) (a e n : Nat) : List UInt8 :=
  let st := bol l (n - 1)
  let fr := a - st
  let to := min (contentL l n).length (e - st)
  if fr < to then blanks fr ++ carets (to - fr) else blanks fr ++ [94]

/-- both strings of line n -/
def pairL (l : List UInt8) (a e w n : Nat) : List (List UInt8) :=
  [headL w n ++ contentL l n, blanks (headL w n).length ++ marksL l a e n]

/-- the first k lines of an excerpt -/
def excK (l : List UInt8) (a e : Nat) (k : Nat) : List (List UInt8) :=
  (List.range k).flatMap fun i => pairL l a e (Lib.decDigits (lineN l (lastAt a e))).length (lineN l a + i)

def excL (l : List UInt8) (a e : Nat) : List (List UInt8) := excK l a e (lineN l (lastAt a e) + 1 - lineN l a)

theorem excK_zero (l : List UInt8) (a e : Nat) : excK l a e 0 = [] := rfl
theorem excK_succ (l : List UInt8) (a e k : Nat) : excK l a e (k + 1) = excK l a e k ++ pairL l a e (Lib.decDigits (lineN l (lastAt a e))).length (lineN l a + k) := by
  simp [excK, List.range_succ]
theorem excK_length (l : List UInt8) (a e k : Nat) : (excK l a e k).length = 2 * k := by
  induction k with
  | zero => rfl
  | succ k ih => rw [excK_succ, List.length_append, ih]; simp [pairL]; omega

theorem lineN_mono (l : List UInt8) (a b : Nat) (hab : a ≤ b) (hb : b ≤ l.length) : lineN l a ≤ lineN l b := by
  have h := lineN_le l a (by omega)
  have hp := lineN_pos l a
  apply Classical.byContradiction
  intro hn
  have h1 := bol_gt_at l b (lineN l a - 1) hb (by omega) (by omega)
  have h2 := bol_le_at l a (lineN l a - 1) (by omega) (by omega)
  omega

theorem first_le_last (l : List UInt8) (a e : Nat) (ha : a ≤ e) (he : e ≤ l.length) : lineN l a ≤ lineN l (lastAt a e) :=
  lineN_mono l a _ (by unfold lastAt; omega) (by unfold lastAt; omega)

/-- the begin of a line of the excerpt is no greater than the end of the span -/
theorem bol_le_to (l : List UInt8) (a e n : Nat) (ha : a ≤ e) (he : e ≤ l.length) (h1 : 1 ≤ n) (hn : n ≤ lineN l (lastAt a e)) : bol l (n - 1) ≤ e := by
  have := bol_le_at l (lastAt a e) (n - 1) (by unfold lastAt; omega) (by omega)
  unfold lastAt at this
  omega

/-- a line behind the first one begins behind a -/
theorem bol_gt_from (l : List UInt8) (a n : Nat) (ha : a ≤ l.length) (h1 : lineN l a < n) (hn : n ≤ (starts l).length) : a < bol l (n - 1) :=
  bol_gt_at l a (n - 1) ha (by omega) (by omega)

theorem dec_length_le (n : Nat) (h : n ≤ 100000) : (Lib.decDigits n).length ≤ 20 := by
  rw [Lib.decDigits_length]
  exact Lib.nDigits_le20 n (by omega)

theorem nDigits_mono : ∀ (v u : Nat), u ≤ v → Lib.nDigits u ≤ Lib.nDigits v := by
  intro v
  induction v using Nat.strongRecOn with
  | _ v ih =>
    intro u h
    by_cases hu : u < 10
    · rw [Lib.nDigits_small hu]; exact Lib.nDigits_pos v
    · rw [Lib.nDigits_big hu, Lib.nDigits_big (by omega : ¬ v < 10)]
      have := ih (v / 10) (by omega) (u / 10) (by omega)
      omega

theorem dec_length_mono (u v : Nat) (h : u ≤ v) : (Lib.decDigits u).length ≤ (Lib.decDigits v).length := by
  rw [Lib.decDigits_length, Lib.decDigits_length]
  exact nDigits_mono v u h

end Src
end Go.Proofs.YtiimacmaepheeaaDoor
