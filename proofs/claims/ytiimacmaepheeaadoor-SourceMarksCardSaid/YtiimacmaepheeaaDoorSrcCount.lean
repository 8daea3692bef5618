/-
  Plain facts: how many bytes an excerpt marks. No program in sight.
-/
import Derived.Test.YtiimacmaepheeaaDoorSrcExc
namespace Go.Proofs.YtiimacmaepheeaaDoor
namespace Src

theorem count_marks (l : List UInt8) (a e n h : Nat) (hst : bol l (n - 1) ≤ e) :
    ((((blanks h ++ marksL l a e n).count 94 : Nat)) : Int) = max 1 (min (e : Int) ((bol l (n - 1) : Int) + ((contentL l n).length : Int)) - max (a : Int) (bol l (n - 1) : Int)) := by
  have hb : ∀ m, (blanks m).count 94 = 0 := fun m => by unfold blanks; rw [List.count_replicate]; rfl
  have hc : ∀ m, (carets m).count 94 = m := fun m => by unfold carets; simp
  rw [List.count_append, hb]
  unfold marksL
  simp only
  split
  · rw [List.count_append, hb, hc]; omega
  · rw [List.count_append, hb]
    have : List.count (94 : UInt8) [94] = 1 := by decide
    rw [this]; omega

theorem suffix_head (w n : Nat) (c : List UInt8) : Lib.hasSuffix (headL w n ++ c) ([32, 124, 32] ++ c) = true := by
  unfold Lib.hasSuffix headL
  rw [List.isSuffixOf_iff_suffix]
  exact ⟨blanks (w - (Lib.decDigits n).length) ++ Lib.decDigits n, by simp⟩

theorem excK_at (l : List UInt8) (a e : Nat) : ∀ (k j : Nat), j < k →
    (excK l a e k)[2 * j]? = some (headL (Lib.decDigits (lineN l (lastAt a e))).length (lineN l a + j) ++ contentL l (lineN l a + j)) ∧
    (excK l a e k)[2 * j + 1]? = some (blanks (headL (Lib.decDigits (lineN l (lastAt a e))).length (lineN l a + j)).length ++ marksL l a e (lineN l a + j))
  | 0, j, h => absurd h (Nat.not_lt_zero _)
  | k + 1, j, h => by
    rw [excK_succ]
    by_cases hj : j < k
    · have ih := excK_at l a e k j hj
      have hl := excK_length l a e k
      rw [List.getElem?_append_left (by omega), List.getElem?_append_left (by omega)]
      exact ih
    · obtain rfl : j = k := by omega
      have hl := excK_length l a e j
      rw [List.getElem?_append_right (by omega), List.getElem?_append_right (by omega), hl, show 2 * j - 2 * j = 0 by omega, show 2 * j + 1 - 2 * j = 1 by omega]
      exact ⟨rfl, rfl⟩

end Src
end Go.Proofs.YtiimacmaepheeaaDoor
