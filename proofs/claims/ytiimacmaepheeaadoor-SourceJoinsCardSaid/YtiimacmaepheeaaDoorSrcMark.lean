/-
  Plain facts: the marks, as the reference makes them. No program in sight.
-/
import Derived.Test.YtiimacmaepheeaaDoorSrcExc
namespace Go.Proofs.YtiimacmaepheeaaDoor
namespace Src

/-- the marks for the offsets from st on before k -/
def markPart (a e st k : Nat) : List UInt8 := blanks (min k a - st) ++ carets (min k e - max st a)

theorem markPart_zero (a e st : Nat) : markPart a e st st = [] := by
  unfold markPart blanks carets
  rw [show min st a - st = 0 by omega, show min st e - max st a = 0 by omega]
  rfl

theorem markPart_blank (a e st k : Nat) (h1 : st ≤ k) (h2 : k < a) : markPart a e st (k + 1) = markPart a e st k ++ [32] := by
  unfold markPart blanks carets
  rw [show min (k + 1) e - max st a = 0 by omega, show min k e - max st a = 0 by omega, show min (k + 1) a - st = (min k a - st) + 1 by omega, List.replicate_succ']
  simp

theorem markPart_caret (a e st k : Nat) (h1 : st ≤ k) (h2 : a ≤ k) (h3 : k < e) : markPart a e st (k + 1) = markPart a e st k ++ [94] := by
  unfold markPart blanks carets
  rw [show min (k + 1) e - max st a = (min k e - max st a) + 1 by omega, show min (k + 1) a - st = min k a - st by omega, List.replicate_succ']
  simp

theorem markPart_none (a e st k : Nat) (_h1 : st ≤ k) (h2 : a ≤ k) (h3 : e ≤ k) : markPart a e st (k + 1) = markPart a e st k := by
  unfold markPart
  rw [show min (k + 1) e = min k e by omega, show min (k + 1) a = min k a by omega]

theorem markPart_length (a e st k : Nat) : (markPart a e st k).length ≤ 2 * k := by
  unfold markPart blanks carets
  simp
  omega

/-- is something marked before k? -/
def some? (a e st k : Nat) : Bool := decide (max st a < min k e)

theorem marks_some (l : List UInt8) (a e n : Nat) (h1 : 1 ≤ n) (hn : n ≤ (starts l).length) (h : some? a e (bol l (n - 1)) (endL l n) = true) :
    markPart a e (bol l (n - 1)) (endL l n) = marksL l a e n := by
  simp only [some?, decide_eq_true_eq] at h
  unfold marksL markPart
  simp only [content_length l n h1 hn]
  rw [if_pos (by omega)]
  congr 2 <;> omega

theorem marks_none (l : List UInt8) (a e n : Nat) (h1 : 1 ≤ n) (hn : n ≤ (starts l).length) (hst : bol l (n - 1) ≤ e) (h : some? a e (bol l (n - 1)) (endL l n) = false) :
    marksL l a e n = blanks (a - bol l (n - 1)) ++ [94] := by
  simp only [some?, decide_eq_false_iff_not] at h
  have := bol_le_endL l n h1 hn
  unfold marksL
  simp only [content_length l n h1 hn]
  rw [if_neg (by omega)]

theorem some?_zero (a e st : Nat) : some? a e st st = false := by simp [some?]; omega
theorem some?_caret (a e st k : Nat) (h1 : st ≤ k) (h2 : a ≤ k) (h3 : k < e) : some? a e st (k + 1) = true := by simp [some?]; omega
theorem some?_blank (a e st k : Nat) (h2 : k < a) : some? a e st (k + 1) = some? a e st k := by
  unfold some?
  rw [show decide (max st a < min (k + 1) e) = false by simp; omega, show decide (max st a < min k e) = false by simp; omega]
theorem some?_none (a e st k : Nat) (h3 : e ≤ k) : some? a e st (k + 1) = some? a e st k := by
  unfold some?
  rw [show min (k + 1) e = min k e by omega]

theorem blanks_add (m n : Nat) : blanks m ++ blanks n = blanks (m + n) := by unfold blanks; rw [List.replicate_append_replicate]

end Src
end Go.Proofs.YtiimacmaepheeaaDoor
