/-
  Plain facts: where the content of a line ends. No program in sight.
-/
import Derived.Test.YtiimacmaepheeaaDoorSrcPos
import Derived.Lib.Strings
namespace Go.Proofs.YtiimacmaepheeaaDoor
namespace Src

theorem no_feed (l : List UInt8) (k j : Nat) (h1 : 1 ≤ k) (hk : k ≤ (starts l).length) (ha : bol l (k - 1) ≤ j) (hb : j < lastOf l k) (hj : j < l.length) : l[j] ≠ 10 := by
  intro hc
  have e1 := (lineN_iff l j k (by omega) h1 hk).2 ⟨ha, by omega⟩
  have e2 := (lineN_iff l (j + 1) k (by omega) h1 hk).2 ⟨by omega, by omega⟩
  have := lineN_succ l j hj
  rw [if_pos hc] at this
  omega

theorem lastOf_lt (l : List UInt8) (k : Nat) (h1 : 1 ≤ k) (hk : k < (starts l).length) : lastOf l k + 1 = bol l k ∧ lastOf l k < l.length := by
  have hlt := bol_lt l (i := k - 1) (j := k) (by omega) hk
  have := bol_le l k
  unfold lastOf
  rw [if_neg (by omega)]
  omega

theorem feed_at (l : List UInt8) (k : Nat) (h1 : 1 ≤ k) (hk : k < (starts l).length) (hl : lastOf l k < l.length) : l[lastOf l k] = 10 := by
  obtain ⟨e, _⟩ := lastOf_lt l k h1 hk
  have hb := bol_le_lastOf l k h1 (by omega)
  apply Classical.byContradiction
  intro hc
  have e1 := (lineN_iff l (lastOf l k) k (by omega) h1 (by omega)).2 ⟨hb, Nat.le_refl _⟩
  have hs := lineN_succ l (lastOf l k) hl
  rw [if_neg hc, e1, e] at hs
  have e2 := (lineN_iff l (bol l k) (k + 1) (bol_le _ _) (by omega) (by omega)).2 ⟨by simp, by simpa using bol_le_lastOf l (k + 1) (by omega) (by omega)⟩
  omega

theorem lastOf_end (l : List UInt8) : lastOf l (starts l).length = l.length := by simp [lastOf]

/-- the bytes from a on before b -/
def cut (l : List UInt8) (a b : Nat) : List UInt8 := (l.drop a).take (b - a)

theorem cut_length (l : List UInt8) (a b : Nat) (hb : b ≤ l.length) : (cut l a b).length = b - a := by
  simp [cut]; omega

/-- the content of line k -/
def contentL (l : List UInt8) (k : Nat) : List UInt8 :=
  if k < (starts l).length then Lib.trimSuffix (cut l (bol l (k - 1)) (lastOf l k)) [13] else cut l (bol l (k - 1)) (lastOf l k)

/-- the offset behind the content of line k -/
def endL (l : List UInt8) (k : Nat) : Nat :=
  if k < (starts l).length ∧ bol l (k - 1) < lastOf l k ∧ l[lastOf l k - 1]? = some 13 then lastOf l k - 1 else lastOf l k

theorem bol_le_endL (l : List UInt8) (k : Nat) (h1 : 1 ≤ k) (hk : k ≤ (starts l).length) : bol l (k - 1) ≤ endL l k := by
  have := bol_le_lastOf l k h1 hk
  unfold endL
  split <;> omega
theorem endL_le_lastOf (l : List UInt8) (k : Nat) : endL l k ≤ lastOf l k := by unfold endL; split <;> omega
theorem endL_le (l : List UInt8) (k : Nat) : endL l k ≤ l.length := Nat.le_trans (endL_le_lastOf l k) (lastOf_le l k)

theorem trim13 (c : List UInt8) : Lib.trimSuffix c [13] = if c.getLast? = some 13 then c.take (c.length - 1) else c := by
  have h : Lib.hasSuffix c [13] = decide (c.getLast? = some 13) := by
    unfold Lib.hasSuffix
    rw [Bool.eq_iff_iff, List.isSuffixOf_iff_suffix, decide_eq_true_eq, List.getLast?_eq_some_iff]
    constructor
    · rintro ⟨t, rfl⟩; exact ⟨t, rfl⟩
    · rintro ⟨t, rfl⟩; exact ⟨t, rfl⟩
  unfold Lib.trimSuffix
  rw [h]
  simp

theorem cut_last (l : List UInt8) (a b : Nat) (hab : a < b) (hb : b ≤ l.length) : (cut l a b).getLast? = l[b - 1]? := by
  rw [List.getLast?_eq_getElem?, cut_length l a b hb]
  unfold cut
  rw [List.getElem?_take_of_lt (by omega), List.getElem?_drop]
  congr 1
  omega

theorem content_cut (l : List UInt8) (k : Nat) (h1 : 1 ≤ k) (hk : k ≤ (starts l).length) : contentL l k = cut l (bol l (k - 1)) (endL l k) := by
  have hb := bol_le_lastOf l k h1 hk
  have hl := lastOf_le l k
  unfold contentL endL
  by_cases hlt : k < (starts l).length
  · rw [if_pos hlt, trim13]
    by_cases hne : bol l (k - 1) < lastOf l k
    · rw [cut_last l _ _ hne hl]
      by_cases hc : l[lastOf l k - 1]? = some 13
      · rw [if_pos hc, if_pos ⟨hlt, hne, hc⟩, cut_length l _ _ hl]
        unfold cut
        rw [List.take_take]
        congr 1
        omega
      · rw [if_neg hc, if_neg (fun h => hc h.2.2)]
    · rw [if_neg (c := k < _ ∧ _) (fun h => hne h.2.1)]
      have : cut l (bol l (k - 1)) (lastOf l k) = [] := List.eq_nil_of_length_eq_zero (by rw [cut_length l _ _ hl]; omega)
      rw [this]
      simp
  · rw [if_neg hlt, if_neg (fun h => hlt h.1)]

theorem content_length (l : List UInt8) (k : Nat) (h1 : 1 ≤ k) (hk : k ≤ (starts l).length) : (contentL l k).length = endL l k - bol l (k - 1) := by
  rw [content_cut l k h1 hk, cut_length l _ _ (endL_le l k)]

end Src
end Go.Proofs.YtiimacmaepheeaaDoor
