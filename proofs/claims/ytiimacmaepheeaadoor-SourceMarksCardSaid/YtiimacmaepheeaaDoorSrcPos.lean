/-
  Plain facts: positions and offsets in a text. No program in sight.
-/
import Derived.Test.YtiimacmaepheeaaDoorSrcPlain
namespace Go.Proofs.YtiimacmaepheeaaDoor
namespace Src

/-- the line of an offset -/
def lineN (l : List UInt8) (a : Nat) : Nat := (starts (l.take a)).length
/-- the column of an offset -/
def colN (l : List UInt8) (a : Nat) : Nat := a - bol l (lineN l a - 1) + 1

theorem starts_split (l : List UInt8) (a : Nat) (ha : a ≤ l.length) : starts l = starts (l.take a) ++ feeds a (l.drop a) := by
  conv => lhs; rw [← List.take_append_drop a l]
  simp only [starts, feeds_append, List.length_take, Nat.min_eq_left ha, Nat.zero_add, List.cons_append]

theorem lineN_pos (l : List UInt8) (a : Nat) : 1 ≤ lineN l a := starts_length_pos _
theorem lineN_le (l : List UInt8) (a : Nat) (ha : a ≤ l.length) : lineN l a ≤ (starts l).length := by
  rw [starts_split l a ha, List.length_append]; exact Nat.le_add_right _ _

theorem bol_take (l : List UInt8) (a i : Nat) (ha : a ≤ l.length) (hi : i < lineN l a) : bol l i = bol (l.take a) i := by
  unfold lineN at hi
  have h := lineN_le l a ha
  unfold lineN at h
  rw [bol_of_lt (by omega), bol_of_lt hi]
  simp only [starts_split l a ha]
  exact List.getElem_append_left hi

theorem bol_le_at (l : List UInt8) (a i : Nat) (ha : a ≤ l.length) (hi : i < lineN l a) : bol l i ≤ a := by
  rw [bol_take l a i ha hi]
  have := bol_le (l.take a) i
  rw [List.length_take] at this
  omega

theorem bol_gt_at (l : List UInt8) (a i : Nat) (ha : a ≤ l.length) (hi : lineN l a ≤ i) (hn : i < (starts l).length) : a < bol l i := by
  rw [bol_of_lt hn]
  simp only [starts_split l a ha]
  unfold lineN at hi
  rw [List.getElem_append_right hi]
  obtain ⟨j, _, _, hx⟩ := feeds_mem.1 (List.getElem_mem (l := feeds a (l.drop a)) (n := i - (starts (l.take a)).length) (by
    have := congrArg List.length (starts_split l a ha); rw [List.length_append] at this; omega))
  omega

theorem lineN_zero (l : List UInt8) : lineN l 0 = 1 := by simp [lineN, starts, feeds]
theorem colN_zero (l : List UInt8) : colN l 0 = 1 := by simp [colN]
theorem lineN_end (l : List UInt8) : lineN l l.length = (starts l).length := by simp [lineN]

theorem lineN_succ (l : List UInt8) (a : Nat) (ha : a < l.length) : lineN l (a + 1) = if l[a] = 10 then lineN l a + 1 else lineN l a := by
  unfold lineN
  rw [starts_take l a ha]
  split <;> simp

theorem colN_feed (l : List UInt8) (a : Nat) (ha : a < l.length) (h : l[a] = 10) : colN l (a + 1) = 1 := by
  unfold colN
  rw [lineN_succ l a ha, if_pos h, Nat.add_sub_cancel, bol_take l (a + 1) _ (by omega) (by rw [lineN_succ l a ha, if_pos h]; omega)]
  have : bol (l.take (a + 1)) (lineN l a) = a + 1 := by
    have hs := starts_take l a ha
    rw [if_pos h] at hs
    unfold bol lineN
    rw [hs, List.getElem?_append_right (by simp)]
    simp
  rw [this]; omega
theorem colN_plain (l : List UInt8) (a : Nat) (ha : a < l.length) (h : l[a] ≠ 10) : colN l (a + 1) = colN l a + 1 := by
  unfold colN
  rw [lineN_succ l a ha, if_neg h]
  have := bol_le_at l a (lineN l a - 1) (by omega) (by have := lineN_pos l a; omega)
  omega

theorem colN_pos (l : List UInt8) (a : Nat) : 1 ≤ colN l a := by unfold colN; omega
theorem colN_le (l : List UInt8) (a : Nat) : colN l a ≤ a + 1 := by unfold colN; omega

/-- how many of the first n lines begin at or before a -/
theorem lineN_count (l : List UInt8) (a : Nat) (ha : a ≤ l.length) :
    (List.range (starts l).length).countP (fun i => !decide ((a : Int) < (bol l i : Int))) = lineN l a := by
  have hle := lineN_le l a ha
  obtain ⟨m, hm⟩ : ∃ m, (starts l).length = lineN l a + m := ⟨_, (Nat.add_sub_of_le hle).symm⟩
  rw [hm, List.range_add, List.countP_append]
  have h1 : (List.range (lineN l a)).countP (fun i => !decide ((a : Int) < (bol l i : Int))) = lineN l a := by
    rw [List.countP_eq_length.2]
    · simp
    · intro i hi
      have := bol_le_at l a i ha (List.mem_range.1 hi)
      simp; omega
  have h2 : ((List.range m).map (lineN l a + ·)).countP (fun i => !decide ((a : Int) < (bol l i : Int))) = 0 := by
    rw [List.countP_eq_zero]
    intro i hi
    obtain ⟨j, hj, rfl⟩ := List.mem_map.1 hi
    have hj := List.mem_range.1 hj
    have := bol_gt_at l a (lineN l a + j) ha (by omega) (by omega)
    simp; omega
  omega

/-- the last offset whose position is in line k (1 is the first line) -/
def lastOf (l : List UInt8) (k : Nat) : Nat := if k = (starts l).length then l.length else bol l k - 1

theorem bol_le_lastOf (l : List UInt8) (k : Nat) (h1 : 1 ≤ k) (hk : k ≤ (starts l).length) : bol l (k - 1) ≤ lastOf l k := by
  unfold lastOf
  split
  · exact bol_le _ _
  · have := bol_lt l (i := k - 1) (j := k) (by omega) (by omega); omega
theorem lastOf_le (l : List UInt8) (k : Nat) : lastOf l k ≤ l.length := by
  unfold lastOf
  split
  · omega
  · have := bol_le l k; omega

/-- the line of an offset, by where lines begin and end -/
theorem lineN_iff (l : List UInt8) (a k : Nat) (ha : a ≤ l.length) (h1 : 1 ≤ k) (hk : k ≤ (starts l).length) : lineN l a = k ↔ bol l (k - 1) ≤ a ∧ a ≤ lastOf l k := by
  have hp := lineN_pos l a
  have hle := lineN_le l a ha
  constructor
  · rintro rfl
    refine ⟨bol_le_at l a _ ha (by omega), ?_⟩
    unfold lastOf
    split
    · exact ha
    · have := bol_gt_at l a (lineN l a) ha (Nat.le_refl _) (by omega); omega
  · rintro ⟨h2, h3⟩
    apply Classical.byContradiction
    intro hne
    rcases Nat.lt_or_ge (lineN l a) k with h | h
    · have := bol_gt_at l a (k - 1) ha (by omega) (by omega); omega
    · unfold lastOf at h3
      rw [if_neg (by omega)] at h3
      have := bol_le_at l a k ha (by omega)
      have := bol_lt l (i := k - 1) (j := k) (by omega) (by omega)
      omega

/-- the offset with a position -/
def offs (l : List UInt8) (line column : Int) : Option Nat :=
  if 1 ≤ line ∧ line ≤ (starts l).length ∧ 1 ≤ column ∧ column - 1 ≤ (lastOf l line.toNat : Int) - bol l (line.toNat - 1) then some (bol l (line.toNat - 1) + (column - 1).toNat) else none

theorem offs_iff (l : List UInt8) (line column : Int) (a : Nat) (ha : a ≤ l.length) : offs l line column = some a ↔ (lineN l a : Int) = line ∧ (colN l a : Int) = column := by
  have hp := lineN_pos l a
  have hc := colN_pos l a
  have hle := lineN_le l a ha
  unfold offs
  constructor
  · intro h
    split at h
    · rename_i hh
      obtain ⟨h1, h2, h3, h4⟩ := hh
      simp only [Option.some.injEq] at h
      have hb := bol_le_lastOf l line.toNat (by omega) (by omega)
      have e := (lineN_iff l a line.toNat ha (by omega) (by omega)).2 (by omega)
      refine ⟨by omega, ?_⟩
      unfold colN
      rw [e]
      omega
    · cases h
  · rintro ⟨rfl, rfl⟩
    obtain ⟨h1, h2⟩ := (lineN_iff l a (lineN l a) ha hp hle).1 rfl
    have e : ((lineN l a : Nat) : Int).toNat = lineN l a := by omega
    rw [e]
    unfold colN at hc ⊢
    rw [if_pos ⟨by omega, by omega, by omega, by omega⟩]
    congr 1
    omega

theorem offs_le (l : List UInt8) (line column : Int) (a : Nat) (h : offs l line column = some a) : a ≤ l.length := by
  unfold offs at h
  split at h
  · rename_i hh
    obtain ⟨h1, h2, h3, h4⟩ := hh
    have hb := bol_le_lastOf l line.toNat (by omega) (by omega)
    have := lastOf_le l line.toNat
    simp only [Option.some.injEq] at h
    omega
  · cases h

theorem offs_line (l : List UInt8) (line : Int) : offs l line 1 = if 1 ≤ line ∧ line ≤ (starts l).length then some (bol l (line.toNat - 1)) else none := by
  unfold offs
  by_cases h : 1 ≤ line ∧ line ≤ (starts l).length
  · have hb := bol_le_lastOf l line.toNat (by omega) (by omega)
    rw [if_pos ⟨h.1, h.2, by omega, by omega⟩, if_pos h]
    simp
  · rw [if_neg h, if_neg (by rintro ⟨a, b, _⟩; exact h ⟨a, b⟩)]

end Src
end Go.Proofs.YtiimacmaepheeaaDoor
