/-
  Plain facts: the contents of all lines, joined. No program in sight.
-/
import Derived.Test.YtiimacmaepheeaaDoorSrcEnds
import Derived.Lib.Join
namespace Go.Proofs.YtiimacmaepheeaaDoor
namespace Src

theorem join_snoc (sep y : List UInt8) : ∀ (xs : List (List UInt8)), xs ≠ [] → Lib.join (xs ++ [y]) sep = Lib.join xs sep ++ sep ++ y
  | [], h => absurd rfl h
  | [x], _ => by simp [Lib.join, List.intercalate, List.intersperse]
  | x :: z :: r, _ => by
    have ih := join_snoc sep y (z :: r) (by simp)
    simp only [Lib.join, List.intercalate, List.cons_append, List.intersperse, List.flatten_cons, List.append_assoc] at ih ⊢
    rw [ih]

theorem no_cr (l : List UInt8) (h : (13 : UInt8) ∉ l) (k : Nat) : contentL l k = cut l (bol l (k - 1)) (lastOf l k) := by
  unfold contentL
  split
  · rw [trim13, if_neg]
    intro hc
    have := List.mem_of_getLast? hc
    unfold cut at this
    exact h (List.mem_of_mem_drop (List.mem_of_mem_take this))
  · rfl

/-- the contents of the first k lines -/
def firsts (l : List UInt8) (k : Nat) : List (List UInt8) := (List.range k).map fun i => contentL l (i + 1)

theorem firsts_succ (l : List UInt8) (k : Nat) : firsts l (k + 1) = firsts l k ++ [contentL l (k + 1)] := by
  simp [firsts, List.range_succ]
theorem firsts_length (l : List UInt8) (k : Nat) : (firsts l k).length = k := by simp [firsts]

theorem join_firsts (l : List UInt8) (h : (13 : UInt8) ∉ l) : ∀ k, k < (starts l).length → Lib.join (firsts l (k + 1)) [10] = l.take (lastOf l (k + 1))
  | 0, hk => by
    simp only [firsts, List.range_succ, List.range_zero, List.nil_append, List.map_cons, List.map_nil, Lib.join, List.intercalate, List.intersperse, List.flatten_cons, List.flatten_nil, List.append_nil]
    rw [no_cr l h]
    simp [cut, bol_zero]
  | k + 1, hk => by
    have ih := join_firsts l h k (by omega)
    obtain ⟨e, hlt⟩ := lastOf_lt l (k + 1) (by omega) hk
    have hf := feed_at l (k + 1) (by omega) hk hlt
    have hb := bol_le_lastOf l (k + 2) (by omega) (by omega)
    rw [firsts_succ, join_snoc _ _ _ (by intro hn; have := congrArg List.length hn; rw [firsts_length] at this; simp at this), ih, no_cr l h]
    have h1 : l.take (lastOf l (k + 1)) ++ [10] = l.take (bol l (k + 1)) := by
      rw [← e, List.take_succ_eq_append_getElem hlt, hf]
    rw [h1]
    unfold cut
    simp only [Nat.add_sub_cancel] at hb ⊢
    have hb' : bol l (k + 1) ≤ lastOf l (k + 2) := hb
    conv => rhs; rw [show lastOf l (k + 1 + 1) = bol l (k + 1) + (lastOf l (k + 2) - bol l (k + 1)) by show lastOf l (k + 2) = _; omega]
    rw [List.take_add]

theorem join_all (l : List UInt8) (h : (13 : UInt8) ∉ l) : Lib.join (firsts l (starts l).length) [10] = l := by
  have hp := starts_length_pos l
  obtain ⟨n, hn⟩ : ∃ n, (starts l).length = n + 1 := ⟨(starts l).length - 1, by omega⟩
  have := join_firsts l h n (by omega)
  rw [hn, this, ← hn, lastOf_end, List.take_length]

end Src
end Go.Proofs.YtiimacmaepheeaaDoor
