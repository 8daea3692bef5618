/-
  Plain facts about texts as lists of bytes: where lines begin. No program in sight.
-/
import Derived.WalkKit
namespace Go.Proofs.YtiimacmaepheeaaDoor
namespace Src

/-- the offsets behind the line feeds of a text that begins at offset k -/
def feeds (k : Nat) : List UInt8 → List Nat
  | [] => []
  | c :: cs => if c = 10 then (k + 1) :: feeds (k + 1) cs else feeds (k + 1) cs

theorem feeds_append (k : Nat) (a b : List UInt8) : feeds k (a ++ b) = feeds k a ++ feeds (k + a.length) b := by
  induction a generalizing k with
  | nil => simp [feeds]
  | cons c cs ih =>
    simp only [List.cons_append, feeds, ih, List.length_cons]
    rw [show k + 1 + cs.length = k + (cs.length + 1) by omega]
    split <;> simp

/-- where the lines of a text begin -/
def starts (l : List UInt8) : List Nat := 0 :: feeds 0 l

theorem starts_snoc (l : List UInt8) (c : UInt8) : starts (l ++ [c]) = if c = 10 then starts l ++ [l.length + 1] else starts l := by
  simp only [starts, feeds_append, feeds]
  split <;> simp

theorem feeds_mem {k : Nat} {l : List UInt8} {x : Nat} : x ∈ feeds k l ↔ ∃ i, ∃ h : i < l.length, l[i] = 10 ∧ x = k + i + 1 := by
  induction l generalizing k with
  | nil => simp [feeds]
  | cons c cs ih =>
    simp only [feeds]
    constructor
    · intro h
      split at h
      · rename_i hc
        rcases List.mem_cons.1 h with h | h
        · exact ⟨0, by simp, by simpa using hc, by omega⟩
        · obtain ⟨i, hi, he, hx⟩ := ih.1 h
          exact ⟨i + 1, by simp; omega, by simpa using he, by omega⟩
      · obtain ⟨i, hi, he, hx⟩ := ih.1 h
        exact ⟨i + 1, by simp; omega, by simpa using he, by omega⟩
    · rintro ⟨i, hi, he, hx⟩
      cases i with
      | zero =>
        have hc : c = 10 := by simpa using he
        rw [if_pos hc]
        exact List.mem_cons.2 (.inl (by omega))
      | succ i =>
        have : x ∈ feeds (k + 1) cs := ih.2 ⟨i, by simpa using hi, by simpa using he, by omega⟩
        split
        · exact List.mem_cons.2 (.inr this)
        · exact this

theorem feeds_length_le (k : Nat) (l : List UInt8) : (feeds k l).length ≤ l.length := by
  induction l generalizing k with
  | nil => simp [feeds]
  | cons c cs ih => simp only [feeds]; have := ih (k + 1); split <;> simp <;> omega

theorem feeds_sorted (k : Nat) (l : List UInt8) : (feeds k l).Pairwise (· < ·) := by
  induction l generalizing k with
  | nil => simp [feeds]
  | cons c cs ih =>
    simp only [feeds]
    split
    · refine List.pairwise_cons.2 ⟨fun x hx => ?_, ih _⟩
      obtain ⟨i, _, _, hx⟩ := feeds_mem.1 hx
      omega
    · exact ih _

theorem starts_sorted (l : List UInt8) : (starts l).Pairwise (· < ·) := by
  refine List.pairwise_cons.2 ⟨fun x hx => ?_, feeds_sorted _ _⟩
  obtain ⟨i, _, _, hx⟩ := feeds_mem.1 hx
  omega

theorem starts_length_pos (l : List UInt8) : 0 < (starts l).length := by simp [starts]
theorem starts_length_le (l : List UInt8) : (starts l).length ≤ l.length + 1 := by
  have := feeds_length_le 0 l
  simp [starts]; omega

theorem starts_le {l : List UInt8} {x : Nat} (h : x ∈ starts l) : x ≤ l.length := by
  rcases List.mem_cons.1 h with h | h
  · omega
  · obtain ⟨i, hi, _, hx⟩ := feeds_mem.1 h
    omega

/-- the begin of line i (0 is the first one) -/
def bol (l : List UInt8) (i : Nat) : Nat := (starts l)[i]?.getD 0

theorem bol_of_lt {l : List UInt8} {i : Nat} (h : i < (starts l).length) : bol l i = (starts l)[i] := by simp [bol, h]

theorem bol_le (l : List UInt8) (i : Nat) : bol l i ≤ l.length := by
  by_cases h : i < (starts l).length
  · rw [bol_of_lt h]; exact starts_le (List.getElem_mem h)
  · simp [bol, List.getElem?_eq_none (Nat.le_of_not_lt h)]

theorem bol_lt (l : List UInt8) {i j : Nat} (hij : i < j) (hj : j < (starts l).length) : bol l i < bol l j := by
  rw [bol_of_lt hj, bol_of_lt (Nat.lt_trans hij hj)]
  exact List.pairwise_iff_getElem.1 (starts_sorted l) i j (by omega) hj hij

theorem bol_zero (l : List UInt8) : bol l 0 = 0 := by simp [bol, starts]

/-- how many lines begin at or before an offset: the number of its line -/
def lineOf (l : List UInt8) (a : Int) : Nat := (starts l).countP fun (x : Nat) => decide ((x : Int) ≤ a)

theorem starts_take (l : List UInt8) (k : Nat) (hk : k < l.length) : starts (l.take (k + 1)) = if l[k] = 10 then starts (l.take k) ++ [k + 1] else starts (l.take k) := by
  rw [List.take_succ_eq_append_getElem hk, starts_snoc, List.length_take, Nat.min_eq_left (by omega)]

theorem starts_take_le (l : List UInt8) (k : Nat) : (starts (l.take k)).length ≤ k + 1 :=
  Nat.le_trans (starts_length_le _) (by have := List.length_take_le k l; omega)

end Src
end Go.Proofs.YtiimacmaepheeaaDoor
