/-
  Small facts about memory: a block that is known whole; rows that a call owns.
-/
import Derived.WalkKit
import Derived.WalkSpells
import Derived.Lib.Hide
import Derived.Deep.Draws
import Derived.WalkSmall
namespace Go.Proofs.YtiimacmaepheeaaDoor
open Go.RowKit

/-- block g holds just the cells cs of the element type t, none of them frozen -/
def Whole (w : World) (g : Nat) (t : TypeId) (cs : Array Value) : Prop := w.heap[g]? = some (.cells cs t (0, 0))

section
variable {w w' : World} {g : Nat} {t : TypeId} {cs : Array Value}
theorem Whole.lt (h : Whole w g t cs) : g < w.heap.size := by
  apply Classical.byContradiction
  intro hn
  unfold Whole at h
  rw [Array.getElem?_eq_none (Nat.le_of_not_lt hn)] at h
  cases h
theorem Whole.cell (h : Whole w g t cs) (i : Nat) : w.cell? ⟨g, i, none⟩ = cs[i]? := by
  unfold Whole at h; simp [World.cell?, h]
theorem Whole.free (h : Whole w g t cs) (i : Nat) : w.frozen? ⟨g, i, none⟩ = false := by
  unfold Whole at h; simp [World.frozen?, h]
theorem Whole.new (w : World) (t : TypeId) (cs : Array Value) : Whole (w.alloc (.cells cs t)) w.heap.size t cs := heap_alloc_new w _
theorem Whole.alloc (h : Whole w g t cs) (o : Obj) : Whole (w.alloc o) g t cs := (Below.heap_alloc w o g h.lt).trans h
theorem Whole.set (h : Whole w g t cs) (i : Nat) (u : Value) : Whole (w.setCell ⟨g, i, none⟩ u) g t (cs.setIfInBounds i u) := by
  unfold Whole at h ⊢
  simp [World.setCell, Array.getElem?_modify, h]
theorem Whole.far (h : Whole w g t cs) {p : Addr} (hp : g ≠ p.block) (u : Value) : Whole (w.setCell p u) g t cs := (Below.heap_setCell w p u g hp).trans h
theorem Whole.below {B : Nat} (h : Whole w g t cs) (hb : Below B w w') (hg : g < B) : Whole w' g t cs := (hb.block g hg).trans h
theorem Whole.grown {row : Option Nat} (h : Whole w g t cs) (hb : w.grownBy w' row) (hg : some g ≠ row) : Whole w' g t cs := (hb.block g h.lt hg).trans h
end

/-- an owned row that holds something: where it lies -/
theorem ownsRow_form {w : World} {base : Nat} {e : TypeId} {size n : Nat} {v : Value} {xs : List Value} (h : w.ownsRow base e size v n xs) (hn : 0 < n) :
    ∃ g cap cur, v = .slice (some ⟨g, 0, none⟩) n cap ∧ base ≤ g ∧ Whole w g e cur ∧ n ≤ cap ∧ cap ≤ maxLen ∧ cur.size = cap * size ∧ cur.toList.take (n * size) = xs := by
  rcases h.2 with ⟨_, h0⟩ | ⟨g, cap, cur, hv, hb, hw, h1, h2, h3, h4⟩
  · omega
  · exact ⟨g, cap, cur, hv, hb, hw, h1, h2, h3, h4⟩

/-- an owned row never lies in a block of another element type -/
theorem ownsRow_ne {w : World} {base : Nat} {e : TypeId} {size n : Nat} {v : Value} {xs : List Value} (h : w.ownsRow base e size v n xs) {g : Nat} {t : TypeId} {cs : Array Value}
    (hg : Whole w g t cs) (ht : e ≠ t) : some g ≠ v.ownBlock := by
  rcases h.2 with ⟨hv, _⟩ | ⟨g', cap, cur, hv, _, hw, _⟩
  · rw [hv]; simp [Value.ownBlock]
  · rw [hv]
    simp only [Value.ownBlock, ne_eq, Option.some.injEq]
    rintro rfl
    unfold Whole at hg
    rw [hw] at hg
    simp only [Option.some.injEq, Obj.cells.injEq] at hg
    exact ht hg.2.1

/-- an owned row behind a store into another block -/
theorem ownsRow_far {w : World} {base : Nat} {e : TypeId} {size n : Nat} {v : Value} {xs : List Value} (h : w.ownsRow base e size v n xs) {p : Addr} (hp : some p.block ≠ v.ownBlock) (u : Value) :
    (w.setCell p u).ownsRow base e size v n xs := by
  refine ⟨h.1, ?_⟩
  rcases h.2 with h0 | ⟨g, cap, cur, hv, hb, hw, h1⟩
  · exact .inl h0
  · refine .inr ⟨g, cap, cur, hv, hb, ?_, h1⟩
    refine (Below.heap_setCell w p u g ?_).trans hw
    rintro rfl
    rw [hv] at hp
    exact hp rfl

/-- an owned row in a world where all that lay stands -/
theorem ownsRow_below {w w' : World} {base : Nat} {e : TypeId} {size n : Nat} {v : Value} {xs : List Value} (h : w.ownsRow base e size v n xs) (hb : Below w.heap.size w w') :
    w'.ownsRow base e size v n xs := by
  refine ⟨h.1, ?_⟩
  rcases h.2 with h0 | ⟨g, cap, cur, hv, hbase, hw, h1⟩
  · exact .inl h0
  · exact .inr ⟨g, cap, cur, hv, hbase, (hb.block g (Whole.lt (t := e) (cs := cur) hw)).trans hw, h1⟩

/-- Below, behind a growth that writes a row of the call's own alone -/
theorem below_grown {B : Nat} {a w w' : World} {row : Option Nat} (h : Below B a w) (hg : w.grownBy w' row) (hr : ∀ k, row = some k → B ≤ k) (hB : B ≤ w.heap.size) : Below B a w' := h.grown hg hB hr

theorem drawn_below {w w' : World} (h : ∃ q, w' = w.drewN q) : Below w.heap.size w w' := by
  obtain ⟨q, rfl⟩ := h
  exact below_drewN (Below.refl _ _) q

theorem ret_i64 {a b : Int} (h : a = b) : Ending.returned (.int .i64 a) = .returned (.int .i64 b) := by rw [h]
theorem ret2_ii {a b c d : Int} (h : a = c) (k : b = d) : Ending.returned (.tuple #[.int .i64 a, .int .i64 b]) = .returned (.tuple #[.int .i64 c, .int .i64 d]) := by rw [h, k]
theorem ret2_ib {a c : Int} {b d : Bool} (h : a = c) (k : b = d) : Ending.returned (.tuple #[.int .i64 a, .bool b]) = .returned (.tuple #[.int .i64 c, .bool d]) := by rw [h, k]
theorem ret_bool {a b : Bool} (h : a = b) : Ending.returned (.bool a) = .returned (.bool b) := by rw [h]
theorem ret_str {a b : ByteArray} (h : a = b) : Ending.returned (.string a) = .returned (.string b) := by rw [h]

/-- a string out of a list of bytes -/
def str (l : List UInt8) : ByteArray := ⟨l.toArray⟩
theorem str_size (l : List UInt8) : (str l).size = l.length := by simp [str, ByteArray.size]
theorem str_append (a b : List UInt8) : str a ++ str b = str (a ++ b) := by
  apply ByteArray.ext
  simp [str]
theorem str_push (b : ByteArray) (l : List UInt8) (c : UInt8) : b ++ str l ++ ⟨#[c]⟩ = b ++ str (l ++ [c]) := by
  rw [← str_append, ByteArray.append_assoc]; rfl
theorem str_nil (b : ByteArray) : b ++ str [] = b := by
  apply ByteArray.ext
  simp [str]
theorem str_list (l : List UInt8) : (str l).data.toList = l := by simp [str]
theorem str_of (s : ByteArray) : str s.data.toList = s := by
  apply ByteArray.ext
  simp [str]

/-- a slice of strings that reads as xs -/
def StrsAt (w : World) (A : Option Addr) (xs : List (List UInt8)) : Prop :=
  xs = [] ∨ ∃ g : Nat, A = some ⟨g, 0, none⟩ ∧ ∀ k (h : k < xs.length), w.cell? ⟨g, k, none⟩ = some (.string (str xs[k]))

theorem StrsAt.below {w w' : World} {A : Option Addr} {xs : List (List UInt8)} (h : StrsAt w A xs) (hb : Below w.heap.size w w') : StrsAt w' A xs := by
  rcases h with h | ⟨g, hA, hc⟩
  · exact .inl h
  · exact .inr ⟨g, hA, fun k hk => (hb.cell (p := ⟨g, k, none⟩) (World.block_lt_of_cell? _ _ (hc k hk))).trans (hc k hk)⟩

theorem StrsAt.of_own {w : World} {base : Nat} {e : TypeId} {A : Option Addr} {n cap : Nat} {xs : List (List UInt8)} (h : w.ownsRow base e 1 (.slice A n cap) n (xs.map fun x => .string (str x))) : n = xs.length ∧ StrsAt w A xs := by
  have hl := h.1
  simp only [List.length_map, Nat.mul_one] at hl
  refine ⟨hl.symm, ?_⟩
  by_cases hn : n = 0
  · left
    exact List.eq_nil_of_length_eq_zero (by omega)
  · right
    obtain ⟨g, cap', cur, hv, _⟩ := ownsRow_form h (by omega)
    simp only [Value.slice.injEq] at hv
    obtain ⟨rfl, -, rfl⟩ := hv
    refine ⟨g, rfl, fun k hk => ?_⟩
    rw [World.ownsRow.cellAt h k (by omega), List.getElem?_map, List.getElem?_eq_getElem hk]
    rfl

end Go.Proofs.YtiimacmaepheeaaDoor
