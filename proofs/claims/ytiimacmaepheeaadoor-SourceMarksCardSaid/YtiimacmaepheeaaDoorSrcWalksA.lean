/-
  The walks of package source: an index in memory; its methods.
-/
import Derived.Test.YtiimacmaepheeaaDoorSrcPlain
import Derived.Test.YtiimacmaepheeaaDoorRows
import Derived.WalkKit
import Derived.WalkSpells
import Derived.WalkLawsBesides
import Derived.Lib.Hide
import Derived.BigQuiet
import Derived.Deep.QuietTactic
namespace Go.Proofs.YtiimacmaepheeaaDoor
open Go.RowKit
open Src

/-- block b is the index of the text s -/
def IsIndex (w : World) (b : Nat) (s : ByteArray) : Prop :=
  ∃ g cap : Nat, w.cell? ⟨b, 0, none⟩ = some (.string s) ∧ w.cell? ⟨b, 1, none⟩ = some (.slice (some ⟨g, 0, none⟩) (starts s.data.toList).length cap) ∧
    ∀ i, i < (starts s.data.toList).length → w.cell? ⟨g, i, none⟩ = some (.int .i64 (bol s.data.toList i))

set_option maxHeartbeats 400000 in
theorem lines_any (b : Nat) (s : ByteArray) (w : World) (h : IsIndex w b s) (hs : s.size ≤ 1000) :
    Calls Tryd.prog 16 #[.pointer (some ⟨b, 0, none⟩)] w fun e w' => e = .returned (.int .i64 ((starts s.data.toList).length : Nat)) ∧ w = w' := by
  obtain ⟨g, cap, h0, h1, h2⟩ := h
  clear h2
  go_enter Tryd.func16, Tryd.ntmps16
  go_wp2
  go_ret
  exact ⟨rfl, rfl⟩


theorem IsIndex.below {w w' : World} {b : Nat} {s : ByteArray} (h : IsIndex w b s) (hb : Below w.heap.size w w') : IsIndex w' b s := by
  obtain ⟨g, cap, h0, h1, h2⟩ := h
  have hl0 : b < w.heap.size := World.block_lt_of_cell? _ _ h0
  refine ⟨g, cap, (hb.cell (p := ⟨b, 0, none⟩) hl0).trans h0, (hb.cell (p := ⟨b, 1, none⟩) hl0).trans h1, fun i hi => ?_⟩
  have hl := World.block_lt_of_cell? _ _ (h2 i hi)
  exact (hb.cell (p := ⟨g, i, none⟩) hl).trans (h2 i hi)

theorem IsIndex.drewN {w : World} {b : Nat} {s : ByteArray} (h : IsIndex w b s) (n : Nat) : IsIndex (w.drewN n) b s := h

set_option maxHeartbeats 400000 in
theorem last_any (b : Nat) (s : ByteArray) (k : Nat) (w : World) (h : IsIndex w b s) (hs : s.size ≤ 1000) (hk1 : 1 ≤ k) (hk : k < (starts s.data.toList).length) :
    Calls Tryd.prog 28 #[.pointer (some ⟨b, 0, none⟩), .int .i64 (k : Nat)] w fun e w' => e = .returned (.int .i64 ((bol s.data.toList k : Int) - 1)) ∧ w = w' := by
  obtain ⟨g, cap, h0, h1, h2⟩ := h
  have hc := h2 k hk
  clear h2
  have hb := bol_le s.data.toList k
  have hd : ((k : Int) == ((starts s.data.toList).length : Int)) = false := by simp; omega
  have hsz : s.data.toList.length = s.size := by simp
  rw [hsz] at hb
  clear hsz
  have hl := starts_length_le s.data.toList
  go_enter Tryd.func28, Tryd.ntmps28
  go_wp2
  go_ret
  exact ⟨rfl, rfl⟩

set_option maxHeartbeats 400000 in
theorem last_end (b : Nat) (s : ByteArray) (k : Nat) (w : World) (h : IsIndex w b s) (hs : s.size ≤ 1000) (hk : k = (starts s.data.toList).length) :
    Calls Tryd.prog 28 #[.pointer (some ⟨b, 0, none⟩), .int .i64 (k : Nat)] w fun e w' => e = .returned (.int .i64 (s.size : Nat)) ∧ w = w' := by
  obtain ⟨g, cap, h0, h1, h2⟩ := h
  clear h2
  subst hk
  go_enter Tryd.func28, Tryd.ntmps28
  go_wp2
  go_ret
  exact ⟨rfl, rfl⟩

end Go.Proofs.YtiimacmaepheeaaDoor
