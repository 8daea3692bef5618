/-
  The walks of package source: the number of a line.
-/
import Derived.Test.YtiimacmaepheeaaDoorSrcWalksA
import Derived.RegionTactic
import Derived.Test.YtiimacmaepheeaaDoorSrcPos
import Derived.Test.YtiimacmaepheeaaDoorMem
import Derived.Test.YtiimacmaepheeaaDoorShelf
namespace Go.Proofs.YtiimacmaepheeaaDoor
open Go.RowKit
open Src

set_option maxHeartbeats 400000 in
theorem line1_any (b bx ba : Nat) (s : ByteArray) (i : Nat) (a : Int) (w : World) (h : IsIndex w b s) (hs : s.size ≤ 1000) (hi : i < (starts s.data.toList).length)
    (hx : w.cell? ⟨bx, 0, none⟩ = some (.pointer (some ⟨b, 0, none⟩))) (ha : w.cell? ⟨ba, 0, none⟩ = some (.int .i64 a)) :
    Calls Tryd.prog 43 (#[.int .i64 (i : Nat)] ++ #[.pointer (some ⟨bx, 0, none⟩), .pointer (some ⟨ba, 0, none⟩)]) w fun e w' => e = .returned (.bool (decide (a < (bol s.data.toList i : Int)))) ∧ ∃ q, w' = w.drewN q := by
  obtain ⟨g, cap, h0, h1, h2⟩ := h
  have hc := h2 i hi
  clear h2
  have hl := starts_length_le s.data.toList
  have hsz : s.data.toList.length = s.size := by simp
  rw [hsz] at hl
  clear hsz
  have hiz : (i : Int) < ((starts s.data.toList).length : Int) := by omega
  go_enter Tryd.func43, Tryd.ntmps43
  go_wp2
  go_quiet (fail)
  go_wp2
  go_ret
  exact ⟨rfl, _, rfl⟩

theorem below_grow (w : World) (q : Nat) (os : Array Obj) : Below w.heap.size w (Go.Sort.grow (w.drewN q) os) := below_grown_sl w.heap.size w q os (Nat.le_refl _)

set_option maxHeartbeats 1000000 in
theorem line_any (b : Nat) (s : ByteArray) (a : Nat) (w : World) (h : IsIndex w b s) (hs : s.size ≤ 1000) (ha : a ≤ s.size) :
    Calls Tryd.prog 27 #[.pointer (some ⟨b, 0, none⟩), .int .i64 (a : Nat)] w fun e w' => e = .returned (.int .i64 (lineN s.data.toList a : Nat)) ∧ Below w.heap.size w w' := by
  have hl := starts_length_le s.data.toList
  have hsz : s.data.toList.length = s.size := by simp
  rw [hsz] at hl
  have hcount := lineN_count s.data.toList a (by omega)
  clear hsz
  have hb2 : Below w.heap.size w ((w.alloc (.cells #[.pointer (some ⟨b, 0, none⟩)] 23)).alloc (.cells #[.int .i64 (a : Int)] 3)) := ((Below.refl _ _).alloc (Nat.le_refl _) _).alloc (by simp) _
  have hbx : Whole ((w.alloc (.cells #[.pointer (some ⟨b, 0, none⟩)] 23)).alloc (.cells #[.int .i64 (a : Int)] 3)) w.heap.size 23 #[.pointer (some ⟨b, 0, none⟩)] := (Whole.new _ _ _).alloc _
  have hba : Whole ((w.alloc (.cells #[.pointer (some ⟨b, 0, none⟩)] 23)).alloc (.cells #[.int .i64 (a : Int)] 3)) (w.heap.size + 1) 3 #[.int .i64 (a : Int)] := by
    have := Whole.new (w.alloc (.cells #[.pointer (some ⟨b, 0, none⟩)] 23)) 3 #[.int .i64 (a : Int)]
    simpa using this
  have hsearch := Any.sort_Search Tryd.laysSearch 43 #[.pointer (some ⟨w.heap.size, 0, none⟩), .pointer (some ⟨w.heap.size + 1, 0, none⟩)] (starts s.data.toList).length (fun i => decide ((a : Int) < (bol s.data.toList i : Int)))
    ((w.alloc (.cells #[.pointer (some ⟨b, 0, none⟩)] 23)).alloc (.cells #[.int .i64 (a : Int)] 3)) (enters_of Tryd.func43 (by kernel_rfl) rfl) (by omega)
    (fun m os i hi => by
      have hb3 := hb2.trans (Below.mono (below_grow _ m os) hb2.size)
      refine (line1_any b w.heap.size (w.heap.size + 1) s i a _ (h.below hb3) hs hi ?_ ?_).mono fun e w' ⟨he, q, hq⟩ => ⟨he, q, #[], by rw [hq, Go.Sort.grow_empty]⟩
      · rw [(below_grow _ m os).cell (by simp; omega), hbx.cell]; rfl
      · rw [(below_grow _ m os).cell (by simp), hba.cell]; rfl)
    (fun i j hij hj hi => by
      simp only [decide_eq_true_eq] at hi ⊢
      rcases Nat.lt_or_ge i j with hlt | hge
      · have := bol_lt s.data.toList hlt hj; omega
      · obtain rfl : i = j := by omega
        exact hi)
  rw [hcount] at hsearch
  change Calls Tryd.prog 42 _ _ _ at hsearch
  obtain ⟨g, cap, h0, h1, h2⟩ := h
  clear h2 h0
  have h1' := (hb2.cell (p := ⟨b, 1, none⟩) (World.block_lt_of_cell? _ _ h1)).trans h1
  have hmf : ∀ (fn : Fn) (first cap : Array Value) (w : World), (Instr.makeFunc fn first cap).run Tryd.prog w = .ok (.func fn first cap) w := fun _ _ _ _ => rfl
  have HS := Lib.hid hsearch
  have HB := Lib.hid hb2
  clear hsearch hcount hbx hba hb2
  go_enter Tryd.func27, Tryd.ntmps27
  go_wp2_with fail
  refine HS.out.mono ?_
  rintro e w' ⟨rfl, q, os, rfl⟩
  go_wp2
  go_ret
  exact ⟨rfl, HB.out.trans (Below.mono (below_grow _ q os) HB.out.size)⟩

end Go.Proofs.YtiimacmaepheeaaDoor
