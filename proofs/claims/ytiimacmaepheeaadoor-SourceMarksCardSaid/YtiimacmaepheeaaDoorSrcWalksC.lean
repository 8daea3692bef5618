/-
  The walk of source.New.
-/
import Derived.Test.YtiimacmaepheeaaDoorSrcWalksA
import Derived.Test.YtiimacmaepheeaaDoorMem
namespace Go.Proofs.YtiimacmaepheeaaDoor
open Go.RowKit
open Src

theorem Tryd.info_int : (Tryd.prog.info? 3).map (fun i => (i.zero, i.size, i.bytes)) = some (some (.int .i64 0), 1, 8) := by kernel_rfl

def NewInv (w : World) (s : ByteArray) (k : Nat) (wr : World) : Prop :=
  ∃ v, Whole wr (w.heap.size + 1) 48 #[.string s, v] ∧
    wr.ownsRow w.heap.size 3 1 v (starts (s.data.toList.take k)).length ((starts (s.data.toList.take k)).map fun (x : Nat) => Value.int .i64 x) ∧ Below w.heap.size w wr

theorem newInv_skip {w wr : World} {s : ByteArray} {k : Nat} (h : NewInv w s k wr) (hk : k < s.data.toList.length) (hc : s.data.toList[k] ≠ 10) : NewInv w s (k + 1) wr := by
  obtain ⟨v, h1, h2, h3⟩ := h
  refine ⟨v, h1, ?_, h3⟩
  rw [starts_take _ k hk, if_neg hc]
  exact h2

theorem newInv_more {w wr w1 : World} {s : ByteArray} {k : Nat} {v v' : Value} (h1 : Whole wr (w.heap.size + 1) 48 #[.string s, v])
    (h2 : wr.ownsRow w.heap.size 3 1 v (starts (s.data.toList.take k)).length ((starts (s.data.toList.take k)).map fun (x : Nat) => Value.int .i64 x)) (h3 : Below w.heap.size w wr)
    (hk : k < s.data.toList.length) (hc : s.data.toList[k] = 10)
    (hown : w1.ownsRow w.heap.size 3 1 v' ((starts (s.data.toList.take k)).length + 1) ((starts (s.data.toList.take k)).map (fun (x : Nat) => Value.int .i64 x) ++ [.int .i64 ((k : Int) + 1)]))
    (hg : (wr.alloc (.cells #[.int .i64 ((k : Int) + 1)] 3)).grownBy w1 v.ownBlock) :
    ∃ g cap, v' = .slice (some ⟨g, 0, none⟩) ((starts (s.data.toList.take k)).length + 1) cap ∧ w1.cell? ⟨w.heap.size + 1, 1, none⟩ = some v ∧ w1.frozen? ⟨w.heap.size + 1, 1, none⟩ = false ∧
      NewInv w s (k + 1) (w1.setCell ⟨w.heap.size + 1, 1, none⟩ (.slice (some ⟨g, 0, none⟩) ((starts (s.data.toList.take k)).length + 1) cap)) := by
  obtain ⟨g, cap, cur, rfl, hb, hw, -⟩ := ownsRow_form hown (by omega)
  have hne := ownsRow_ne h2 h1 (by decide)
  have hW1 : Whole w1 (w.heap.size + 1) 48 #[.string s, v] := (h1.alloc _).grown hg hne
  refine ⟨g, cap, rfl, by rw [hW1.cell]; rfl, hW1.free _, .slice (some ⟨g, 0, none⟩) _ cap, hW1.set 1 _, ?_, ?_⟩
  · rw [starts_take _ k hk, if_pos hc, List.length_append, List.map_append]
    refine ownsRow_far hown ?_ _
    exact ownsRow_ne hown hW1 (by decide)
  · refine Below.setCell ?_ (by simp) _
    refine (h3.alloc h3.size _).grown hg (by have := h3.size; simp; omega) fun k' hk' => ?_
    exact (h2.lt k' hk').1

theorem newInv_end {w wr : World} {s : ByteArray} (h : NewInv w s s.size wr) : IsIndex wr (w.heap.size + 1) s ∧ Below w.heap.size w wr := by
  obtain ⟨v, h1, h2, h3⟩ := h
  have ht : s.data.toList.take s.size = s.data.toList := List.take_of_length_le (by simp)
  rw [ht] at h2
  obtain ⟨g, cap, cur, rfl, hb, hw, hn, hm, hsz, hx⟩ := ownsRow_form h2 (starts_length_pos _)
  refine ⟨⟨g, cap, by rw [h1.cell]; rfl, by rw [h1.cell]; rfl, fun i hi => ?_⟩, h3⟩
  rw [World.ownsRow.cellAt h2 i (by omega), List.getElem?_map, bol_of_lt hi, List.getElem?_eq_getElem hi]
  rfl

set_option maxHeartbeats 1000000 in
theorem new_any (s : ByteArray) (w : World) (hs : s.size ≤ 1000) :
    Calls Tryd.prog 11 #[.string s] w fun e w' => e = .returned (.pointer (some ⟨w.heap.size + 1, 0, none⟩)) ∧ IsIndex w' (w.heap.size + 1) s ∧ Below w.heap.size w w' := by
  obtain ⟨i0, hi, hz0, hz1, hz2⟩ := info_parts Tryd.info_int
  go_enter Tryd.func11, Tryd.ntmps11
  go_wp2
  go_loopw [11] (fun i wr => ∃ k : Nat, k ≤ s.size ∧ i = .int .i64 k ∧ NewInv w s k wr) (fun i _ => s.size - (intOf i).toNat)
  case atStart =>
    refine ⟨0, Nat.zero_le _, rfl, .slice (some ⟨w.heap.size, 0, none⟩) 1 1, ?_, ?_, ((Below.refl _ _).alloc (Nat.le_refl _) _).alloc (by simp) _⟩
    · have := Whole.new (w.alloc (Obj.cells #[Value.int IntKind.i64 0] 3)) 48 #[.string s, .slice (some ⟨w.heap.size, 0, none⟩) 1 1]
      simpa using this
    · refine World.ownsRow.alloc ?_ _
      exact World.ownsRow_lit w #[.int .i64 0] 1 (Nat.le_refl _) (by decide) rfl
  case round =>
    obtain ⟨k, hk, rfl, hinv⟩ := hrel
    by_cases hlt : k < s.size
    · have hkl : k < s.data.toList.length := by simpa using hlt
      by_cases hc : s.data.toList[k] = 10
      · obtain ⟨v, h1, h2, h3⟩ := hinv
        have hc1 : wr.cell? ⟨w.heap.size + 1, 1, none⟩ = some v := by rw [h1.cell]; rfl
        have ht : ((s[k].toNat : Int) == 10) = true := by
          have : s[k] = 10 := (show s.data[k] = 10 by simpa using hc)
          rw [this]; rfl
        have hle := starts_take_le s.data.toList k
        go_wp2_with (at_builtin; refine wpList_append_own _ rfl _ _ 46 rfl w.heap.size 3 i0 (.int .i64 0) 1 8 Tryd.underlying46 hi hz0 hz1 hz2 rfl (by decide) _ _ _ rfl (h2.alloc _) ⟨wr.heap.size, 0, none⟩ 1 1 [.int .i64 ((k : Int) + 1)] rfl rfl ?c1 ?c2 ?c3 ?c4 ?c5 ?_)
        case c1 => exact cell_one_new _ _ _
        case c2 => intro u hu; simp at hu; subst hu; rfl
        case c3 => unfold maxLen; omega
        case c4 => omega
        case c5 => have := h3.size; simp; omega
        intro v' w1 hown hg _
        obtain ⟨g, cap, hv', hcell, hfree, hinv'⟩ := newInv_more h1 h2 h3 hkl hc hown hg
        clear hown hg h2 hc1 h1
        rw [hv']
        go_wp2
        go_roundw
        case rel => exact ⟨k + 1, by omega, by go_num, hinv'⟩
        case measure => simp [intOf]; omega
      · have ht : ((s[k].toNat : Int) == 10) = false := by
          have h0 : s[k] ≠ 10 := (show s.data[k] ≠ 10 by simpa using hc)
          simp only [beq_eq_false_iff_ne, ne_eq]
          intro h; apply h0; apply UInt8.toNat_inj.1; simpa using (by omega : s[k].toNat = 10)
        go_wp2
        go_roundw
        case rel => exact ⟨k + 1, by omega, by go_num, newInv_skip hinv hkl hc⟩
        case measure => simp [intOf]; omega
    · have hkl : k = s.size := by omega
      subst hkl
      obtain ⟨h1, h2⟩ := newInv_end hinv
      go_wp2
      go_ret
      exact ⟨rfl, h1, h2⟩
end Go.Proofs.YtiimacmaepheeaaDoor
