/-
  The walks of the laws on positions, contents, excerpts.
-/
import Derived.Test.YtiimacmaepheeaaDoorSrcAwake
namespace Go.Proofs.YtiimacmaepheeaaDoor
open Go.RowKit
open Src

theorem pos_any (b : Nat) (s : ByteArray) (a : Int) (w : World) (h : IsIndex w b s) (hs : s.size ≤ 1000) :
    Calls Tryd.prog 12 #[.pointer (some ⟨b, 0, none⟩), .int .i64 a] w fun e w' => e = .returned (.tuple #[.int .i64 (posOf s.data.toList a).1, .int .i64 (posOf s.data.toList a).2]) ∧ Below w.heap.size w w' := by
  have hsz : s.data.toList.length = s.size := by simp
  unfold posOf
  rw [hsz]
  by_cases ho : a < 0 ∨ (s.size : Int) < a
  · rw [if_pos ho]
    exact (pos_out b s a w h ho).mono fun _ _ ⟨he, hw⟩ => ⟨he, hw ▸ Below.refl _ _⟩
  · rw [if_neg ho]
    obtain ⟨n, rfl⟩ := Int.eq_ofNat_of_zero_le (show 0 ≤ a by omega)
    exact pos_in b s n w h hs (by omega)

theorem refPosOf_any (s : ByteArray) (a : Int) (w : World) (hs : s.size ≤ 1000) :
    Calls Tryd.prog 13 #[.string s, .int .i64 a] w fun e w' => e = .returned (.tuple #[.int .i64 (posOf s.data.toList a).1, .int .i64 (posOf s.data.toList a).2]) ∧ w = w' := by
  have hsz : s.data.toList.length = s.size := by simp
  unfold posOf
  rw [hsz]
  by_cases ho : a < 0 ∨ (s.size : Int) < a
  · rw [if_pos ho]
    exact refPos_out s a w hs ho
  · rw [if_neg ho]
    exact refPos_any s a w hs (by omega) (by omega)

theorem offset_any (b : Nat) (s : ByteArray) (line column : Int) (w : World) (h : IsIndex w b s) (hs : s.size ≤ 1000) (hc : column ≤ 9223372036854775807) :
    Calls Tryd.prog 14 #[.pointer (some ⟨b, 0, none⟩), .int .i64 line, .int .i64 column] w fun e w' =>
      e = .returned (.tuple #[.int .i64 (offOf s.data.toList line column).1, .bool (offOf s.data.toList line column).2]) ∧ Below w.heap.size w w' := by
  by_cases hl : line < 1 ∨ (starts s.data.toList).length < line ∨ column < 1
  · have hv : offOf s.data.toList line column = (0, false) := by
      unfold offOf offs
      rw [if_neg (by omega)]
    rw [hv]
    exact (offset_bad b s line column w h hs hl).mono fun _ _ ⟨he, hw⟩ => ⟨he, hw ▸ Below.refl _ _⟩
  · obtain ⟨k, rfl⟩ := Int.eq_ofNat_of_zero_le (show 0 ≤ line by omega)
    exact (offset_good b s k column w h hs (by omega) (by omega) (by omega) hc).mono fun _ _ ⟨he, hw⟩ => ⟨he, drawn_below hw⟩

/-- what Content returns -/
def contOf (l : List UInt8) (line : Int) : List UInt8 := if line < 1 ∨ (starts l).length < line then [] else contentL l line.toNat

theorem content_any (b : Nat) (s : ByteArray) (line : Int) (w : World) (h : IsIndex w b s) (hs : s.size ≤ 1000) :
    Calls Tryd.prog 18 #[.pointer (some ⟨b, 0, none⟩), .int .i64 line] w fun e w' => e = .returned (.string (str (contOf s.data.toList line))) ∧ Below w.heap.size w w' := by
  unfold contOf
  by_cases hl : line < 1 ∨ (starts s.data.toList).length < line
  · rw [if_pos hl]
    exact (content_bad b s line w h hs hl).mono fun _ _ ⟨he, hw⟩ => ⟨he, hw ▸ Below.refl _ _⟩
  · rw [if_neg hl]
    obtain ⟨k, rfl⟩ := Int.eq_ofNat_of_zero_le (show 0 ≤ line by omega)
    exact (content_good b s k w h hs (by omega) (by omega)).mono fun _ _ ⟨he, hw⟩ => ⟨he, drawn_below hw⟩

theorem refContOf_any (s : ByteArray) (line : Int) (w : World) (hs : s.size ≤ 1000) :
    Calls Tryd.prog 19 #[.string s, .int .i64 line] w fun e w' => e = .returned (.string (str (contOf s.data.toList line))) ∧ w = w' := by
  unfold contOf
  by_cases hl : line < 1 ∨ (starts s.data.toList).length < line
  · rw [if_pos hl]
    exact refContent_bad s line w hs hl
  · rw [if_neg hl]
    obtain ⟨k, rfl⟩ := Int.eq_ofNat_of_zero_le (show 0 ≤ line by omega)
    exact refContent_good s k w hs (by omega) (by omega)

/-- what Excerpt returns -/
def excOf (l : List UInt8) (a e : Int) : List (List UInt8) := if a < 0 ∨ e < a ∨ (l.length : Int) < e then [] else excL l a.toNat e.toNat

theorem excerpt_any (b : Nat) (s : ByteArray) (a e : Int) (w : World) (h : IsIndex w b s) (hs : s.size ≤ 1000) (hT : Tab w) :
    Calls Tryd.prog 21 #[.pointer (some ⟨b, 0, none⟩), .int .i64 a, .int .i64 e] w fun r w' =>
      ∃ A cap, r = .returned (.slice A (excOf s.data.toList a e).length cap) ∧ StrsAt w' A (excOf s.data.toList a e) ∧ Below w.heap.size w w' := by
  have hsz : s.data.toList.length = s.size := by simp
  unfold excOf
  rw [hsz]
  by_cases ho : a < 0 ∨ e < a ∨ (s.size : Int) < e
  · rw [if_pos ho]
    exact (excerpt_bad b s a e w h ho).mono fun _ _ ⟨he, hw⟩ => ⟨none, 0, he, .inl rfl, hw ▸ Below.refl _ _⟩
  · rw [if_neg ho]
    obtain ⟨n, rfl⟩ := Int.eq_ofNat_of_zero_le (show 0 ≤ a by omega)
    obtain ⟨m, rfl⟩ := Int.eq_ofNat_of_zero_le (show 0 ≤ e by omega)
    exact excerpt_good b s n m w h hs (by omega) (by omega) hT

theorem refExcOf_any (s : ByteArray) (a e : Int) (w : World) (hs : s.size ≤ 1000) :
    Calls Tryd.prog 22 #[.string s, .int .i64 a, .int .i64 e] w fun r w' =>
      ∃ A cap, r = .returned (.slice A (excOf s.data.toList a e).length cap) ∧ StrsAt w' A (excOf s.data.toList a e) ∧ Below w.heap.size w w' := by
  have hsz : s.data.toList.length = s.size := by simp
  unfold excOf
  rw [hsz]
  by_cases ho : a < 0 ∨ e < a ∨ (s.size : Int) < e
  · rw [if_pos ho]
    exact (refExcerpt_bad s a e w ho).mono fun _ _ ⟨he, hw⟩ => ⟨none, 0, he, .inl rfl, hw ▸ Below.refl _ _⟩
  · rw [if_neg ho]
    obtain ⟨n, rfl⟩ := Int.eq_ofNat_of_zero_le (show 0 ≤ a by omega)
    obtain ⟨m, rfl⟩ := Int.eq_ofNat_of_zero_le (show 0 ≤ e by omega)
    exact refExcerpt_good s n m w hs (by omega) (by omega)

set_option maxHeartbeats 1000000 in
theorem positions_walk (s : ByteArray) (a line column : Int) (w : World) (hT : Tab w) (hc : column ≤ 9223372036854775807) :
    Calls Tryd.prog 3 #[.string s, .int .i64 a, .int .i64 line, .int .i64 column] w fun e w' => e = .returned (.bool true) ∧ Below w.heap.size w w' := by
  have HA := Lib.hid (awake_any w hT)
  by_cases hs : 200 < s.size
  · go_enter Tryd.func3, Tryd.ntmps3
    go_wp2_with fail
    refine HA.out.mono ?_
    rintro r w1 ⟨rfl, hb1⟩
    go_wp2
    go_ret
    exact ⟨rfl, hb1⟩
  · go_enter Tryd.func3, Tryd.ntmps3
    go_wp2_with fail
    refine HA.out.mono ?_
    rintro r w1 ⟨rfl, hb1⟩
    go_wp2_with fail
    refine (new_any s w1 (by omega)).mono ?_
    rintro r w2 ⟨rfl, hI2, hb2⟩
    have HI2 := Lib.hid hI2
    have hbb := hb1.trans (hb2.mono hb1.size)
    clear hb1 hb2 hI2
    go_wp2_with fail
    refine (pos_any _ s a w2 HI2.out (by omega)).mono ?_
    rintro r w3 ⟨rfl, hb3⟩
    have HI3 := Lib.hid (HI2.out.below hb3)
    have hbc := hbb.trans (hb3.mono hbb.size)
    clear hb3 hbb
    go_wp2_with fail
    refine (refPosOf_any s a w3 (by omega)).mono ?_
    rintro r w4 ⟨rfl, rfl⟩
    go_wp2_with fail
    refine (offset_any _ s line column w3 HI3.out (by omega) hc).mono ?_
    rintro r w4 ⟨rfl, hb4⟩
    have HI4 := Lib.hid (HI3.out.below hb4)
    have hbd := hbc.trans (hb4.mono hbc.size)
    clear hb4 hbc
    go_wp2_with fail
    refine (refOffset_any s line column w4 (by omega)).mono ?_
    rintro r w5 ⟨rfl, rfl⟩
    go_wp2_with fail
    refine (lines_any _ s w4 HI4.out (by omega)).mono ?_
    rintro r w5 ⟨rfl, rfl⟩
    go_wp2_with fail
    refine (refLines_any s w4 (by omega)).mono ?_
    rintro r w5 ⟨rfl, rfl⟩
    go_wp2
    go_ret
    exact ⟨rfl, hbd⟩

end Go.Proofs.YtiimacmaepheeaaDoor
