/-
  The walks of package source: positions, offsets, contents.
-/
import Derived.Test.YtiimacmaepheeaaDoorSrcWalksB
import Derived.Test.YtiimacmaepheeaaDoorSrcEnds
namespace Go.Proofs.YtiimacmaepheeaaDoor
open Go.RowKit
open Src

/-- both numbers of a position -/
def posOf (l : List UInt8) (a : Int) : Int × Int := if a < 0 ∨ (l.length : Int) < a then (0, 0) else ((lineN l a.toNat : Nat), (colN l a.toNat : Nat))

set_option maxHeartbeats 400000 in
theorem pos_out (b : Nat) (s : ByteArray) (a : Int) (w : World) (h : IsIndex w b s) (ha : a < 0 ∨ (s.size : Int) < a) :
    Calls Tryd.prog 12 #[.pointer (some ⟨b, 0, none⟩), .int .i64 a] w fun e w' => e = .returned (.tuple #[.int .i64 0, .int .i64 0]) ∧ w = w' := by
  obtain ⟨g, cap, h0, h1, h2⟩ := h
  clear h2
  rcases ha with ha | ha
  · go_enter Tryd.func12, Tryd.ntmps12
    go_wp2
    go_ret2
    exact ⟨rfl, rfl⟩
  · have ha' : ¬ a < 0 := by omega
    go_enter Tryd.func12, Tryd.ntmps12
    go_wp2
    go_ret2
    exact ⟨rfl, rfl⟩

set_option maxHeartbeats 400000 in
theorem pos_in (b : Nat) (s : ByteArray) (n : Nat) (w : World) (h : IsIndex w b s) (hs : s.size ≤ 1000) (ha : n ≤ s.size) :
    Calls Tryd.prog 12 #[.pointer (some ⟨b, 0, none⟩), .int .i64 (n : Nat)] w fun e w' => e = .returned (.tuple #[.int .i64 (lineN s.data.toList n : Nat), .int .i64 (colN s.data.toList n : Nat)]) ∧ Below w.heap.size w w' := by
  have hline := Lib.hid (line_any b s n w h hs ha)
  have hsz : s.data.toList.length = s.size := by simp
  have hp := lineN_pos s.data.toList n
  have hle := lineN_le s.data.toList n (by omega)
  have hmax := starts_length_le s.data.toList
  have hbl := bol_le_at s.data.toList n (lineN s.data.toList n - 1) (by omega) (by omega)
  rw [hsz] at hmax
  clear hsz
  have hk := Lib.hid h
  obtain ⟨g, cap, h0, h1, h2⟩ := h
  clear h2 h1
  have ha1 : ¬ (n : Int) < 0 := by omega
  have ha2 : ¬ (s.size : Int) < (n : Int) := by omega
  go_enter Tryd.func12, Tryd.ntmps12
  go_wp2_with fail
  refine hline.out.mono ?_
  rintro e w1 ⟨rfl, hb⟩
  obtain ⟨g, cap, -, h1, h2⟩ := hk.out.below hb
  have hc := h2 (lineN s.data.toList n - 1) (by omega)
  clear h2
  have hz1 : (lineN s.data.toList n : Int) - 1 < ((starts s.data.toList).length : Int) := by omega
  have hz2 : 0 ≤ (lineN s.data.toList n : Int) - 1 := by omega
  have hcol : (n : Int) - (bol s.data.toList (lineN s.data.toList n - 1) : Int) + 1 = (colN s.data.toList n : Nat) := by unfold colN; omega
  have HC := Lib.hid hcol
  clear hcol
  go_wp2
  go_quiet (fail)
  go_wp2
  go_ret2
  exact ⟨ret2_ii rfl HC.out, below_drewN hb _⟩

/-- what Offset returns -/
def offOf (l : List UInt8) (line column : Int) : Int × Bool := match offs l line column with
  | some a => (a, true)
  | none => (0, false)

set_option maxHeartbeats 400000 in
theorem offset_bad (b : Nat) (s : ByteArray) (line column : Int) (w : World) (h : IsIndex w b s) (hs : s.size ≤ 1000) (hl : line < 1 ∨ (starts s.data.toList).length < line ∨ column < 1) :
    Calls Tryd.prog 14 #[.pointer (some ⟨b, 0, none⟩), .int .i64 line, .int .i64 column] w fun e w' => e = .returned (.tuple #[.int .i64 0, .bool false]) ∧ w = w' := by
  obtain ⟨g, cap, h0, h1, h2⟩ := h
  clear h2
  have hmax := starts_length_le s.data.toList
  have hsz : s.data.toList.length = s.size := by simp
  rw [hsz] at hmax
  clear hsz
  by_cases a1 : line < 1
  · go_enter Tryd.func14, Tryd.ntmps14
    go_wp2
    go_ret2
    exact ⟨rfl, rfl⟩
  · by_cases a2 : ((starts s.data.toList).length : Int) < line
    · go_enter Tryd.func14, Tryd.ntmps14
      go_wp2
      go_ret2
      exact ⟨rfl, rfl⟩
    · have a3 : column < 1 := by omega
      go_enter Tryd.func14, Tryd.ntmps14
      go_wp2
      go_ret2
      exact ⟨rfl, rfl⟩

set_option maxHeartbeats 400000 in
theorem last_ok (b : Nat) (s : ByteArray) (k : Nat) (w : World) (h : IsIndex w b s) (hs : s.size ≤ 1000) (hk1 : 1 ≤ k) (hk : k ≤ (starts s.data.toList).length) :
    Calls Tryd.prog 28 #[.pointer (some ⟨b, 0, none⟩), .int .i64 (k : Nat)] w fun e w' => e = .returned (.int .i64 (lastOf s.data.toList k : Nat)) ∧ w = w' := by
  by_cases hc : k = (starts s.data.toList).length
  · refine (last_end b s k w h hs hc).mono fun e w' ⟨he, hw⟩ => ⟨?_, hw⟩
    rw [he]; unfold lastOf; rw [if_pos hc]; simp
  · refine (last_any b s k w h hs hk1 (by omega)).mono fun e w' ⟨he, hw⟩ => ⟨?_, hw⟩
    rw [he]; unfold lastOf; rw [if_neg hc]
    have := bol_lt s.data.toList (i := k - 1) (j := k) (by omega) (by omega)
    exact ret_i64 (by omega)

set_option maxHeartbeats 400000 in
theorem offset_good (b : Nat) (s : ByteArray) (k : Nat) (column : Int) (w : World) (h : IsIndex w b s) (hs : s.size ≤ 1000) (hk1 : 1 ≤ k) (hk : k ≤ (starts s.data.toList).length) (hc1 : 1 ≤ column) (hc2 : column ≤ 9223372036854775807) :
    Calls Tryd.prog 14 #[.pointer (some ⟨b, 0, none⟩), .int .i64 (k : Nat), .int .i64 column] w fun e w' =>
      e = .returned (.tuple #[.int .i64 (offOf s.data.toList k column).1, .bool (offOf s.data.toList k column).2]) ∧ ∃ q, w' = w.drewN q := by
  have hlast := Lib.hid fun W hW => last_ok b s k W hW hs hk1 hk
  have hle := bol_le_lastOf s.data.toList k hk1 hk
  have hle2 := lastOf_le s.data.toList k
  have hmax := starts_length_le s.data.toList
  have hsz : s.data.toList.length = s.size := by simp
  rw [hsz] at hle2 hmax
  clear hsz
  have HI := Lib.hid h
  obtain ⟨g, cap, h0, h1, h2⟩ := h
  have hc := h2 (k - 1) (by omega)
  clear h2 h0
  have hk2 : (k : Int) - 1 < ((starts s.data.toList).length : Int) := by omega
  have hk3 : ¬ (k : Int) < 1 := by omega
  have hk4 : ¬ ((starts s.data.toList).length : Int) < (k : Int) := by omega
  have hk5 : ¬ column < 1 := by omega
  have hk6 : 0 ≤ (k : Int) - 1 := by omega
  by_cases hcol : column - 1 ≤ (lastOf s.data.toList k : Int) - (bol s.data.toList (k - 1) : Int)
  · have hv : offOf s.data.toList k column = ((bol s.data.toList (k - 1) : Int) + column - 1, true) := by
      unfold offOf offs
      rw [if_pos ⟨by omega, by omega, hc1, by simpa using hcol⟩]
      simp; omega
    have HV := Lib.hid hv
    clear hv
    have hcol' : ¬ (lastOf s.data.toList k : Int) - (bol s.data.toList (k - 1) : Int) < column - 1 := by omega
    clear hcol
    have wk1 : ((k : Int) - 1).toNat = k - 1 := by omega
    have wk0 : IntKind.i64.wrap ((k : Int) - 1) = (k : Int) - 1 := IntWalk.i64_in _ (by omega)
    go_enter Tryd.func14, Tryd.ntmps14
    go_wp2
    go_quiet ((go_at_call 28; exact Calls.quiet_of_same ((hlast.out _ (HI.out.drewN _)).mono fun _ _ h => ⟨h.1, h.2.symm⟩)))
    go_wp2
    go_ret2
    exact ⟨by rw [HV.out]; exact ret2_ib rfl rfl, _, rfl⟩
  · have hv : offOf s.data.toList k column = (0, false) := by
      unfold offOf offs
      rw [if_neg (by rintro ⟨_, _, _, h⟩; exact hcol (by simpa using h))]
    have HV := Lib.hid hv
    clear hv
    have hcol' : (lastOf s.data.toList k : Int) - (bol s.data.toList (k - 1) : Int) < column - 1 := by omega
    clear hcol
    have wk1 : ((k : Int) - 1).toNat = k - 1 := by omega
    have wk0 : IntKind.i64.wrap ((k : Int) - 1) = (k : Int) - 1 := IntWalk.i64_in _ (by omega)
    go_enter Tryd.func14, Tryd.ntmps14
    go_wp2
    go_quiet ((go_at_call 28; exact Calls.quiet_of_same ((hlast.out _ (HI.out.drewN _)).mono fun _ _ h => ⟨h.1, h.2.symm⟩)))
    go_wp2
    go_ret2
    exact ⟨by rw [HV.out]; exact ret2_ib rfl rfl, _, rfl⟩

theorem trim_cut (s : ByteArray) (a b : Nat) (hs : s.size ≤ 1000) (w : World) : Calls Tryd.prog 29 #[.string (s.extract a b), .string ⟨#[13]⟩] w fun e w' => e = .returned (.string ⟨(Lib.trimSuffix (cut s.data.toList a b) [13]).toArray⟩) ∧ w = w' := by
  refine (Tryd.strings_TrimSuffix (s.extract a b) ⟨#[13]⟩ w (by simp; omega)).mono fun e w' ⟨he, hw⟩ => ⟨?_, hw.symm⟩
  rw [he, Lib.extract_data]; rfl

set_option maxHeartbeats 400000 in
theorem content_bad (b : Nat) (s : ByteArray) (line : Int) (w : World) (h : IsIndex w b s) (hs : s.size ≤ 1000) (hl : line < 1 ∨ (starts s.data.toList).length < line) :
    Calls Tryd.prog 18 #[.pointer (some ⟨b, 0, none⟩), .int .i64 line] w fun e w' => e = .returned (.string ⟨#[]⟩) ∧ w = w' := by
  obtain ⟨g, cap, h0, h1, h2⟩ := h
  clear h2
  have hmax := starts_length_le s.data.toList
  have hsz : s.data.toList.length = s.size := by simp
  rw [hsz] at hmax
  clear hsz
  by_cases a1 : line < 1
  · go_enter Tryd.func18, Tryd.ntmps18
    go_wp2
    go_ret
    exact ⟨rfl, rfl⟩
  · have a2 : ((starts s.data.toList).length : Int) < line := by omega
    go_enter Tryd.func18, Tryd.ntmps18
    go_wp2
    go_ret
    exact ⟨rfl, rfl⟩

set_option maxHeartbeats 400000 in
theorem content_good (b : Nat) (s : ByteArray) (k : Nat) (w : World) (h : IsIndex w b s) (hs : s.size ≤ 1000) (hk1 : 1 ≤ k) (hk : k ≤ (starts s.data.toList).length) :
    Calls Tryd.prog 18 #[.pointer (some ⟨b, 0, none⟩), .int .i64 (k : Nat)] w fun e w' =>
      e = .returned (.string (str (contentL s.data.toList k))) ∧ ∃ q, w' = w.drewN q := by
  have hlast := Lib.hid fun W hW => last_ok b s k W hW hs hk1 hk
  have hle := bol_le_lastOf s.data.toList k hk1 hk
  have hle2 := lastOf_le s.data.toList k
  have hmax := starts_length_le s.data.toList
  have hsz : s.data.toList.length = s.size := by simp
  rw [hsz] at hle2 hmax
  clear hsz
  have HI := Lib.hid h
  obtain ⟨g, cap, h0, h1, h2⟩ := h
  have hc := h2 (k - 1) (by omega)
  clear h2
  have hk2 : (k : Int) - 1 < ((starts s.data.toList).length : Int) := by omega
  have hk3 : ¬ (k : Int) < 1 := by omega
  have hk4 : ¬ ((starts s.data.toList).length : Int) < (k : Int) := by omega
  have hk6 : 0 ≤ (k : Int) - 1 := by omega
  have wk1 : ((k : Int) - 1).toNat = k - 1 := by omega
  have wk0 : IntKind.i64.wrap ((k : Int) - 1) = (k : Int) - 1 := IntWalk.i64_in _ (by omega)
  go_enter Tryd.func18, Tryd.ntmps18
  go_wp2
  go_quiet ((go_at_call 28; exact Calls.quiet_of_same ((hlast.out _ (HI.out.drewN _)).mono fun _ _ h => ⟨h.1, h.2.symm⟩)))
  have HB := Lib.hid hle
  have he := Lib.hid (Lib.extract_eq s (bol s.data.toList (k - 1)) (lastOf s.data.toList k))
  have ht := Lib.hid (trim_cut s (bol s.data.toList (k - 1)) (lastOf s.data.toList k) hs)
  by_cases hlt : k < (starts s.data.toList).length
  · have hv : contentL s.data.toList k = Lib.trimSuffix (cut s.data.toList (bol s.data.toList (k - 1)) (lastOf s.data.toList k)) [13] := by unfold contentL; rw [if_pos hlt]
    have HV := Lib.hid hv
    clear hv
    go_wp2_with fail
    refine (ht.out _).mono ?_
    rintro e w1 ⟨rfl, rfl⟩
    go_wp2
    go_ret
    exact ⟨ret_str (by rw [HV.out]; rfl), _, rfl⟩
  · have hv : contentL s.data.toList k = cut s.data.toList (bol s.data.toList (k - 1)) (lastOf s.data.toList k) := by unfold contentL; rw [if_neg hlt]
    have HV := Lib.hid hv
    clear hv
    go_wp2
    go_ret
    exact ⟨ret_str (by rw [HV.out]; exact he.out), _, rfl⟩

end Go.Proofs.YtiimacmaepheeaaDoor
