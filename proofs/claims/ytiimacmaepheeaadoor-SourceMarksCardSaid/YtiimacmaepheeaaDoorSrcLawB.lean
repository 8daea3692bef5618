/-
  The walks of the laws on contents and excerpts; the inverse of positions.
-/
import Derived.Test.YtiimacmaepheeaaDoorSrcLawA
namespace Go.Proofs.YtiimacmaepheeaaDoor
open Go.RowKit
open Src

set_option maxHeartbeats 1000000 in
theorem contents_walk (s : ByteArray) (line : Int) (w : World) (hT : Tab w) :
    Calls Tryd.prog 4 #[.string s, .int .i64 line] w fun e w' => e = .returned (.bool true) ∧ Below w.heap.size w w' := by
  have HA := Lib.hid (awake_any w hT)
  by_cases hs : 200 < s.size
  · go_enter Tryd.func4, Tryd.ntmps4
    go_wp2_with fail
    refine HA.out.mono ?_
    rintro r w1 ⟨rfl, hb1⟩
    go_wp2
    go_ret
    exact ⟨rfl, hb1⟩
  · go_enter Tryd.func4, Tryd.ntmps4
    go_wp2_with fail
    refine HA.out.mono ?_
    rintro r w1 ⟨rfl, hb1⟩
    go_wp2_with fail
    refine (new_any s w1 (by omega)).mono ?_
    rintro r w2 ⟨rfl, hI2, hb2⟩
    have HI2 := Lib.hid hI2
    have hbb := hb1.trans (hb2.mono hb1.size)
    clear hb1 hb2 hI2
    go_wp2_with fail
    refine (content_any _ s line w2 HI2.out (by omega)).mono ?_
    rintro r w3 ⟨rfl, hb3⟩
    have hbc := hbb.trans (hb3.mono hbb.size)
    clear hb3 hbb
    go_wp2_with fail
    refine (refContOf_any s line w3 (by omega)).mono ?_
    rintro r w4 ⟨rfl, rfl⟩
    go_wp2
    go_ret
    exact ⟨rfl, hbc⟩

theorem excOf_length (l : List UInt8) (a e : Int) (hl : l.length ≤ 1000) : (excOf l a e).length ≤ 100000 := by
  unfold excOf
  split
  · simp
  · rename_i h
    unfold excL
    rw [excK_length]
    have := lineN_le l (lastAt a.toNat e.toNat) (by unfold lastAt; omega)
    have := starts_length_le l
    omega

set_option maxHeartbeats 1000000 in
theorem excerpts_walk (s : ByteArray) (a e : Int) (w : World) (hT : Tab w) :
    Calls Tryd.prog 5 #[.string s, .int .i64 a, .int .i64 e] w fun e w' => e = .returned (.bool true) ∧ Below w.heap.size w w' := by
  have HA := Lib.hid (awake_any w hT)
  by_cases hs : 200 < s.size
  · go_enter Tryd.func5, Tryd.ntmps5
    go_wp2_with fail
    refine HA.out.mono ?_
    rintro r w1 ⟨rfl, hb1⟩
    go_wp2
    go_ret
    exact ⟨rfl, hb1⟩
  · have hsz : s.data.toList.length = s.size := by simp
    have hlen := excOf_length s.data.toList a e (by omega)
    clear hsz
    go_enter Tryd.func5, Tryd.ntmps5
    go_wp2_with fail
    refine HA.out.mono ?_
    rintro r w1 ⟨rfl, hb1⟩
    go_wp2_with fail
    refine (new_any s w1 (by omega)).mono ?_
    rintro r w2 ⟨rfl, hI2, hb2⟩
    have HI2 := Lib.hid hI2
    have hbb := hb1.trans (hb2.mono hb1.size)
    clear hb1 hb2 hI2
    go_wp2_with fail
    refine (excerpt_any _ s a e w2 HI2.out (by omega) (hT.below hbb)).mono ?_
    rintro r w3 ⟨A, ca, rfl, hA, hb3⟩
    have hbc := hbb.trans (hb3.mono hbb.size)
    clear hb3 hbb
    go_wp2_with fail
    refine (refExcOf_any s a e w3 (by omega)).mono ?_
    rintro r w4 ⟨B, cb, rfl, hB, hb4⟩
    have hbd := hbc.trans (hb4.mono hbc.size)
    have hS := Lib.hid (strings_same A B ca cb _ w4 (hA.below hb4) hB hlen)
    clear hb4 hbc hA hB
    go_wp2_with fail
    refine hS.out.mono ?_
    rintro r w5 ⟨rfl, hq⟩
    have hb5 := drawn_below hq
    clear hq
    go_wp2
    go_ret
    exact ⟨rfl, hbd.trans (hb5.mono hbd.size)⟩

theorem posOf_in (l : List UInt8) (k : Nat) (hk : k ≤ l.length) : posOf l k = ((lineN l k : Int), (colN l k : Int)) := by
  unfold posOf
  rw [if_neg (by omega), Int.toNat_natCast]

theorem offOf_pos (l : List UInt8) (k : Nat) (hk : k ≤ l.length) : offOf l (lineN l k) (colN l k) = ((k : Int), true) := by
  unfold offOf
  rw [(offs_iff l _ _ k hk).2 ⟨rfl, rfl⟩]

/-- what an offset's position is -/
theorem offOf_some (l : List UInt8) (line column : Int) : (offOf l line column = (0, false)) ∨ ∃ k : Nat, k ≤ l.length ∧ offOf l line column = ((k : Int), true) ∧ (lineN l k : Int) = line ∧ (colN l k : Int) = column := by
  unfold offOf
  cases h : offs l line column with
  | none => exact .inl rfl
  | some k =>
    have hk := offs_le l line column k h
    have := (offs_iff l line column k hk).1 h
    exact .inr ⟨k, hk, rfl, this.1, this.2⟩

set_option maxHeartbeats 1000000 in
set_option maxRecDepth 100000 in
theorem inverse_walk (s : ByteArray) (line column : Int) (w : World) (hT : Tab w) (hc : column ≤ 9223372036854775807) :
    Calls Tryd.prog 6 #[.string s, .int .i64 line, .int .i64 column] w fun e w' => e = .returned (.bool true) ∧ Below w.heap.size w w' := by
  have HA := Lib.hid (awake_any w hT)
  by_cases hs : 200 < s.size
  · go_enter Tryd.func6, Tryd.ntmps6
    go_wp2_with fail
    refine HA.out.mono ?_
    rintro r w1 ⟨rfl, hb1⟩
    go_wp2
    go_ret
    exact ⟨rfl, hb1⟩
  · have hsz : s.data.toList.length = s.size := by simp
    have HZ := Lib.hid hsz
    clear hsz
    go_enter Tryd.func6, Tryd.ntmps6
    go_wp2_with fail
    refine HA.out.mono ?_
    rintro r w1 ⟨rfl, hb1⟩
    go_wp2_with fail
    refine (new_any s w1 (by omega)).mono ?_
    rintro r w2 ⟨rfl, hI2, hb2⟩
    have HI2 := Lib.hid hI2
    have hbb := hb1.trans (hb2.mono hb1.size)
    generalize hgb : w1.heap.size + 1 = b at HI2 ⊢
    clear hb1 hb2 hI2 hgb
    go_wp2_with fail
    go_loopw [27] (fun i wr => ∃ k : Nat, k ≤ s.size + 1 ∧ i = .int .i64 k ∧ IsIndex wr b s ∧ Below w.heap.size w wr) (fun i _ => s.size + 1 - (intOf i).toNat)
    case atStart => exact ⟨0, Nat.zero_le _, rfl, HI2.out, hbb⟩
    case round =>
      obtain ⟨k, hk, rfl, hI, hbr⟩ := hrel
      have HI := Lib.hid hI
      clear hI
      by_cases hlt : k ≤ s.size
      · have hkl : k ≤ s.data.toList.length := by rw [HZ.out]; exact hlt
        have hp := pos_any b s k wr HI.out (by omega)
        rw [posOf_in _ k hkl] at hp
        have HP := Lib.hid hp
        have hlp := lineN_pos s.data.toList k
        have hcp := colN_pos s.data.toList k
        have hcl := colN_le s.data.toList k
        have hll := lineN_le s.data.toList k hkl
        clear hp
        go_wp2_with fail
        refine HP.out.mono ?_
        rintro r w3 ⟨rfl, hb3⟩
        have HI3 := Lib.hid (HI.out.below hb3)
        have hbc := hbr.trans (hb3.mono hbr.size)
        have ho := offset_any b s (lineN s.data.toList k) (colN s.data.toList k) w3 HI3.out (by omega) (by omega)
        rw [offOf_pos _ k hkl] at ho
        have HO := Lib.hid ho
        clear ho hb3 hbr
        go_wp2_with fail
        refine HO.out.mono ?_
        rintro r w4 ⟨rfl, hb4⟩
        have HI4 := Lib.hid (HI3.out.below hb4)
        have hbd := hbc.trans (hb4.mono hbc.size)
        clear hb4 hbc
        go_wp2_with fail
        refine (lines_any b s w4 HI4.out (by omega)).mono ?_
        rintro r w5 ⟨rfl, rfl⟩
        go_wp2
        go_roundw
        case rel => exact ⟨k + 1, by omega, by go_num, HI4.out, hbd⟩
        case measure => simp [intOf]; omega
      · have hkl : k = s.size + 1 := by omega
        subst hkl
        have HO := Lib.hid (offset_any b s line column wr HI.out (by omega) hc)
        go_wp2_with fail
        refine HO.out.mono ?_
        rintro r w3 ⟨rfl, hb3⟩
        have HI3 := Lib.hid (HI.out.below hb3)
        have hbc := hbr.trans (hb3.mono hbr.size)
        clear hb3 hbr
        rcases offOf_some s.data.toList line column with hz | ⟨j, hj, hz, hl1, hc1⟩
        · rw [hz]
          go_wp2
          go_ret
          exact ⟨rfl, hbc⟩
        · rw [hz]
          have hp := pos_any b s j w3 HI3.out (by omega)
          rw [posOf_in _ j hj, hl1, hc1] at hp
          have HP := Lib.hid hp
          clear hp hz hl1 hc1
          go_wp2_with fail
          refine HP.out.mono ?_
          rintro r w4 ⟨rfl, hb4⟩
          have hbd := hbc.trans (hb4.mono hbc.size)
          clear hb4 hbc
          go_wp2
          go_ret
          exact ⟨rfl, hbd⟩

end Go.Proofs.YtiimacmaepheeaaDoor
