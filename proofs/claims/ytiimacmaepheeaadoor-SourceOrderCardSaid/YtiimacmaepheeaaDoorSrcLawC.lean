/-
  The walk of the law on the order of positions.
-/
import Derived.Test.YtiimacmaepheeaaDoorSrcLawB
namespace Go.Proofs.YtiimacmaepheeaaDoor
open Go.RowKit
open Src

theorem posOf_feed (l : List UInt8) (k : Nat) (hk : k < l.length) (h : l[k] = 10) : posOf l ((k : Int) + 1) = ((lineN l k : Int) + 1, 1) := by
  rw [show (k : Int) + 1 = ((k + 1 : Nat) : Int) by omega, posOf_in l (k + 1) (by omega), lineN_succ l k hk, if_pos h, colN_feed l k hk h]
  rfl
theorem posOf_plain (l : List UInt8) (k : Nat) (hk : k < l.length) (h : l[k] ≠ 10) : posOf l ((k : Int) + 1) = ((lineN l k : Int), (colN l k : Int) + 1) := by
  rw [show (k : Int) + 1 = ((k + 1 : Nat) : Int) by omega, posOf_in l (k + 1) (by omega), lineN_succ l k hk, if_neg h, colN_plain l k hk h]
  simp

set_option maxHeartbeats 1600000 in
set_option maxRecDepth 100000 in
theorem order_walk (s : ByteArray) (w : World) (hT : Tab w) :
    Calls Tryd.prog 7 #[.string s] w fun e w' => e = .returned (.bool true) ∧ Below w.heap.size w w' := by
  have HA := Lib.hid (awake_any w hT)
  by_cases hs : 200 < s.size
  · go_enter Tryd.func7, Tryd.ntmps7
    go_wp2_with fail
    refine HA.out.mono ?_
    rintro r w1 ⟨rfl, hb1⟩
    go_wp2
    go_ret
    exact ⟨rfl, hb1⟩
  · have hsz : s.data.toList.length = s.size := by simp
    have HZ := Lib.hid hsz
    clear hsz
    go_enter Tryd.func7, Tryd.ntmps7
    go_wp2_with fail
    refine HA.out.mono ?_
    rintro r w1 ⟨rfl, hb1⟩
    go_wp2_with fail
    refine (new_any s w1 (by omega)).mono ?_
    rintro r w2 ⟨rfl, hI2, hb2⟩
    have HI2 := Lib.hid hI2
    have hbb := hb1.trans (hb2.mono hb1.size)
    generalize hgb : w1.heap.size + 1 = b at HI2 ⊢
    clear hb1 hb2 hI2 hgb
    have hp0 := pos_any b s 0 w2 HI2.out (by omega)
    rw [show posOf s.data.toList 0 = (1, 1) by rw [show (0 : Int) = ((0 : Nat) : Int) from rfl, posOf_in _ 0 (by omega), lineN_zero, colN_zero]; rfl] at hp0
    have HP0 := Lib.hid hp0
    clear hp0
    go_wp2_with fail
    refine HP0.out.mono ?_
    rintro r w3 ⟨rfl, hb3⟩
    have HI3 := Lib.hid (HI2.out.below hb3)
    have hbc := hbb.trans (hb3.mono hbb.size)
    clear hb3 hbb
    go_wp2_with fail
    go_loopw [4, 5, 33] (fun x y i wr => ∃ k : Nat, k ≤ s.size ∧ i = .int .i64 k ∧ x = .int .i64 (lineN s.data.toList k : Nat) ∧ y = .int .i64 (colN s.data.toList k : Nat) ∧ IsIndex wr b s ∧ Below w.heap.size w wr) (fun _ _ i _ => s.size - (intOf i).toNat)
    case atStart => exact ⟨0, Nat.zero_le _, rfl, by rw [lineN_zero]; rfl, by rw [colN_zero]; rfl, HI3.out, hbc⟩
    case round =>
      obtain ⟨k, hk, rfl, rfl, rfl, hI, hbr⟩ := hrel
      have HI := Lib.hid hI
      clear hI
      have hll : lineN s.data.toList k ≤ k + 1 := starts_take_le _ _
      have hcl := colN_le s.data.toList k
      by_cases hlt : k < s.size
      · have hkl : k < s.data.toList.length := by rw [HZ.out]; exact hlt
        have hp := pos_any b s ((k : Int) + 1) wr HI.out (by omega)
        by_cases hc : s.data.toList[k] = 10
        · rw [posOf_feed _ k hkl hc] at hp
          have HP := Lib.hid hp
          have HL := Lib.hid (lineN_succ s.data.toList k hkl)
          have HC := Lib.hid (colN_feed s.data.toList k hkl hc)
          have HH := Lib.hid hc
          have ht : ((s[k].toNat : Int) == 10) = true := byte_is hlt hc
          have ht' : ((s[k].toNat : Int) != 10) = false := by rw [bne, ht]; rfl
          clear hp hc
          go_wp2_with fail
          refine HP.out.mono ?_
          rintro r w4 ⟨rfl, hb4⟩
          have HI4 := Lib.hid (HI.out.below hb4)
          have hbd := hbr.trans (hb4.mono hbr.size)
          clear hb4 hbr
          go_wp2
          go_roundw
          case rel => exact ⟨k + 1, by omega, by go_num, by rw [HL.out, if_pos HH.out]; go_num, by rw [HC.out]; rfl, HI4.out, hbd⟩
          case measure => simp [intOf]; omega
        · rw [posOf_plain _ k hkl hc] at hp
          have HP := Lib.hid hp
          have HL := Lib.hid (lineN_succ s.data.toList k hkl)
          have HC := Lib.hid (colN_plain s.data.toList k hkl hc)
          have HH := Lib.hid hc
          have ht : ((s[k].toNat : Int) == 10) = false := byte_isnt hlt hc
          have ht' : ((s[k].toNat : Int) != 10) = true := by rw [bne, ht]; rfl
          clear hp hc
          go_wp2_with fail
          refine HP.out.mono ?_
          rintro r w4 ⟨rfl, hb4⟩
          have HI4 := Lib.hid (HI.out.below hb4)
          have hbd := hbr.trans (hb4.mono hbr.size)
          clear hb4 hbr
          go_wp2
          go_roundw
          case rel => exact ⟨k + 1, by omega, by go_num, by rw [HL.out, if_neg HH.out], by rw [HC.out]; go_num, HI4.out, hbd⟩
          case measure => simp [intOf]; omega
      · have hkl : k = s.size := by omega
        have HE := Lib.hid (show lineN s.data.toList k = (starts s.data.toList).length by rw [hkl, ← HZ.out]; exact lineN_end _)
        have hkl2 : s.size ≤ k := by omega
        have hp1 := pos_any b s ((s.size : Int) + 1) wr HI.out (by omega)
        rw [show posOf s.data.toList ((s.size : Int) + 1) = (0, 0) by unfold posOf; rw [if_pos (by rw [HZ.out]; omega)]] at hp1
        have HP1 := Lib.hid hp1
        clear hp1 hkl
        go_wp2_with fail
        refine HP1.out.mono ?_
        rintro r w4 ⟨rfl, hb4⟩
        have HI4 := Lib.hid (HI.out.below hb4)
        have hbd := hbr.trans (hb4.mono hbr.size)
        clear hb4 hbr
        have hp2 := pos_any b s (-1) w4 HI4.out (by omega)
        rw [show posOf s.data.toList (-1) = (0, 0) by unfold posOf; rw [if_pos (by omega)]] at hp2
        have HP2 := Lib.hid hp2
        clear hp2
        go_wp2_with fail
        refine HP2.out.mono ?_
        rintro r w5 ⟨rfl, hb5⟩
        have HI5 := Lib.hid (HI4.out.below hb5)
        have hbe := hbd.trans (hb5.mono hbd.size)
        clear hb5 hbd
        have hl := lines_any b s w5 HI5.out (by omega)
        rw [← HE.out] at hl
        have HL := Lib.hid hl
        clear hl
        go_wp2_with fail
        refine HL.out.mono ?_
        rintro r w6 ⟨rfl, rfl⟩
        go_wp2
        go_ret
        exact ⟨rfl, hbe⟩

end Go.Proofs.YtiimacmaepheeaaDoor
