/-
  The walks of the reference: lines, positions, offsets.
-/
import Derived.Test.YtiimacmaepheeaaDoorSrcPos
import Derived.Test.YtiimacmaepheeaaDoorRows
import Derived.Test.YtiimacmaepheeaaDoorMem
import Derived.WalkKit
import Derived.WalkSpells
import Derived.WalkLawsBesides
import Derived.BigQuiet
import Derived.Deep.QuietTactic
namespace Go.Proofs.YtiimacmaepheeaaDoor
open Go.RowKit
open Src

theorem byte_is {s : ByteArray} {k : Nat} (hk : k < s.size) {c : UInt8} (h : s.data.toList[k]'(by simpa using hk) = c) : ((s[k].toNat : Int) == (c.toNat : Int)) = true := by
  have : s[k] = c := (show s.data[k] = c by simpa using h)
  rw [this]; simp
theorem byte_isnt {s : ByteArray} {k : Nat} (hk : k < s.size) {c : UInt8} (h : s.data.toList[k]'(by simpa using hk) ≠ c) : ((s[k].toNat : Int) == (c.toNat : Int)) = false := by
  have h0 : s[k] ≠ c := (show s.data[k] ≠ c by simpa using h)
  simp only [beq_eq_false_iff_ne, ne_eq]
  intro h; apply h0; apply UInt8.toNat_inj.1; omega

set_option maxHeartbeats 400000 in
theorem refLines_any (s : ByteArray) (w : World) (hs : s.size ≤ 1000) :
    Calls Tryd.prog 17 #[.string s] w fun e w' => e = .returned (.int .i64 ((starts s.data.toList).length : Nat)) ∧ w = w' := by
  go_enter Tryd.func17, Tryd.ntmps17
  go_wp2
  go_loop [3, 4] (fun n i => ∃ k : Nat, k ≤ s.size ∧ i = .int .i64 k ∧ n = .int .i64 (lineN s.data.toList k : Nat)) (fun _ i => s.size - (intOf i).toNat)
  case atStart => exact ⟨0, Nat.zero_le _, rfl, by rw [lineN_zero]; rfl⟩
  case round =>
    obtain ⟨k, hk, rfl, rfl⟩ := hrel
    have hle : lineN s.data.toList k ≤ k + 1 := starts_take_le _ _
    by_cases hlt : k < s.size
    · have hkl : k < s.data.toList.length := by simpa using hlt
      have hsu := lineN_succ s.data.toList k hkl
      by_cases hc : s.data.toList[k] = 10
      · rw [if_pos hc] at hsu
        have HS := Lib.hid hsu
        have ht : ((s[k].toNat : Int) == 10) = true := byte_is hlt hc
        clear hsu hc
        go_wp2
        go_round
        case rel => exact ⟨k + 1, by omega, by go_num, by rw [HS.out]; go_num⟩
        case measure => simp [intOf]; omega
      · rw [if_neg hc] at hsu
        have HS := Lib.hid hsu
        have ht : ((s[k].toNat : Int) == 10) = false := byte_isnt hlt hc
        clear hsu hc
        go_wp2
        go_round
        case rel => exact ⟨k + 1, by omega, by go_num, by rw [HS.out]⟩
        case measure => simp [intOf]; omega
    · have hkl : k = s.size := by omega
      subst hkl
      have he : lineN s.data.toList s.size = (starts s.data.toList).length := by have := lineN_end s.data.toList; simpa using this
      have HE := Lib.hid he
      clear he
      go_wp2
      go_ret
      exact ⟨ret_i64 (by rw [HE.out]), rfl⟩

set_option maxHeartbeats 400000 in
theorem refPos_out (s : ByteArray) (a : Int) (w : World) (hs : s.size ≤ 1000) (ha : a < 0 ∨ (s.size : Int) < a) :
    Calls Tryd.prog 13 #[.string s, .int .i64 a] w fun e w' => e = .returned (.tuple #[.int .i64 0, .int .i64 0]) ∧ w = w' := by
  rcases ha with ha | ha
  · go_enter Tryd.func13, Tryd.ntmps13
    go_wp2
    go_ret2
    exact ⟨rfl, rfl⟩
  · have ha' : ¬ a < 0 := by omega
    go_enter Tryd.func13, Tryd.ntmps13
    go_wp2
    go_ret2
    exact ⟨rfl, rfl⟩

set_option maxHeartbeats 400000 in
theorem refPos_any (s : ByteArray) (a : Int) (w : World) (hs : s.size ≤ 1000) (ha0 : 0 ≤ a) (ha : a ≤ (s.size : Int)) :
    Calls Tryd.prog 13 #[.string s, .int .i64 a] w fun e w' => e = .returned (.tuple #[.int .i64 (lineN s.data.toList a.toNat : Nat), .int .i64 (colN s.data.toList a.toNat : Nat)]) ∧ w = w' := by
  obtain ⟨n, rfl⟩ := Int.eq_ofNat_of_zero_le ha0
  rw [Int.toNat_natCast]
  have ha1 : ¬ (n : Int) < 0 := by omega
  have ha2 : ¬ (s.size : Int) < (n : Int) := by omega
  go_enter Tryd.func13, Tryd.ntmps13
  go_wp2
  go_loop [6, 7, 8] (fun x y i => ∃ k : Nat, k ≤ n ∧ i = .int .i64 k ∧ x = .int .i64 (lineN s.data.toList k : Nat) ∧ y = .int .i64 (colN s.data.toList k : Nat)) (fun _ _ i => n - (intOf i).toNat)
  case atStart => exact ⟨0, Nat.zero_le _, rfl, by rw [lineN_zero]; rfl, by rw [colN_zero]; rfl⟩
  case round =>
    obtain ⟨k, hk, rfl, rfl, rfl⟩ := hrel
    have hle : lineN s.data.toList k ≤ k + 1 := starts_take_le _ _
    have hle2 := colN_le s.data.toList k
    by_cases hlt : k < n
    · have hlts : k < s.size := by omega
      have hkl : k < s.data.toList.length := by simpa using hlts
      have hsu := lineN_succ s.data.toList k hkl
      by_cases hc : s.data.toList[k] = 10
      · rw [if_pos hc] at hsu
        have HS := Lib.hid hsu
        have HC := Lib.hid (colN_feed s.data.toList k hkl hc)
        have ht : ((s[k].toNat : Int) == 10) = true := byte_is hlts hc
        clear hsu hc
        go_wp2
        go_round
        case rel => exact ⟨k + 1, by omega, by go_num, by rw [HS.out]; go_num, by rw [HC.out]; rfl⟩
        case measure => simp [intOf]; omega
      · rw [if_neg hc] at hsu
        have HS := Lib.hid hsu
        have HC := Lib.hid (colN_plain s.data.toList k hkl hc)
        have ht : ((s[k].toNat : Int) == 10) = false := byte_isnt hlts hc
        clear hsu hc
        go_wp2
        go_round
        case rel => exact ⟨k + 1, by omega, by go_num, by rw [HS.out], by rw [HC.out]; go_num⟩
        case measure => simp [intOf]; omega
    · have hkl : k = n := by omega
      subst hkl
      go_wp2
      go_ret2
      exact ⟨rfl, rfl⟩

end Go.Proofs.YtiimacmaepheeaaDoor
