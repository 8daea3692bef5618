/-
  The walks of the reference: contents, decimal numbers, blanks, equal lists.
-/
import Derived.Test.YtiimacmaepheeaaDoorSrcRefB
namespace Go.Proofs.YtiimacmaepheeaaDoor
open Go.RowKit
open Src

set_option maxHeartbeats 400000 in
theorem refContent_bad (s : ByteArray) (line : Int) (w : World) (hs : s.size ≤ 1000) (hl : line < 1 ∨ (starts s.data.toList).length < line) :
    Calls Tryd.prog 19 #[.string s, .int .i64 line] w fun e w' => e = .returned (.string ⟨#[]⟩) ∧ w = w' := by
  have hoff := refOffset_any s line 1 w hs
  have hv : offOf s.data.toList line 1 = (0, false) := by
    unfold offOf
    rw [offs_line, if_neg (by omega)]
  rw [hv] at hoff
  have HO := Lib.hid hoff
  clear hoff hv
  go_enter Tryd.func19, Tryd.ntmps19
  go_wp2_with fail
  refine HO.out.mono ?_
  rintro e w' ⟨rfl, rfl⟩
  go_wp2
  go_ret
  exact ⟨rfl, rfl⟩

set_option maxHeartbeats 400000 in
theorem refContent_good (s : ByteArray) (k : Nat) (w : World) (hs : s.size ≤ 1000) (hk1 : 1 ≤ k) (hk : k ≤ (starts s.data.toList).length) :
    Calls Tryd.prog 19 #[.string s, .int .i64 (k : Nat)] w fun e w' => e = .returned (.string (str (contentL s.data.toList k))) ∧ w = w' := by
  have hoff := refOffset_any s k 1 w hs
  have hv : offOf s.data.toList k 1 = ((bol s.data.toList (k - 1) : Int), true) := by
    unfold offOf
    rw [offs_line, if_pos (by omega), Int.toNat_natCast]
  rw [hv] at hoff
  have HO := Lib.hid hoff
  have HE := Lib.hid (end_any s k · hs hk1 hk)
  have h1 := bol_le_endL s.data.toList k hk1 hk
  have h2 := endL_le s.data.toList k
  have hsz : s.data.toList.length = s.size := by simp
  rw [hsz] at h2
  have hc : s.extract (bol s.data.toList (k - 1)) (endL s.data.toList k) = str (contentL s.data.toList k) := by rw [content_cut _ k hk1 hk]; exact Lib.extract_eq _ _ _
  have HC := Lib.hid hc
  clear hoff hv hsz hc
  go_enter Tryd.func19, Tryd.ntmps19
  go_wp2_with fail
  refine HO.out.mono ?_
  rintro e w' ⟨rfl, rfl⟩
  go_wp2_with fail
  refine (HE.out _).mono ?_
  rintro e w' ⟨rfl, rfl⟩
  go_wp2
  go_ret
  exact ⟨ret_str HC.out, rfl⟩

set_option maxHeartbeats 400000 in
theorem blanks_any (n : Nat) (w : World) (hn : n ≤ 100000) :
    Calls Tryd.prog 34 #[.int .i64 (n : Nat)] w fun e w' => e = .returned (.string (str (List.replicate n 32))) ∧ w = w' := by
  go_enter Tryd.func34, Tryd.ntmps34
  go_wp2
  go_loop [3, 4] (fun x i => ∃ k : Nat, k ≤ n ∧ i = .int .i64 k ∧ x = .string (str (List.replicate k 32))) (fun _ i => n - (intOf i).toNat)
  case atStart => exact ⟨0, Nat.zero_le _, rfl, rfl⟩
  case round =>
    obtain ⟨k, hk, rfl, rfl⟩ := hrel
    by_cases hlt : k < n
    · have hb : (str (List.replicate k (32 : UInt8))).size ≤ 100000 := by rw [str_size]; simp; omega
      have hap : str (List.replicate k (32 : UInt8)) ++ ⟨#[32]⟩ = str (List.replicate (k + 1) 32) := by
        rw [List.replicate_succ']; exact str_append _ [32]
      have HA := Lib.hid hap
      clear hap
      go_wp2
      go_round
      case rel => exact ⟨k + 1, by omega, by go_num, by rw [HA.out]⟩
      case measure => simp [intOf]; omega
    · have hkl : k = n := by omega
      subst hkl
      go_wp2
      go_ret
      exact ⟨rfl, rfl⟩

end Go.Proofs.YtiimacmaepheeaaDoor
