/-
  The walks of the reference: offsets, ends and contents of lines, small strings.
-/
import Derived.Test.YtiimacmaepheeaaDoorSrcRefA
import Derived.Test.YtiimacmaepheeaaDoorSrcWalksD
namespace Go.Proofs.YtiimacmaepheeaaDoor
open Go.RowKit
open Src

/-- no offset before k has the position -/
def NoPos (l : List UInt8) (line column : Int) (k : Nat) : Prop := ∀ j, j < k → offs l line column ≠ some j

theorem noPos_end {l : List UInt8} {line column : Int} (h : NoPos l line column (l.length + 1)) : offOf l line column = (0, false) := by
  unfold offOf
  cases hc : offs l line column with
  | none => rfl
  | some a => exact absurd hc (h a (by have := offs_le l line column a hc; omega))

set_option maxHeartbeats 400000 in
theorem refOffset_any (s : ByteArray) (line column : Int) (w : World) (hs : s.size ≤ 1000) :
    Calls Tryd.prog 15 #[.string s, .int .i64 line, .int .i64 column] w fun e w' =>
      e = .returned (.tuple #[.int .i64 (offOf s.data.toList line column).1, .bool (offOf s.data.toList line column).2]) ∧ w = w' := by
  have hsz : s.data.toList.length = s.size := by simp
  have HZ := Lib.hid hsz
  clear hsz
  go_enter Tryd.func15, Tryd.ntmps15
  go_wp2
  go_loop [8] (fun i => ∃ k : Nat, k ≤ s.size + 1 ∧ i = .int .i64 k ∧ NoPos s.data.toList line column k) (fun i => s.size + 1 - (intOf i).toNat)
  case atStart => exact ⟨0, Nat.zero_le _, rfl, fun j hj => absurd hj (Nat.not_lt_zero _)⟩
  case round =>
    obtain ⟨k, hk, rfl, hno⟩ := hrel
    by_cases hlt : k ≤ s.size
    · have hkl : k ≤ s.data.toList.length := by rw [HZ.out]; exact hlt
      have hi := offs_iff s.data.toList line column k hkl
      have hpos := Lib.hid (refPos_any s k · hs (by omega) (by omega))
      by_cases hhit : offs s.data.toList line column = some k
      · obtain ⟨rfl, rfl⟩ := hi.1 hhit
        have HV := Lib.hid (show offOf s.data.toList (lineN s.data.toList k) (colN s.data.toList k) = ((k : Int), true) by unfold offOf; rw [hhit])
        clear hhit hno hi
        go_wp2_with fail
        refine (hpos.out _).mono ?_
        rintro e w' ⟨rfl, rfl⟩
        rw [Int.toNat_natCast]
        go_wp2
        go_ret2
        exact ⟨ret2_ib (by rw [HV.out]) (by rw [HV.out]), rfl⟩
      · have hno' : NoPos s.data.toList line column (k + 1) := fun j hj => by
          rcases Nat.lt_or_ge j k with h | h
          · exact hno j h
          · obtain rfl : j = k := by omega
            exact hhit
        have hn : ¬ ((lineN s.data.toList k : Int) = line ∧ (colN s.data.toList k : Int) = column) := fun h => hhit (hi.2 h)
        clear hhit hno hi
        by_cases hl : (lineN s.data.toList k : Int) = line
        · have hc : ((colN s.data.toList k : Int) == column) = false := by
            rw [beq_eq_false_iff_ne]; exact fun h => hn ⟨hl, h⟩
          subst hl
          clear hn
          go_wp2_with fail
          refine (hpos.out _).mono ?_
          rintro e w' ⟨rfl, rfl⟩
          rw [Int.toNat_natCast]
          go_wp2
          go_round
          case rel => exact ⟨k + 1, by omega, by go_num, hno'⟩
          case measure => simp [intOf]; omega
        · have hc : ((lineN s.data.toList k : Int) == line) = false := by
            rw [beq_eq_false_iff_ne]; exact hl
          clear hn hl
          go_wp2_with fail
          refine (hpos.out _).mono ?_
          rintro e w' ⟨rfl, rfl⟩
          rw [Int.toNat_natCast]
          go_wp2
          go_round
          case rel => exact ⟨k + 1, by omega, by go_num, hno'⟩
          case measure => simp [intOf]; omega
    · have hkl : k = s.size + 1 := by omega
      subst hkl
      have HV := Lib.hid (noPos_end (by rw [HZ.out]; exact hno))
      clear hno
      go_wp2
      go_ret2
      exact ⟨ret2_ib (by rw [HV.out]) (by rw [HV.out]), rfl⟩


set_option maxHeartbeats 1000000 in
theorem end_any (s : ByteArray) (n : Nat) (w : World) (hs : s.size ≤ 1000) (h1 : 1 ≤ n) (hn : n ≤ (starts s.data.toList).length) :
    Calls Tryd.prog 30 #[.string s, .int .i64 (bol s.data.toList (n - 1) : Nat)] w fun e w' => e = .returned (.int .i64 (endL s.data.toList n : Nat)) ∧ w = w' := by
  have hsz : s.data.toList.length = s.size := by simp
  have hbl := bol_le_lastOf s.data.toList n h1 hn
  have hll := lastOf_le s.data.toList n
  rw [hsz] at hll
  have HZ := Lib.hid hsz
  clear hsz
  go_enter Tryd.func30, Tryd.ntmps30
  go_wp2
  go_loop [5] (fun i => ∃ k : Nat, i = .int .i64 k ∧ bol s.data.toList (n - 1) ≤ k ∧ k ≤ lastOf s.data.toList n) (fun i => s.size + 1 - (intOf i).toNat)
  case atStart => exact ⟨_, rfl, Nat.le_refl _, hbl⟩
  case round =>
    obtain ⟨k, rfl, hk1, hk2⟩ := hrel
    by_cases hlt : k < lastOf s.data.toList n
    · have hks : k < s.size := by omega
      have hc := no_feed s.data.toList n k h1 hn hk1 hlt (by rw [HZ.out]; exact hks)
      have ht : ((s[k].toNat : Int) == 10) = false := byte_isnt hks hc
      have ht' : ((s[k].toNat : Int) != 10) = true := by rw [bne, ht]; rfl
      clear hc
      go_wp2
      go_round
      case rel => exact ⟨k + 1, by go_num, by omega, by omega⟩
      case measure => simp [intOf]; omega
    · obtain rfl : k = lastOf s.data.toList n := by omega
      by_cases hln : n < (starts s.data.toList).length
      · have hks : lastOf s.data.toList n < s.size := by have := (lastOf_lt s.data.toList n h1 hln).2; rw [HZ.out] at this; exact this
        have hc := feed_at s.data.toList n h1 hln (by rw [HZ.out]; exact hks)
        have ht : ((s[lastOf s.data.toList n].toNat : Int) == 10) = true := byte_is hks hc
        have ht' : ((s[lastOf s.data.toList n].toNat : Int) != 10) = false := by rw [bne, ht]; rfl
        clear hc
        by_cases hne : bol s.data.toList (n - 1) < lastOf s.data.toList n
        · have wk0 : IntKind.i64.wrap ((lastOf s.data.toList n : Int) - 1) = (lastOf s.data.toList n : Int) - 1 := IntWalk.i64_in _ (by omega)
          have wk1 : ((lastOf s.data.toList n : Int) - 1).toNat = lastOf s.data.toList n - 1 := by omega
          have hlt1 : lastOf s.data.toList n - 1 < s.size := by omega
          by_cases h13 : s.data.toList[lastOf s.data.toList n - 1]'(by rw [HZ.out]; exact hlt1) = 13
          · have hv : endL s.data.toList n = lastOf s.data.toList n - 1 := by
              unfold endL
              rw [if_pos ⟨hln, hne, by rw [List.getElem?_eq_getElem (by rw [HZ.out]; exact hlt1), h13]⟩]
            have HV := Lib.hid hv
            have ht2 : ((s[lastOf s.data.toList n - 1].toNat : Int) == 13) = true := byte_is hlt1 h13
            clear hv h13
            go_wp2
            go_ret
            exact ⟨ret_i64 (by rw [HV.out]; omega), rfl⟩
          · have hv : endL s.data.toList n = lastOf s.data.toList n := by
              unfold endL
              rw [if_neg (fun h => h13 (by have := h.2.2; rw [List.getElem?_eq_getElem (by rw [HZ.out]; exact hlt1)] at this; simpa using this))]
            have HV := Lib.hid hv
            have ht2 : ((s[lastOf s.data.toList n - 1].toNat : Int) == 13) = false := byte_isnt hlt1 h13
            clear hv h13
            go_wp2
            go_ret
            exact ⟨ret_i64 (by rw [HV.out]), rfl⟩
        · have hv : endL s.data.toList n = lastOf s.data.toList n := by
            unfold endL
            rw [if_neg (fun h => hne h.2.1)]
          have HV := Lib.hid hv
          clear hv
          go_wp2
          go_ret
          exact ⟨ret_i64 (by rw [HV.out]), rfl⟩
      · have hv : endL s.data.toList n = lastOf s.data.toList n := by
          unfold endL
          rw [if_neg (fun h => hln h.1)]
        have he : lastOf s.data.toList n = s.size := by
          obtain rfl : n = (starts s.data.toList).length := by omega
          rw [lastOf_end, HZ.out]
        rw [he] at hv ⊢
        have HV := Lib.hid hv
        clear hv he hk1 hk2 hlt hll hbl
        go_wp2
        go_ret
        exact ⟨ret_i64 (by rw [HV.out]), rfl⟩

end Go.Proofs.YtiimacmaepheeaaDoor
