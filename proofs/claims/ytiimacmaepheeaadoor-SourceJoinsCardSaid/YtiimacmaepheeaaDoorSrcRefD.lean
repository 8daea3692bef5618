/-
  The walks of the reference: decimal numbers, equal lists.
-/
import Derived.Test.YtiimacmaepheeaaDoorSrcRefC
import Derived.Laws.IdiomStrings
import Derived.Lib.ItoaNum
import Derived.Lib.ItoaLen
namespace Go.Proofs.YtiimacmaepheeaaDoor
open Go.RowKit
open Src

def lastDigit (n : Nat) : List UInt8 := [UInt8.ofNat (48 + n % 10)]

theorem digit_string (n : Nat) (w : World) : (convert 54 9 (.slice (some ⟨w.heap.size, 0, none⟩) 1 1)).run Tryd.prog (w.alloc (.cells #[.int .u8 (48 + (n : Int) % 10)] 5)) =
    .ok (.string (str (lastDigit n))) (w.alloc (.cells #[.int .u8 (48 + (n : Int) % 10)] 5)) := by
  refine run_convert_bytes_back (P := Tryd.prog) _ 54 9 5 ⟨w.heap.size, 0, none⟩ 1 [UInt8.ofNat (48 + n % 10)] Tryd.underlying54 Tryd.underlying5 Tryd.underlying9 ?_
  intro j hj
  obtain rfl : j = 0 := by simpa using hj
  rw [show (⟨w.heap.size, 0, none⟩ : Addr).add 0 = ⟨w.heap.size, 0, none⟩ from rfl, (Whole.new w 5 #[.int .u8 (48 + (n : Int) % 10)]).cell]
  simp
  omega

set_option maxHeartbeats 400000 in
theorem decimal_any (f : Nat) : ∀ (n : Nat) (w : World), n < f → n ≤ 100000 →
    Calls Tryd.prog 33 #[.int .i64 (n : Nat)] w fun e w' => e = .returned (.string (str (Lib.decDigits n))) ∧ Below w.heap.size w w' := by
  induction f with
  | zero => intro n w h; omega
  | succ f ih =>
    intro n w hf hn
    have hcv := digit_string n w
    by_cases h10 : n < 10
    · have hv : Lib.decDigits n = lastDigit n := by unfold lastDigit; rw [Lib.decDigits_one h10, Nat.mod_eq_of_lt h10]
      have HV := Lib.hid hv
      clear hv ih
      go_enter Tryd.func33, Tryd.ntmps33
      go_wp2
      go_ret
      exact ⟨ret_str (by rw [HV.out]), (Below.refl _ _).alloc (Nat.le_refl _) _⟩
    · have hv : str (Lib.decDigits (n / 10)) ++ str (lastDigit n) = str (Lib.decDigits n) := by
        rw [str_append]; unfold lastDigit; conv => rhs; rw [Lib.decDigits, dif_neg h10]
      have HV := Lib.hid hv
      have HI := Lib.hid (ih (n / 10) · (by omega) (by omega))
      have hlen : (str (Lib.decDigits (n / 10))).size + 1 ≤ 10000 := by
        rw [str_size, Lib.decDigits_length]
        have := Lib.nDigits_le20 (n / 10) (by omega)
        omega
      have hlen2 : (str (lastDigit n)).size ≤ 1 := Nat.le_of_eq rfl
      clear hv ih
      go_enter Tryd.func33, Tryd.ntmps33
      go_wp2_with fail
      refine (HI.out _).mono ?_
      rintro e w1 ⟨rfl, hb⟩
      go_wp2
      go_ret
      exact ⟨ret_str (by rw [HV.out]), ((Below.refl _ _).alloc (Nat.le_refl _) _).trans (hb.mono (by simp))⟩


set_option maxHeartbeats 400000 in
/-- two lists of strings that are the same -/
theorem strings_same (A B : Option Addr) (ca cb : Nat) (xs : List (List UInt8)) (w : World) (ha : StrsAt w A xs) (hb : StrsAt w B xs) (hx : xs.length ≤ 100000) :
    Calls Tryd.prog 20 #[.slice A xs.length ca, .slice B xs.length cb] w fun e w' => e = .returned (.bool true) ∧ ∃ q, w' = w.drewN q := by
  have HA := Lib.hid ha
  have HB := Lib.hid hb
  clear ha hb
  go_enter Tryd.func20, Tryd.ntmps20
  go_wp2
  go_loopw [5] (fun i wr => ∃ k q : Nat, k ≤ xs.length ∧ i = .int .i64 k ∧ wr = w.drewN q) (fun i _ => xs.length - (intOf i).toNat)
  case atStart => exact ⟨0, 0, Nat.zero_le _, rfl, rfl⟩
  case round =>
    obtain ⟨k, q, hk, rfl, rfl⟩ := hrel
    by_cases hlt : k < xs.length
    · obtain ⟨g, rfl, hc⟩ := HA.out.resolve_left (by intro h; rw [h] at hlt; exact absurd hlt (Nat.not_lt_zero _))
      obtain ⟨g', rfl, hc'⟩ := HB.out.resolve_left (by intro h; rw [h] at hlt; exact absurd hlt (Nat.not_lt_zero _))
      have h1 := hc k hlt
      have h2 := hc' k hlt
      clear hc hc'
      have hki : (k : Int) < (xs.length : Int) := by omega
      have wk : IntKind.i64.wrap ((k : Int) + 1) = (k : Int) + 1 := IntWalk.i64_in _ (by omega)
      go_wp2
      go_quiet (fail)
      go_wp2
      go_roundw
      case rel => exact ⟨k + 1, _, by omega, by go_num, rfl⟩
      case measure => simp [intOf]; omega
    · have hkl : k = xs.length := by omega
      subst hkl
      go_wp2
      go_ret
      exact ⟨rfl, _, rfl⟩

end Go.Proofs.YtiimacmaepheeaaDoor
