/-
  The walk of the reference: excerpts.
-/
import Derived.Test.YtiimacmaepheeaaDoorSrcRefD
import Derived.Test.YtiimacmaepheeaaDoorSrcWalksE
import Derived.Test.YtiimacmaepheeaaDoorSrcMark
namespace Go.Proofs.YtiimacmaepheeaaDoor
open Go.RowKit
open Src

theorem blanks_ex (n : Int) (w : World) (h0 : 0 ≤ n) (hn : n ≤ 100000) :
    Calls Tryd.prog 34 #[.int .i64 n] w fun e w' => ∃ b : ByteArray, e = .returned (.string b) ∧ Hid (b = str (List.replicate n.toNat 32)) ∧ (b.size : Int) ≤ n ∧ w = w' := by
  obtain ⟨m, rfl⟩ := Int.eq_ofNat_of_zero_le h0
  rw [Int.toNat_natCast]
  exact (blanks_any m w (by omega)).mono fun _ _ ⟨he, hb⟩ => ⟨_, he, rfl, by rw [str_size, List.length_replicate]; omega, hb⟩

set_option maxHeartbeats 400000 in
theorem refExcerpt_bad (s : ByteArray) (a e : Int) (w : World) (hbad : a < 0 ∨ e < a ∨ (s.size : Int) < e) :
    Calls Tryd.prog 22 #[.string s, .int .i64 a, .int .i64 e] w fun r w' => r = .returned (.slice none 0 0) ∧ w = w' := by
  by_cases h1 : a < 0
  · go_enter Tryd.func22, Tryd.ntmps22
    go_wp2
    go_ret
    exact ⟨rfl, rfl⟩
  · by_cases h2 : e < a
    · go_enter Tryd.func22, Tryd.ntmps22
      go_wp2
      go_ret
      exact ⟨rfl, rfl⟩
    · have h3 : (s.size : Int) < e := by omega
      go_enter Tryd.func22, Tryd.ntmps22
      go_wp2
      go_ret
      exact ⟨rfl, rfl⟩

theorem refOffset_line (s : ByteArray) (k : Nat) (w : World) (hs : s.size ≤ 1000) (hk1 : 1 ≤ k) (hk : k ≤ (starts s.data.toList).length) :
    Calls Tryd.prog 15 #[.string s, .int .i64 (k : Nat), .int .i64 1] w fun e w' => e = .returned (.tuple #[.int .i64 (bol s.data.toList (k - 1) : Nat), .bool true]) ∧ w = w' := by
  refine (refOffset_any s k 1 w hs).mono fun e w' ⟨he, hw⟩ => ⟨?_, hw⟩
  rw [he]
  have hv : offOf s.data.toList k 1 = ((bol s.data.toList (k - 1) : Int), true) := by
    unfold offOf
    rw [offs_line, if_pos (by omega), Int.toNat_natCast]
  rw [hv]

theorem marks_first (x y h c d : Nat) (hh : ((x : Int) + y + 3).toNat = h) (hc : c = d + 1) : str (List.replicate ((x : Int) + y + 3 + (c : Int) - 1).toNat 32) ++ ⟨#[94]⟩ = str (blanks h ++ (blanks d ++ [94])) := by
  show _ ++ str [94] = _
  rw [str_append, ← List.append_assoc, blanks_add]
  unfold blanks
  congr 3
  omega

theorem marks_later (z : Int) (h a st : Nat) (hh : z.toNat = h) (hc : a < st) : str (List.replicate z.toNat 32) ++ ⟨#[94]⟩ = str (blanks h ++ (blanks (a - st) ++ [94])) := by
  show _ ++ str [94] = _
  rw [str_append, ← List.append_assoc, blanks_add, show a - st = 0 by omega, hh]
  rfl

set_option maxHeartbeats 1600000 in
set_option maxRecDepth 100000 in
theorem refExcerpt_good (s : ByteArray) (a e : Nat) (w : World) (hs : s.size ≤ 1000) (hae : a ≤ e) (he : e ≤ s.size) :
    Calls Tryd.prog 22 #[.string s, .int .i64 (a : Nat), .int .i64 (e : Nat)] w fun r w' =>
      ∃ A cap, r = .returned (.slice A (excL s.data.toList a e).length cap) ∧ StrsAt w' A (excL s.data.toList a e) ∧ Below w.heap.size w w' := by
  have hpos := Lib.hid fun a h0 ha W => refPos_any s a W hs h0 ha
  have ha0 : decide ((a : Int) < 0) = false := by simp
  obtain ⟨i0, hi, hz0, hz1, hz2⟩ := info_parts Tryd.info_string
  have hp := lineN_pos s.data.toList a
  have hsz : s.data.toList.length = s.size := by simp
  have hmax := starts_length_le s.data.toList
  have hle := lineN_le s.data.toList (lastAt a e) (by unfold lastAt; omega)
  have hfl := first_le_last s.data.toList a e hae (by omega)
  have hwid := dec_length_le (lineN s.data.toList (lastAt a e)) (by omega)
  have hcol := colN_le s.data.toList a
  have hcol1 := colN_pos s.data.toList a
  rw [hsz] at hmax
  have HZ := Lib.hid hsz
  clear hsz
  go_enter Tryd.func22, Tryd.ntmps22
  go_wp2_with fail
  refine (hpos.out a (by omega) (by omega) _).mono ?_
  rintro r w1 ⟨rfl, rfl⟩
  rw [Int.toNat_natCast]
  go_wp2_with fail
  rw [show max (a : Int) ((e : Int) - 1) = ((lastAt a e : Nat) : Int) by unfold lastAt; omega]
  refine (hpos.out (lastAt a e) (by omega) (by unfold lastAt; omega) _).mono ?_
  rintro r w1 ⟨rfl, rfl⟩
  rw [Int.toNat_natCast]
  go_wp2_with fail
  refine (decimal_any _ _ _ (Nat.lt_succ_self _) (by omega)).mono ?_
  rintro r w1 ⟨rfl, hb1⟩
  go_wp2_with fail
  simp only [str_size]
  generalize hwd : (Lib.decDigits (lineN s.data.toList (lastAt a e))).length = wd at hwid ⊢
  have HW := Lib.hid hwd
  clear hwd
  go_loopw [12, 13] (fun v i wr => ∃ k : Nat, k ≤ lineN s.data.toList (lastAt a e) + 1 - lineN s.data.toList a ∧ i = .int .i64 ((lineN s.data.toList a : Int) + k) ∧ 
      wr.ownsRow w.heap.size 9 1 v (excK s.data.toList a e k).length ((excK s.data.toList a e k).map fun x => .string (str x)) ∧ Below w.heap.size w wr)
    (fun _ i _ => lineN s.data.toList (lastAt a e) + 1 - (intOf i).toNat)
  case atStart => exact ⟨0, Nat.zero_le _, by go_num, World.ownsRow_lit w1 #[] 0 hb1.size (by decide) rfl, hb1.alloc hb1.size _⟩
  case round =>
    obtain ⟨k, hk, rfl, hown, hbr⟩ := hrel
    by_cases hlt : k < lineN s.data.toList (lastAt a e) + 1 - lineN s.data.toList a
    · obtain ⟨n, hn⟩ : ∃ n, n = lineN s.data.toList a + k := ⟨_, rfl⟩
      have hni : (lineN s.data.toList a : Int) + k = (n : Int) := by omega
      rw [hni]
      have hn1 : lineN s.data.toList a ≤ n := by omega
      have hn2 : n ≤ lineN s.data.toList (lastAt a e) := by omega
      have HN := Lib.hid hn
      clear hn hni
      have hst := bol_le_to s.data.toList a e n hae (by rw [HZ.out]; exact he) (by omega) hn2
      have hen := endL_le s.data.toList n
      rw [HZ.out] at hen
      have hbe := bol_le_endL s.data.toList n (by omega) (by omega)
      have hcl : (contentL s.data.toList n).length ≤ 1000 := by
        rw [content_length _ n (by omega) (by omega)]
        omega
      have hext : s.extract (bol s.data.toList (n - 1)) (endL s.data.toList n) = str (contentL s.data.toList n) := by
        rw [content_cut _ n (by omega) (by omega)]; exact Lib.extract_eq _ _ _
      have hoff := Lib.hid fun W => refOffset_line s n W hs (by omega) (by omega)
      have hend := Lib.hid fun W => end_any s n W hs (by omega) (by omega)
      have hsome := marks_some s.data.toList a e n (by omega) (by omega)
      have hnone := marks_none s.data.toList a e n (by omega) (by omega) hst
      have hfirst : n = lineN s.data.toList a → colN s.data.toList a = a - bol s.data.toList (n - 1) + 1 := by intro h; rw [h]; rfl
      have hlater : n ≠ lineN s.data.toList a → a < bol s.data.toList (n - 1) := fun h => bol_gt_from s.data.toList a n (by rw [HZ.out]; omega) (by omega) (by omega)
      generalize bol s.data.toList (n - 1) = st at *
      generalize endL s.data.toList n = en at *
      generalize hcd : contentL s.data.toList n = c at hcl hext
      have HX := Lib.hid hext
      have HC := Lib.hid hcd
      have HSM := Lib.hid hsome
      have HNO := Lib.hid hnone
      have HF1 := Lib.hid hfirst
      have HL1 := Lib.hid hlater
      clear hcd hext hsome hnone hfirst hlater
      go_wp2_with fail
      refine (hoff.out _).mono ?_
      rintro r w2 ⟨rfl, rfl⟩
      have hD1 : (str (Lib.decDigits n)).size ≤ wd := by
        rw [str_size, ← HW.out]
        exact dec_length_mono n _ hn2
      go_wp2_with fail
      refine (decimal_any _ _ _ (Nat.lt_succ_self _) (by omega)).mono ?_
      rintro r w2 ⟨rfl, hb2⟩
      have hbr2 := hbr.trans (hb2.mono hbr.size)
      have hown2 := ownsRow_below hown hb2
      generalize hdd : str (Lib.decDigits n) = D at hD1 ⊢
      have HD := Lib.hid hdd
      clear hdd hb2 hbr hown
      go_wp2_with fail
      refine (blanks_ex _ _ (by omega) (by omega)).mono ?_
      rintro r w3 ⟨b1, rfl, hb1', hs1, rfl⟩
      go_wp2_with fail
      refine (blanks_ex _ _ (by omega) (by omega)).mono ?_
      rintro r w3 ⟨b5, rfl, hb5, hs5, rfl⟩
      go_wp2_with fail
      go_loop [18, 19, 20] (fun m x i => ∃ j : Nat, i = .int .i64 j ∧ st ≤ j ∧ j ≤ en ∧ m = .string (b5 ++ str (markPart a e st j)) ∧ x = .bool (some? a e st j)) (fun _ _ i => en + 1 - (intOf i).toNat)
      case atStart => exact ⟨st, rfl, Nat.le_refl _, hbe, by rw [markPart_zero, str_nil], by rw [some?_zero]⟩
      case round =>
        obtain ⟨j, rfl, hj1, hj2, rfl, rfl⟩ := hrel
        have hM : (str (markPart a e st j)).size ≤ 2000 := by
          rw [str_size]
          have := markPart_length a e st j
          omega
        by_cases hjt : j < en
        · by_cases c1 : j < a
          · have HA := Lib.hid (str_push b5 (markPart a e st j) 32)
            have HP := Lib.hid (markPart_blank a e st j hj1 c1)
            have HQ := Lib.hid (some?_blank a e st j c1)
            have c1' : ¬ (a : Int) ≤ (j : Int) := by omega
            go_wp2_with fail
            refine (hend.out _).mono ?_
            rintro r w3 ⟨rfl, rfl⟩
            go_wp2
            go_round
            case rel => exact ⟨j + 1, by go_num, by omega, by omega, by rw [HA.out, HP.out], by rw [HQ.out]⟩
            case measure => simp [intOf]; omega
          · by_cases c2 : j < e
            · have HA := Lib.hid (str_push b5 (markPart a e st j) 94)
              have HP := Lib.hid (markPart_caret a e st j hj1 (by omega) c2)
              have HQ := Lib.hid (some?_caret a e st j hj1 (by omega) c2)
              have c1' : (a : Int) ≤ (j : Int) := by omega
              go_wp2_with fail
              refine (hend.out _).mono ?_
              rintro r w3 ⟨rfl, rfl⟩
              go_wp2
              go_round
              case rel => exact ⟨j + 1, by go_num, by omega, by omega, by rw [HA.out, HP.out], by rw [HQ.out]⟩
              case measure => simp [intOf]; omega
            · have HP := Lib.hid (markPart_none a e st j hj1 (by omega) (by omega))
              have HQ := Lib.hid (some?_none a e st j (by omega))
              have c1' : (a : Int) ≤ (j : Int) := by omega
              go_wp2_with fail
              refine (hend.out _).mono ?_
              rintro r w3 ⟨rfl, rfl⟩
              go_wp2
              go_round
              case rel => exact ⟨j + 1, by go_num, by omega, by omega, by rw [HP.out], by rw [HQ.out]⟩
              case measure => simp [intOf]; omega
        · obtain rfl : j = en := by omega
          by_cases hsm : some? a e st j = true
          · have HS := Lib.hid (HSM.out hsm)
            go_wp2_with fail
            refine (hend.out _).mono ?_
            rintro r w3 ⟨rfl, rfl⟩
            go_wp2_with fail
            refine (hend.out _).mono ?_
            rintro r w3 ⟨rfl, rfl⟩
            have hlen : (excK s.data.toList a e k).length ≤ 100000 := by rw [excK_length]; omega
            go_wp2_with (at_builtin; refine wpList_append_own _ rfl _ _ 38 rfl w.heap.size 9 i0 (.string ⟨#[]⟩) 1 16 Tryd.underlying38 hi hz0 hz1 hz2 rfl (by decide) _ _ _ rfl (hown2.alloc _) ⟨w2.heap.size, 0, none⟩ 2 2 [.string (b1 ++ D ++ ⟨#[32, 124, 32]⟩ ++ s.extract st j), .string (b5 ++ str (markPart a e st j))] rfl rfl ?c1 ?c2 ?c3 ?c4 ?c5 ?_)
            case c1 => exact cell_two_new _ _ _ _
            case c2 => intro u hu; simp at hu; rcases hu with rfl | rfl <;> rfl
            case c3 => unfold maxLen; omega
            case c4 => omega
            case c5 => have := hbr2.size; simp; omega
            intro v' w10 hown' hg _
            have hfin := exc_step HN.out (by rw [HW.out, head_eq wd n b1 D HD.out hb1'.out, HX.out, ← HC.out, str_append]) (by rw [HW.out, ← HS.out, hb5.out, str_append, head_size wd n b1 D HD.out hb1'.out]; rfl) hown'
            have hbr8 := (hbr2.alloc hbr2.size _).grown hg (by have := hbr2.size; simp; omega) fun k' hk' => (hown2.lt k' hk').1
            clear hown' hg hown2 hbr2
            go_wp2
            go_roundw
            case rel => exact ⟨k + 1, by omega, by have hn := HN.out; rw [hn]; go_num, hfin, hbr8⟩
            case measure => simp [intOf]; omega
          · have hsf : some? a e st j = false := by simpa using hsm
            have HS := Lib.hid (HNO.out hsf)
            have HH := Lib.hid (head_size wd n b1 D HD.out hb1'.out)
            clear hsm
            by_cases hf : n = lineN s.data.toList a
            · have hcl2 := HF1.out hf
              have hcl3 : (colN s.data.toList a : Int) ≤ 1001 := by omega
              have hcl4 : 1 ≤ (colN s.data.toList a : Int) := by omega
              have HCL := Lib.hid hcl2
              have ht : ((n : Int) == (lineN s.data.toList a : Int)) = true := by rw [beq_iff_eq]; omega
              clear hf hcl2
              go_wp2_with fail
              refine (hend.out _).mono ?_
              rintro r w3 ⟨rfl, rfl⟩
              go_wp2_with fail
              refine (blanks_ex _ _ (by omega) (by omega)).mono ?_
              rintro r w3 ⟨b6, rfl, -, hs6, rfl⟩
              go_wp2_with fail
              refine (blanks_ex _ _ (by omega) (by omega)).mono ?_
              rintro r w3 ⟨b7, rfl, hb7, hs7, rfl⟩
              go_wp2_with fail
              refine (hend.out _).mono ?_
              rintro r w3 ⟨rfl, rfl⟩
              have hlen : (excK s.data.toList a e k).length ≤ 100000 := by rw [excK_length]; omega
              go_wp2_with (at_builtin; refine wpList_append_own _ rfl _ _ 38 rfl w.heap.size 9 i0 (.string ⟨#[]⟩) 1 16 Tryd.underlying38 hi hz0 hz1 hz2 rfl (by decide) _ _ _ rfl (hown2.alloc _) ⟨w2.heap.size, 0, none⟩ 2 2 [.string (b1 ++ D ++ ⟨#[32, 124, 32]⟩ ++ s.extract st j), .string (b7 ++ ⟨#[94]⟩)] rfl rfl ?c1 ?c2 ?c3 ?c4 ?c5 ?_)
              case c1 => exact cell_two_new _ _ _ _
              case c2 => intro u hu; simp at hu; rcases hu with rfl | rfl <;> rfl
              case c3 => unfold maxLen; omega
              case c4 => omega
              case c5 => have := hbr2.size; simp; omega
              intro v' w10 hown' hg _
              have hfin := exc_step HN.out (by rw [HW.out, head_eq wd n b1 D HD.out hb1'.out, HX.out, ← HC.out, str_append]) (by rw [HW.out, HS.out, hb7.out]; exact marks_first _ _ _ _ _ HH.out HCL.out) hown'
              have hbr8 := (hbr2.alloc hbr2.size _).grown hg (by have := hbr2.size; simp; omega) fun k' hk' => (hown2.lt k' hk').1
              clear hown' hg hown2 hbr2
              go_wp2
              go_roundw
              case rel => exact ⟨k + 1, by omega, by have hn := HN.out; rw [hn]; go_num, hfin, hbr8⟩
              case measure => simp [intOf]; omega
            · have hal := HL1.out hf
              have ht : ((n : Int) == (lineN s.data.toList a : Int)) = false := by rw [beq_eq_false_iff_ne]; omega
              have HAL := Lib.hid hal
              clear hf hal
              go_wp2_with fail
              refine (hend.out _).mono ?_
              rintro r w3 ⟨rfl, rfl⟩
              go_wp2_with fail
              refine (blanks_ex _ _ (by omega) (by omega)).mono ?_
              rintro r w3 ⟨b6, rfl, hb6, hs6, rfl⟩
              go_wp2_with fail
              refine (hend.out _).mono ?_
              rintro r w3 ⟨rfl, rfl⟩
              have hlen : (excK s.data.toList a e k).length ≤ 100000 := by rw [excK_length]; omega
              go_wp2_with (at_builtin; refine wpList_append_own _ rfl _ _ 38 rfl w.heap.size 9 i0 (.string ⟨#[]⟩) 1 16 Tryd.underlying38 hi hz0 hz1 hz2 rfl (by decide) _ _ _ rfl (hown2.alloc _) ⟨w2.heap.size, 0, none⟩ 2 2 [.string (b1 ++ D ++ ⟨#[32, 124, 32]⟩ ++ s.extract st j), .string (b6 ++ ⟨#[94]⟩)] rfl rfl ?c1 ?c2 ?c3 ?c4 ?c5 ?_)
              case c1 => exact cell_two_new _ _ _ _
              case c2 => intro u hu; simp at hu; rcases hu with rfl | rfl <;> rfl
              case c3 => unfold maxLen; omega
              case c4 => omega
              case c5 => have := hbr2.size; simp; omega
              intro v' w10 hown' hg _
              have hfin := exc_step HN.out (by rw [HW.out, head_eq wd n b1 D HD.out hb1'.out, HX.out, ← HC.out, str_append]) (by rw [HW.out, HS.out, hb6.out]; exact marks_later _ _ _ _ HH.out HAL.out) hown'
              have hbr8 := (hbr2.alloc hbr2.size _).grown hg (by have := hbr2.size; simp; omega) fun k' hk' => (hown2.lt k' hk').1
              clear hown' hg hown2 hbr2
              go_wp2
              go_roundw
              case rel => exact ⟨k + 1, by omega, by have hn := HN.out; rw [hn]; go_num, hfin, hbr8⟩
              case measure => simp [intOf]; omega
    · have hkl : k = lineN s.data.toList (lastAt a e) + 1 - lineN s.data.toList a := by omega
      have HX := Lib.hid (show excK s.data.toList a e k = excL s.data.toList a e by rw [hkl]; rfl)
      have hlast : (lineN s.data.toList (lastAt a e) : Int) < (lineN s.data.toList a : Int) + (k : Int) := by omega
      clear hkl
      go_wp2
      refine bodyPost_ret (results_tmp rfl _ _ _) rfl ?_
      rw [HX.out] at hown
      obtain ⟨A, n', cap, rfl⟩ : ∃ A n cap, u12 = .slice A n cap := by
        rcases hown.2 with ⟨h, _⟩ | ⟨g, cap, cur, h, _⟩
        · exact ⟨_, _, _, h⟩
        · exact ⟨_, _, _, h⟩
      have hn' : n' = (excL s.data.toList a e).length := by
        rcases hown.2 with ⟨h, h0⟩ | ⟨g, cap, cur, h, _⟩
        · injection h with _ h _; omega
        · injection h
      subst hn'
      exact ⟨A, cap, rfl, (StrsAt.of_own hown).2, hbr⟩

end Go.Proofs.YtiimacmaepheeaaDoor
