/-
  The walk of the law on marks.
-/
import Derived.Test.YtiimacmaepheeaaDoorSrcLawB
import Derived.Test.YtiimacmaepheeaaDoorSrcCount
namespace Go.Proofs.YtiimacmaepheeaaDoor
open Go.RowKit
open Src

set_option maxHeartbeats 1600000 in
set_option maxRecDepth 100000 in
theorem marks_walk (s : ByteArray) (at_ to_ : Int) (w : World) (hT : Tab w) :
    Calls Tryd.prog 8 #[.string s, .int .i64 at_, .int .i64 to_] w fun e w' => e = .returned (.bool true) ∧ Below w.heap.size w w' := by
  have HA := Lib.hid (awake_any w hT)
  by_cases hs : 200 < s.size
  · go_enter Tryd.func8, Tryd.ntmps8
    go_wp2_with fail
    refine HA.out.mono ?_
    rintro r w1 ⟨rfl, hb1⟩
    go_wp2
    go_ret
    exact ⟨rfl, hb1⟩
  · by_cases hbad : at_ < 0 ∨ to_ < at_ ∨ (s.size : Int) < to_
    · have hE := Lib.hid fun b W hW => excerpt_bad b s at_ to_ W hW hbad
      by_cases h1 : at_ < 0
      · clear hbad
        go_enter Tryd.func8, Tryd.ntmps8
        go_wp2_with fail
        refine HA.out.mono ?_
        rintro r w1 ⟨rfl, hb1⟩
        go_wp2_with fail
        refine (new_any s w1 (by omega)).mono ?_
        rintro r w2 ⟨rfl, hI2, hb2⟩
        have HI2 := Lib.hid hI2
        have hbb := hb1.trans (hb2.mono hb1.size)
        clear hb1 hb2 hI2
        go_wp2_with fail
        refine (hE.out _ _ HI2.out).mono ?_
        rintro r w3 ⟨rfl, rfl⟩
        go_wp2
        go_ret
        exact ⟨rfl, hbb⟩
      · by_cases h2 : to_ < at_
        · clear hbad
          go_enter Tryd.func8, Tryd.ntmps8
          go_wp2_with fail
          refine HA.out.mono ?_
          rintro r w1 ⟨rfl, hb1⟩
          go_wp2_with fail
          refine (new_any s w1 (by omega)).mono ?_
          rintro r w2 ⟨rfl, hI2, hb2⟩
          have HI2 := Lib.hid hI2
          have hbb := hb1.trans (hb2.mono hb1.size)
          clear hb1 hb2 hI2
          go_wp2_with fail
          refine (hE.out _ _ HI2.out).mono ?_
          rintro r w3 ⟨rfl, rfl⟩
          go_wp2
          go_ret
          exact ⟨rfl, hbb⟩
        · have h3 : (s.size : Int) < to_ := by omega
          clear hbad
          go_enter Tryd.func8, Tryd.ntmps8
          go_wp2_with fail
          refine HA.out.mono ?_
          rintro r w1 ⟨rfl, hb1⟩
          go_wp2_with fail
          refine (new_any s w1 (by omega)).mono ?_
          rintro r w2 ⟨rfl, hI2, hb2⟩
          have HI2 := Lib.hid hI2
          have hbb := hb1.trans (hb2.mono hb1.size)
          clear hb1 hb2 hI2
          go_wp2_with fail
          refine (hE.out _ _ HI2.out).mono ?_
          rintro r w3 ⟨rfl, rfl⟩
          go_wp2
          go_ret
          exact ⟨rfl, hbb⟩
    · obtain ⟨a, rfl⟩ := Int.eq_ofNat_of_zero_le (show 0 ≤ at_ by omega)
      obtain ⟨e, rfl⟩ := Int.eq_ofNat_of_zero_le (show 0 ≤ to_ by omega)
      have hae : a ≤ e := by omega
      have he : e ≤ s.size := by omega
      have ha0 : decide ((a : Int) < 0) = false := by simp
      have hsz : s.data.toList.length = s.size := by simp
      have hmax := starts_length_le s.data.toList
      rw [hsz] at hmax
      have hF1 := lineN_pos s.data.toList a
      have hFT := first_le_last s.data.toList a e hae (by omega)
      have hTn := lineN_le s.data.toList (lastAt a e) (by unfold lastAt; omega)
      have HZ := Lib.hid hsz
      have hla : lastAt a e ≤ s.size := by unfold lastAt; omega
      have HE := Lib.hid fun b W hW hT => excerpt_good b s a e W hW (by omega) hae he hT
      have hL : (excL s.data.toList a e).length = 2 * (lineN s.data.toList (lastAt a e) + 1 - lineN s.data.toList a) := excK_length _ _ _ _
      have hLb : (2 * ((lineN s.data.toList (lastAt a e) + 1 - lineN s.data.toList a : Nat) : Int) != 2 * ((lineN s.data.toList (lastAt a e) : Int) - (lineN s.data.toList a : Int) + 1)) = false := by
        simp; omega
      clear hsz hbad
      have hs0 : decide ((200 : Int) < (s.size : Int)) = false := by simp; omega
      go_enter Tryd.func8, Tryd.ntmps8
      go_wp2_with fail
      refine HA.out.mono ?_
      rintro r w1 ⟨rfl, hb1⟩
      go_wp2_with fail
      refine (new_any s w1 (by omega)).mono ?_
      rintro r w2 ⟨rfl, hI2, hb2⟩
      have HI2 := Lib.hid hI2
      have hbb := hb1.trans (hb2.mono hb1.size)
      generalize hgb : w1.heap.size + 1 = b at HI2 ⊢
      clear hb1 hb2 hI2 hgb
      go_wp2_with fail
      refine (HE.out _ _ HI2.out (hT.below hbb)).mono ?_
      rintro r w3 ⟨A, cap, rfl, hA, hb3⟩
      have HI3 := Lib.hid (HI2.out.below hb3)
      have HA3 := Lib.hid hA
      have hbc := hbb.trans (hb3.mono hbb.size)
      clear hb3 hbb hA
      have HP := Lib.hid fun k hk W hW => pos_in b s k W hW (by omega) hk
      go_wp2_with fail
      refine (HP.out a (by omega) _ HI3.out).mono ?_
      rintro r w4 ⟨rfl, hb4⟩
      have HI4 := Lib.hid (HI3.out.below hb4)
      have HA4 := Lib.hid (HA3.out.below hb4)
      have hbd := hbc.trans (hb4.mono hbc.size)
      clear hb4 hbc
      go_wp2_with fail
      rw [show max (a : Int) ((e : Int) - 1) = ((lastAt a e : Nat) : Int) by unfold lastAt; omega]
      refine (HP.out (lastAt a e) (by omega) _ HI4.out).mono ?_
      rintro r w5 ⟨rfl, hb5⟩
      have HI5 := Lib.hid (HI4.out.below hb5)
      have HA5 := Lib.hid (HA4.out.below hb5)
      have hbe := hbd.trans (hb5.mono hbd.size)
      clear hb5 hbd
      go_wp2_with fail
      clear hL hLb
      go_loopw [13] (fun i wr => ∃ k : Nat, i = .int .i64 ((lineN s.data.toList a : Int) + (k : Int)) ∧ k ≤ lineN s.data.toList (lastAt a e) + 1 - lineN s.data.toList a ∧ IsIndex wr b s ∧ StrsAt wr A (excL s.data.toList a e) ∧ Below w.heap.size w wr)
        (fun i _ => lineN s.data.toList (lastAt a e) + 1 - (intOf i).toNat)
      case atStart => exact ⟨0, by go_num, Nat.zero_le _, HI5.out, HA5.out, hbe⟩
      case round =>
        obtain ⟨j, rfl, hj, hI, hA, hbr⟩ := hrel
        have HI := Lib.hid hI
        have HA6 := Lib.hid hA
        by_cases hlt : j < lineN s.data.toList (lastAt a e) + 1 - lineN s.data.toList a
        · obtain ⟨n, hn⟩ : ∃ n, n = lineN s.data.toList a + j := ⟨_, rfl⟩
          have hni : (lineN s.data.toList a : Int) + j = (n : Int) := by omega
          rw [hni]
          have hn1 : lineN s.data.toList a ≤ n := by omega
          have hn2 : n ≤ lineN s.data.toList (lastAt a e) := by omega
          have hat := excK_at s.data.toList a e (lineN s.data.toList (lastAt a e) + 1 - lineN s.data.toList a) j hlt
          rw [← hn] at hat
          have hxl : (excL s.data.toList a e).length = 2 * (lineN s.data.toList (lastAt a e) + 1 - lineN s.data.toList a) := excK_length _ _ _ _
          have hst := bol_le_to s.data.toList a e n hae (by rw [HZ.out]; exact he) (by omega) hn2
          have hcl : (contentL s.data.toList n).length ≤ 1000 := by
            rw [content_length _ n (by omega) (by omega)]
            have := endL_le s.data.toList n
            rw [HZ.out] at this
            omega
          have hcon := Lib.hid fun W hW => content_good b s n W hW (by omega) (by omega) (by omega)
          have hoff := offset_any b s n 1 wr HI.out (by omega) (by omega)
          rw [show offOf s.data.toList n 1 = ((bol s.data.toList (n - 1) : Int), true) by unfold offOf; rw [offs_line, if_pos (by omega), Int.toNat_natCast]] at hoff
          have hcm := count_marks s.data.toList a e n (headL (Lib.decDigits (lineN s.data.toList (lastAt a e))).length n).length hst
          have hsuf := suffix_head (Lib.decDigits (lineN s.data.toList (lastAt a e))).length n (contentL s.data.toList n)
          obtain ⟨g, rfl, hcells⟩ := hA.resolve_left (by intro h; rw [h] at hxl; simp at hxl; omega)
          have hp : wr.cell? ⟨g, 2 * j, none⟩ = some (.string (str (headL (Lib.decDigits (lineN s.data.toList (lastAt a e))).length n ++ contentL s.data.toList n))) := by
            rw [hcells (2 * j) (by omega), ← (List.getElem?_eq_some_iff.1 hat.1).2]; rfl
          have hq : wr.cell? ⟨g, 2 * j + 1, none⟩ = some (.string (str (blanks (headL (Lib.decDigits (lineN s.data.toList (lastAt a e))).length n).length ++ marksL s.data.toList a e n))) := by
            rw [hcells (2 * j + 1) (by omega), ← (List.getElem?_eq_some_iff.1 hat.2).2]; rfl
          have hhd : (headL (Lib.decDigits (lineN s.data.toList (lastAt a e))).length n).length ≤ 100 := by
            have h1 := dec_length_le n (by omega)
            have h2 := dec_length_le (lineN s.data.toList (lastAt a e)) (by omega)
            unfold headL blanks
            simp; omega
          generalize blanks (headL (Lib.decDigits (lineN s.data.toList (lastAt a e))).length n).length ++ marksL s.data.toList a e n = Y at hcm hq
          generalize headL (Lib.decDigits (lineN s.data.toList (lastAt a e))).length n = hd at hsuf hp hhd
          generalize contentL s.data.toList n = c at *
          generalize bol s.data.toList (n - 1) = st at *
          have hcnt := fun W => (Tryd.strings_Count_one (str Y) 94 W)
          rw [show Lib.countByte (str Y).data.toList 94 = Y.count 94 by rw [str_list]; rfl] at hcnt
          have hhs := fun W => (Tryd.strings_HasSuffix (str (hd ++ c)) (⟨#[32, 124, 32]⟩ ++ str c) W (by rw [str_size, List.length_append]; omega))
          rw [show Lib.hasSuffix (str (hd ++ c)).data.toList (⟨#[32, 124, 32]⟩ ++ str c : ByteArray).data.toList = true by
            rw [str_list, show (⟨#[32, 124, 32]⟩ ++ str c : ByteArray) = str ([32, 124, 32] ++ c) from str_append _ _, str_list]; exact hsuf] at hhs
          generalize hmk : Y.count 94 = mk at hcm hcnt
          have hcs : (str c).size ≤ 1000 := by rw [str_size]; exact hcl
          have hcm2 : max 1 (min (e : Int) ((st : Int) + ((str c).size : Int)) - max (a : Int) (st : Int)) = (mk : Int) := by rw [hcm, str_size]
          have HCN := Lib.hid hcnt
          have HHS := Lib.hid hhs
          have HO := Lib.hid hoff
          have HN := Lib.hid hn
          have hlo : g < wr.heap.size := World.block_lt_of_cell? _ _ hp
          have HPC := Lib.hid hp
          have HQC := Lib.hid hq
          have HJ := Lib.hid hlt
          clear hcm hcnt hhs hoff hn hat hsuf hcells hmk hI hA hp hq hni hxl hcl hhd
          go_wp2_with fail
          refine HO.out.mono ?_
          rintro r w6 ⟨rfl, hb6⟩
          have HI6 := Lib.hid (HI.out.below hb6)
          have HA7 := Lib.hid (HA6.out.below hb6)
          have hbf := hbr.trans (hb6.mono hbr.size)
          have hp6 := Lib.hid ((hb6.cell (p := ⟨g, 2 * j, none⟩) hlo).trans HPC.out)
          have hq6 := Lib.hid ((hb6.cell (p := ⟨g, 2 * j + 1, none⟩) hlo).trans HQC.out)
          have hlo6 : g < w6.heap.size := Nat.lt_of_lt_of_le hlo hb6.size
          clear hb6 hbr hlo
          go_wp2_with fail
          refine (hcon.out _ HI6.out).mono ?_
          rintro r w7 ⟨rfl, hq7⟩
          have hb7 := drawn_below hq7
          have HI7 := Lib.hid (HI6.out.below hb7)
          have HA8 := Lib.hid (HA7.out.below hb7)
          have hbg := hbf.trans (hb7.mono hbf.size)
          have hp7 := (hb7.cell (p := ⟨g, 2 * j, none⟩) hlo6).trans hp6.out
          have hq7c := (hb7.cell (p := ⟨g, 2 * j + 1, none⟩) hlo6).trans hq6.out
          clear hb7 hbf hlo6 hq7
          have wk1 : IntKind.i64.wrap ((n : Int) - (lineN s.data.toList a : Int)) = (j : Int) := by rw [IntWalk.i64_in _ (by omega)]; have := HN.out; omega
          have wk2 : IntKind.i64.wrap (2 * (j : Int)) = 2 * (j : Int) := IntWalk.i64_in _ (by omega)
          have wk3 : IntKind.i64.wrap (2 * (j : Int) + 1) = 2 * (j : Int) + 1 := IntWalk.i64_in _ (by omega)
          have wk4 : (2 * (j : Int)).toNat = 2 * j := by omega
          have wk5 : (2 * (j : Int) + 1).toNat = 2 * j + 1 := by omega
          have wk6 : 2 * (j : Int) < 2 * ((lineN s.data.toList (lastAt a e) + 1 - lineN s.data.toList a : Nat) : Int) := by have := HJ.out; omega
          have wk7 : 2 * (j : Int) + 1 < 2 * ((lineN s.data.toList (lastAt a e) + 1 - lineN s.data.toList a : Nat) : Int) := by have := HJ.out; omega
          have wk8 : 0 ≤ 2 * (j : Int) := by omega
          have wk9 : 0 ≤ 2 * (j : Int) + 1 := by omega
          go_wp2
          go_quiet ((first
            | (go_at_call 23; exact Calls.quiet_of_same (HCN.out _))
            | (go_at_call 24; exact Calls.quiet_of_same (HHS.out _))
            | (go_at_call 18; exact Calls.quiet_of (hcon.out _ (HI7.out.drewN _)))))
          clear wk1 wk2 wk3 wk4 wk5 wk6 wk7 wk8 wk9 hp7 hq7c
          go_wp2
          go_roundw
          case rel => exact ⟨j + 1, by have := HN.out; rw [this]; go_num, by have := HJ.out; omega, HI7.out.drewN _, HA8.out.below (below_drewN (Below.refl _ _) _), below_drewN hbg _⟩
          case measure => simp [intOf]; omega
        · go_wp2
          go_ret
          exact ⟨rfl, hbr⟩

end Go.Proofs.YtiimacmaepheeaaDoor
