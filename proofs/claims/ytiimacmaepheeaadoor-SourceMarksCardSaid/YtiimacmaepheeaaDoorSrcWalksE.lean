/-
  The walk of package source: excerpts.
-/
import Derived.Test.YtiimacmaepheeaaDoorSrcWalksD
import Derived.Test.YtiimacmaepheeaaDoorSrcWalksC
import Derived.Test.YtiimacmaepheeaaDoorSrcExc
import Derived.Lib.LaidTab
namespace Go.Proofs.YtiimacmaepheeaaDoor
open Go.RowKit
open Src

/-- the table of powers of ten lies where it should -/
def Tab (w : World) : Prop := Lib.TabIs Tryd.prog w "internal/strconv.uint64pow10" .u64 Lib.pow10Tab

theorem Tryd.info_string : (Tryd.prog.info? 9).map (fun i => (i.zero, i.size, i.bytes)) = some (some (.string ⟨#[]⟩), 1, 16) := by kernel_rfl

theorem Tryd.gTab : Tryd.prog.globalNamed "internal/strconv.uint64pow10" = some 1 := by kernel_rfl

theorem Tab.below {w w' : World} (h : Tab w) (hb : Below w.heap.size w w') : Tab w' := by
  have hlt : 1 < w.heap.size := by
    apply Classical.byContradiction
    intro hn
    unfold Tab Lib.TabIs World.var? at h
    rw [Tryd.gTab] at h
    simp only [Option.bind_some] at h
    rw [Array.getElem?_eq_none (Nat.le_of_not_lt hn)] at h
    cases h
  exact var?_below hb Tryd.gTab hlt h

/-- Itoa of a line's number -/
theorem itoa_any (n : Nat) (w : World) (hn : n ≤ 100000) (hT : Tab w) :
    Calls Tryd.prog 31 #[.int .i64 (n : Nat)] w fun e w' => e = .returned (.string (str (Lib.decDigits n))) ∧ Below w.heap.size w w' := by
  refine (Tryd.strconv_Itoa n (by omega) (by omega) w hT).mono fun e w' ⟨he, k, os, hw⟩ => ⟨?_, ?_⟩
  · rw [he]
    unfold Lib.itoa
    rw [if_neg (by omega), Int.toNat_natCast]; rfl
  · rw [hw]; exact below_grow w k os

theorem repeatL_single (c : UInt8) (n : Nat) : Lib.repeatL [c] n = List.replicate n c := by
  induction n with
  | zero => rfl
  | succ n ih => rw [Lib.repeatL, ih]; rfl

theorem repeat_any (c : UInt8) (n : Int) (w : World) (h0 : 0 ≤ n) (hn : n ≤ 100000) :
    Calls Tryd.prog 32 #[.string ⟨#[c]⟩, .int .i64 n] w fun e w' => e = .returned (.string (str (List.replicate n.toNat c))) ∧ Below w.heap.size w w' := by
  obtain ⟨m, rfl⟩ := Int.eq_ofNat_of_zero_le h0
  rw [Int.toNat_natCast]
  refine (Tryd.strings_Repeat ⟨#[c]⟩ m w (by omega) (by simp [ByteArray.size]; omega)).mono fun e w' ⟨he, hw⟩ => ⟨?_, hw⟩
  rw [he]
  show Ending.returned (.string ⟨(Lib.repeatL [c] m).toArray⟩) = _
  rw [repeatL_single]; rfl

theorem repeat_ex (c : UInt8) (n : Int) (w : World) (h0 : 0 ≤ n) (hn : n ≤ 100000) :
    Calls Tryd.prog 32 #[.string ⟨#[c]⟩, .int .i64 n] w fun e w' => ∃ b : ByteArray, e = .returned (.string b) ∧ Hid (b = str (List.replicate n.toNat c)) ∧ (b.size : Int) ≤ n ∧ Below w.heap.size w w' :=
  (repeat_any c n w h0 hn).mono fun _ _ ⟨he, hb⟩ => ⟨_, he, rfl, by rw [str_size, List.length_replicate]; omega, hb⟩

theorem head_eq (wd n : Nat) (b1 D : ByteArray) (hD : str (Lib.decDigits n) = D) (hb1 : b1 = str (List.replicate ((wd : Int) - (D.size : Int)).toNat 32)) :
    b1 ++ D ++ ⟨#[32, 124, 32]⟩ = str (headL wd n) := by
  subst hb1 hD
  show _ ++ _ ++ str [32, 124, 32] = _
  rw [str_append, str_append, str_size]
  unfold headL blanks
  congr 4
  omega

theorem head_size (wd n : Nat) (b1 D : ByteArray) (hD : str (Lib.decDigits n) = D) (hb1 : b1 = str (List.replicate ((wd : Int) - (D.size : Int)).toNat 32)) :
    ((b1.size : Int) + (D.size : Int) + 3).toNat = (headL wd n).length := by
  have h := congrArg ByteArray.size (head_eq wd n b1 D hD hb1)
  rw [str_size, ByteArray.size_append, ByteArray.size_append] at h
  have : (⟨#[32, 124, 32]⟩ : ByteArray).size = 3 := rfl
  omega

theorem pair_map (l : List UInt8) (a e wd n : Nat) (X Y : ByteArray) (hX : X = str (headL wd n ++ contentL l n)) (hY : Y = str (blanks (headL wd n).length ++ marksL l a e n)) :
    [Value.string X, Value.string Y] = (pairL l a e wd n).map fun x => .string (str x) := by
  subst hX hY; rfl

theorem exc_step {l : List UInt8} {a e k n : Nat} {X Y : ByteArray} {w : World} {base : Nat} {v : Value} (hn : n = lineN l a + k)
    (hX : X = str (headL (Lib.decDigits (lineN l (lastAt a e))).length n ++ contentL l n)) (hY : Y = str (blanks (headL (Lib.decDigits (lineN l (lastAt a e))).length n).length ++ marksL l a e n))
    (h : w.ownsRow base 9 1 v ((excK l a e k).length + 2) ((excK l a e k).map (fun x => .string (str x)) ++ [.string X, .string Y])) :
    w.ownsRow base 9 1 v (excK l a e (k + 1)).length ((excK l a e (k + 1)).map fun x => .string (str x)) := by
  subst hn
  rw [pair_map l a e _ _ X Y hX hY, ← List.map_append, ← excK_succ] at h
  rw [excK_length] at h ⊢
  exact h

theorem marks_hit (l : List UInt8) (a e n : Nat) (fr tt st : Nat) (c : List UInt8) (b3 b4 : ByteArray) (hc : contentL l n = c) (hs : bol l (n - 1) = st) (hf : fr = a - st) (ht : tt = min (str c).size (e - st)) (hft : fr < tt)
    (h3 : b3 = str (List.replicate (fr : Int).toNat 32)) (h4 : b4 = str (List.replicate ((tt : Int) - (fr : Int)).toNat 94)) : b3 ++ b4 = str (marksL l a e n) := by
  rw [str_size] at ht
  subst hc hs h3 h4
  rw [str_append]
  unfold marksL
  simp only [← hf, ← ht, if_pos hft]
  unfold blanks carets
  congr 4
  omega

theorem marks_miss (l : List UInt8) (a e n : Nat) (fr tt st : Nat) (c : List UInt8) (b2 : ByteArray) (hc : contentL l n = c) (hs : bol l (n - 1) = st) (hf : fr = a - st) (ht : tt = min (str c).size (e - st)) (hft : ¬ fr < tt)
    (h2 : b2 = str (List.replicate (fr : Int).toNat 32)) : b2 ++ ⟨#[94]⟩ = str (marksL l a e n) := by
  rw [str_size] at ht
  subst hc hs h2
  show _ ++ str [94] = _
  rw [str_append]
  unfold marksL
  simp only [← hf, ← ht, if_neg hft]
  rfl

set_option maxHeartbeats 1600000 in
set_option maxRecDepth 100000 in
theorem excerpt_good (b : Nat) (s : ByteArray) (a e : Nat) (w : World) (h : IsIndex w b s) (hs : s.size ≤ 1000) (hae : a ≤ e) (he : e ≤ s.size) (hT : Tab w) :
    Calls Tryd.prog 21 #[.pointer (some ⟨b, 0, none⟩), .int .i64 (a : Nat), .int .i64 (e : Nat)] w fun r w' =>
      ∃ A cap, r = .returned (.slice A (excL s.data.toList a e).length cap) ∧ StrsAt w' A (excL s.data.toList a e) ∧ Below w.heap.size w w' := by
  have hline := Lib.hid fun a ha W hW => line_any b s a W hW hs ha
  have HI := Lib.hid h
  obtain ⟨g, cap, h0, h1, h2⟩ := h
  clear h2
  have hmf : ∀ (fn : Fn) (first cap : Array Value) (w : World), (Instr.makeFunc fn first cap).run Tryd.prog w = .ok (.func fn first cap) w := fun _ _ _ _ => rfl
  have ha0 : decide ((a : Int) < 0) = false := by simp
  obtain ⟨i0, hi, hz0, hz1, hz2⟩ := info_parts Tryd.info_string
  go_enter Tryd.func21, Tryd.ntmps21
  go_wp2_with fail
  refine (hline.out a (by omega) _ HI.out).mono ?_
  rintro r w1 ⟨rfl, hb1⟩
  go_wp2_with fail
  rw [show max (a : Int) ((e : Int) - 1) = ((lastAt a e : Nat) : Int) by unfold lastAt; omega]
  refine (hline.out (lastAt a e) (by unfold lastAt; omega) _ (HI.out.below hb1)).mono ?_
  rintro r w2 ⟨rfl, hb2⟩
  have hb := hb1.trans (hb2.mono hb1.size)
  have hp := lineN_pos s.data.toList a
  have hsz : s.data.toList.length = s.size := by simp
  have hmax := starts_length_le s.data.toList
  have hle := lineN_le s.data.toList (lastAt a e) (by unfold lastAt; omega)
  have hfl := first_le_last s.data.toList a e hae (by omega)
  have hwid := dec_length_le (lineN s.data.toList (lastAt a e)) (by omega)
  rw [hsz] at hmax
  have HZ := Lib.hid hsz
  clear hsz hb1 hb2
  go_wp2_with fail
  refine (itoa_any _ _ (by omega) (hT.below hb)).mono ?_
  rintro r w3 ⟨rfl, hb3⟩
  have hb' := hb.trans (hb3.mono hb.size)
  clear hb hb3
  go_wp2_with fail
  simp only [str_size]
  generalize hwd : (Lib.decDigits (lineN s.data.toList (lastAt a e))).length = wd at hwid ⊢
  have HW := Lib.hid hwd
  clear hwd
  go_loopw [11, 12] (fun v i wr => ∃ k : Nat, k ≤ lineN s.data.toList (lastAt a e) + 1 - lineN s.data.toList a ∧ i = .int .i64 ((lineN s.data.toList a : Int) + k) ∧ 
      wr.ownsRow w.heap.size 9 1 v (excK s.data.toList a e k).length ((excK s.data.toList a e k).map fun x => .string (str x)) ∧ Below w.heap.size w wr)
    (fun _ i _ => lineN s.data.toList (lastAt a e) + 1 - (intOf i).toNat)
  case atStart => exact ⟨0, Nat.zero_le _, by go_num, World.ownsRow_nil _ _ _ _, hb'⟩
  case round =>
    obtain ⟨k, hk, rfl, hown, hbr⟩ := hrel
    by_cases hlt : k < lineN s.data.toList (lastAt a e) + 1 - lineN s.data.toList a
    · obtain ⟨n, hn⟩ : ∃ n, n = lineN s.data.toList a + k := ⟨_, rfl⟩
      have hni : (lineN s.data.toList a : Int) + k = (n : Int) := by omega
      rw [hni]
      have hn1 : lineN s.data.toList a ≤ n := by omega
      have hn2 : n ≤ lineN s.data.toList (lastAt a e) := by omega
      have HN := Lib.hid hn
      clear hn hni
      have HR := Lib.hid (HI.out.below hbr)
      obtain ⟨g, cap, h0, h1, h2⟩ := HR.out
      have hc := h2 (n - 1) (by omega)
      clear h2 h0
      have hk2 : (n : Int) - 1 < ((starts s.data.toList).length : Int) := by omega
      have hk6 : 0 ≤ (n : Int) - 1 := by omega
      have wk1 : ((n : Int) - 1).toNat = n - 1 := by omega
      have wk0 : IntKind.i64.wrap ((n : Int) - 1) = (n : Int) - 1 := IntWalk.i64_in _ (by omega)
      have hst := bol_le_to s.data.toList a e n hae (by rw [HZ.out]; exact he) (by omega) hn2
      have hcl : (contentL s.data.toList n).length ≤ 1000 := by
        rw [content_length _ n (by omega) (by omega)]
        have := endL_le s.data.toList n
        rw [HZ.out] at this
        omega
      have hcon := Lib.hid fun W hW => content_good b s n W hW hs (by omega) (by omega)
      generalize hcd : contentL s.data.toList n = c at hcl hcon
      generalize hsd : bol s.data.toList (n - 1) = st at hst hc
      have HC := Lib.hid hcd
      have HS := Lib.hid hsd
      have hcs : (str c).size ≤ 1000 := by rw [str_size]; exact hcl
      obtain ⟨fr, hfd⟩ : ∃ fr, fr = a - st := ⟨_, rfl⟩
      obtain ⟨tt, htd⟩ : ∃ tt, tt = min (str c).size (e - st) := ⟨_, rfl⟩
      have hfr : max 0 ((a : Int) - (st : Int)) = (fr : Int) := by omega
      have hto : min ((str c).size : Int) ((e : Int) - (st : Int)) = (tt : Int) := by omega
      have hfl1 : fr ≤ 1000 := by omega
      have htl1 : tt ≤ 1000 := by omega
      have HF := Lib.hid hfd
      have HT := Lib.hid htd
      clear hcd hsd hcl hfd htd
      go_wp2
      go_quiet ((go_at_call 18; exact Calls.quiet_of (hcon.out _ (HR.out.drewN _))))
      clear hk2 hk6 wk1 wk0 hc h1
      have hbr1 := below_drewN hbr nq
      have hD1 : (str (Lib.decDigits n)).size ≤ wd := by
        rw [str_size, ← HW.out]
        exact dec_length_mono n _ hn2
      go_wp2_with fail
      refine (itoa_any n _ (by omega) (hT.below hbr1)).mono ?_
      rintro r w4 ⟨rfl, hb4⟩
      have hbr2 := hbr1.trans (hb4.mono hbr1.size)
      have hown4 := ownsRow_below (ownsRow_below hown (below_drewN (Below.refl _ _) nq)) hb4
      generalize hdd : str (Lib.decDigits n) = D at hD1 ⊢
      have HD := Lib.hid hdd
      clear hdd hb4
      go_wp2_with fail
      refine (repeat_ex 32 _ _ (by omega) (by omega)).mono ?_
      rintro r w5 ⟨b1, rfl, hb1, hs1, hb5⟩
      have hbr3 := hbr2.trans (hb5.mono hbr2.size)
      have hown5 := ownsRow_below hown4 hb5
      clear hb5 hown4 hown hbr hbr1 hbr2
      go_wp2_with fail
      refine (repeat_ex 32 _ _ (by omega) (by omega)).mono ?_
      rintro r w6 ⟨b2, rfl, hb2, hs2, hb6⟩
      have hbr4 := hbr3.trans (hb6.mono hbr3.size)
      have hown6 := ownsRow_below hown5 hb6
      clear hb6 hown5 hbr3
      by_cases hft : fr < tt
      · go_wp2_with fail
        refine (repeat_ex 32 _ _ (by omega) (by omega)).mono ?_
        rintro r w7 ⟨b3, rfl, hb3, hs3, hb7⟩
        have hbr5 := hbr4.trans (hb7.mono hbr4.size)
        have hown7 := ownsRow_below hown6 hb7
        clear hb7 hown6 hbr4
        go_wp2_with fail
        refine (repeat_ex 94 _ _ (by omega) (by omega)).mono ?_
        rintro r w8 ⟨b4, rfl, hb4, hs4, hb8⟩
        have hbr6 := hbr5.trans (hb8.mono hbr5.size)
        have hown8 := ownsRow_below hown7 hb8
        clear hb8 hown7 hbr5
        go_wp2_with fail
        refine (repeat_ex 32 _ _ (by omega) (by omega)).mono ?_
        rintro r w9 ⟨b5, rfl, hb5, hs5, hb9⟩
        have hbr7 := hbr6.trans (hb9.mono hbr6.size)
        have hown9 := ownsRow_below hown8 hb9
        clear hb9 hown8 hbr6
        have hlen : (excK s.data.toList a e k).length ≤ 100000 := by rw [excK_length]; omega
        go_wp2_with (at_builtin; refine wpList_append_own _ rfl _ _ 38 rfl w.heap.size 9 i0 (.string ⟨#[]⟩) 1 16 Tryd.underlying38 hi hz0 hz1 hz2 rfl (by decide) _ _ _ rfl (hown9.alloc _) ⟨w9.heap.size, 0, none⟩ 2 2 [.string (b1 ++ D ++ ⟨#[32, 124, 32]⟩ ++ str c), .string (b5 ++ (b3 ++ b4))] rfl rfl ?c1 ?c2 ?c3 ?c4 ?c5 ?_)
        case c1 => exact cell_two_new _ _ _ _
        case c2 => intro u hu; simp at hu; rcases hu with rfl | rfl <;> rfl
        case c3 => unfold maxLen; omega
        case c4 => omega
        case c5 => have := hbr7.size; simp; omega
        intro v' w10 hown' hg _
        have hfin := exc_step HN.out (by rw [HW.out, head_eq wd n b1 D HD.out hb1.out, HC.out, str_append]) (by
          rw [HW.out, marks_hit s.data.toList a e n fr tt st c b3 b4 HC.out HS.out HF.out HT.out hft hb3.out hb4.out, hb5.out, str_append, head_size wd n b1 D HD.out hb1.out]; rfl) hown'
        have hbr8 := (hbr7.alloc hbr7.size _).grown hg (by have := hbr7.size; simp; omega) fun k' hk' => (hown9.lt k' hk').1
        clear hown' hg hown9 hbr7
        go_wp2
        go_roundw
        case rel => exact ⟨k + 1, by omega, by have hn := HN.out; rw [hn]; go_num, hfin, hbr8⟩
        case measure => simp [intOf]; omega
      · go_wp2_with fail
        refine (repeat_ex 32 _ _ (by omega) (by omega)).mono ?_
        rintro r w9 ⟨b5, rfl, hb5, hs5, hb9⟩
        have hbr7 := hbr4.trans (hb9.mono hbr4.size)
        have hown9 := ownsRow_below hown6 hb9
        clear hb9 hown6 hbr4
        have hlen : (excK s.data.toList a e k).length ≤ 100000 := by rw [excK_length]; omega
        go_wp2_with (at_builtin; refine wpList_append_own _ rfl _ _ 38 rfl w.heap.size 9 i0 (.string ⟨#[]⟩) 1 16 Tryd.underlying38 hi hz0 hz1 hz2 rfl (by decide) _ _ _ rfl (hown9.alloc _) ⟨w9.heap.size, 0, none⟩ 2 2 [.string (b1 ++ D ++ ⟨#[32, 124, 32]⟩ ++ str c), .string (b5 ++ (b2 ++ ⟨#[94]⟩))] rfl rfl ?c1 ?c2 ?c3 ?c4 ?c5 ?_)
        case c1 => exact cell_two_new _ _ _ _
        case c2 => intro u hu; simp at hu; rcases hu with rfl | rfl <;> rfl
        case c3 => unfold maxLen; omega
        case c4 => omega
        case c5 => have := hbr7.size; simp; omega
        intro v' w10 hown' hg _
        have hfin := exc_step HN.out (by rw [HW.out, head_eq wd n b1 D HD.out hb1.out, HC.out, str_append]) (by
          rw [HW.out, marks_miss s.data.toList a e n fr tt st c b2 HC.out HS.out HF.out HT.out hft hb2.out, hb5.out, str_append, head_size wd n b1 D HD.out hb1.out]; rfl) hown'
        have hbr8 := (hbr7.alloc hbr7.size _).grown hg (by have := hbr7.size; simp; omega) fun k' hk' => (hown9.lt k' hk').1
        clear hown' hg hown9 hbr7
        go_wp2
        go_roundw
        case rel => exact ⟨k + 1, by omega, by have hn := HN.out; rw [hn]; go_num, hfin, hbr8⟩
        case measure => simp [intOf]; omega
    · have hkl : k = lineN s.data.toList (lastAt a e) + 1 - lineN s.data.toList a := by omega
      have HX := Lib.hid (show excK s.data.toList a e k = excL s.data.toList a e by rw [hkl]; rfl)
      have hlast : (lineN s.data.toList (lastAt a e) : Int) < (lineN s.data.toList a : Int) + (k : Int) := by omega
      clear hkl
      go_wp2
      refine bodyPost_ret (results_tmp rfl _ _ _) rfl ?_
      rw [HX.out] at hown
      obtain ⟨A, n', cap, rfl⟩ : ∃ A n cap, u11 = .slice A n cap := by
        rcases hown.2 with ⟨h, _⟩ | ⟨g, cap, cur, h, _⟩
        · exact ⟨_, _, _, h⟩
        · exact ⟨_, _, _, h⟩
      have hn' : n' = (excL s.data.toList a e).length := by
        rcases hown.2 with ⟨h, h0⟩ | ⟨g, cap, cur, h, _⟩
        · injection h with _ h _; omega
        · injection h
      subst hn'
      exact ⟨A, cap, rfl, (StrsAt.of_own hown).2, hbr⟩

set_option maxHeartbeats 400000 in
theorem excerpt_bad (b : Nat) (s : ByteArray) (a e : Int) (w : World) (h : IsIndex w b s) (hbad : a < 0 ∨ e < a ∨ (s.size : Int) < e) :
    Calls Tryd.prog 21 #[.pointer (some ⟨b, 0, none⟩), .int .i64 a, .int .i64 e] w fun r w' => r = .returned (.slice none 0 0) ∧ w = w' := by
  obtain ⟨g, cap, h0, h1, h2⟩ := h
  clear h2
  by_cases h1 : a < 0
  · go_enter Tryd.func21, Tryd.ntmps21
    go_wp2
    go_ret
    exact ⟨rfl, rfl⟩
  · by_cases h2 : e < a
    · go_enter Tryd.func21, Tryd.ntmps21
      go_wp2
      go_ret
      exact ⟨rfl, rfl⟩
    · have h3 : (s.size : Int) < e := by omega
      go_enter Tryd.func21, Tryd.ntmps21
      go_wp2
      go_ret
      exact ⟨rfl, rfl⟩

end Go.Proofs.YtiimacmaepheeaaDoor
