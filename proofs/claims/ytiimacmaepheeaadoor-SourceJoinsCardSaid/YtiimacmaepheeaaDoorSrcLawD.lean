/-
  The walk of the law on joined contents.
-/
import Derived.Test.YtiimacmaepheeaaDoorSrcLawB
import Derived.Test.YtiimacmaepheeaaDoorSrcJoin
import Derived.Lib.IndexLaws
namespace Go.Proofs.YtiimacmaepheeaaDoor
open Go.RowKit
open Src

theorem no_byte (l : List UInt8) (c : UInt8) (h : decide (0 ≤ Lib.indexByte l c) = false) : c ∉ l := by
  intro hm
  have h1 : Lib.indexByte l c = -1 := by
    have := Lib.indexByte_ge l c
    have : ¬ (0 ≤ Lib.indexByte l c) := by simpa using h
    omega
  obtain ⟨k, hk, he⟩ := List.getElem_of_mem hm
  exact Lib.indexByte_none h1 k (by rw [List.getElem?_eq_getElem hk, he])

theorem joins_cells {w : World} {A : Option Addr} {cap n : Nat} {xs : List (List UInt8)} {base : Nat} (h : w.ownsRow base 9 1 (.slice A n cap) n (xs.map fun x => .string (str x))) (hn : 0 < n) :
    n = xs.length ∧ n ≤ cap ∧ ∃ g : Nat, A = some ⟨g, 0, none⟩ ∧ g < w.heap.size ∧ ∀ (j : Nat) x, (xs.map str)[j]? = some x → w.cell? ⟨g, 0 + j, none⟩ = some (.string x) := by
  have hs := StrsAt.of_own h
  obtain ⟨g, cap', cur, hv, hb, hw, hnc, _⟩ := ownsRow_form h hn
  simp only [Value.slice.injEq] at hv
  obtain ⟨rfl, -, rfl⟩ := hv
  refine ⟨hs.1, hnc, g, rfl, hw.lt, fun j x hx => ?_⟩
  rw [List.getElem?_map] at hx
  rcases hs.2 with hxs | ⟨g', hg', hc⟩
  · rw [hxs] at hx; simp at hx
  · simp only [Option.some.injEq, Addr.mk.injEq] at hg'
    obtain ⟨rfl, -⟩ := hg'
    cases hj : xs[j]? with
    | none => rw [hj] at hx; simp at hx
    | some y =>
      rw [hj] at hx
      simp only [Option.map_some, Option.some.injEq] at hx
      obtain ⟨hlt, he⟩ := List.getElem?_eq_some_iff.1 hj
      rw [Nat.zero_add, hc j hlt, he, hx]

set_option maxHeartbeats 1600000 in
set_option maxRecDepth 100000 in
theorem joins_walk (s : ByteArray) (line : Int) (w : World) (hT : Tab w) :
    Calls Tryd.prog 9 #[.string s, .int .i64 line] w fun e w' => e = .returned (.bool true) ∧ Below w.heap.size w w' := by
  have HA := Lib.hid (awake_any w hT)
  by_cases hs : 200 < s.size
  · go_enter Tryd.func9, Tryd.ntmps9
    go_wp2_with fail
    refine HA.out.mono ?_
    rintro r w1 ⟨rfl, hb1⟩
    go_wp2
    go_ret
    exact ⟨rfl, hb1⟩
  · have hcon := fun W => (Tryd.strings_Contains_one s 13 W).mono fun _ _ h => (⟨h.1, h.2.symm⟩ : _ ∧ W = _)
    cases hcr : decide (0 ≤ Lib.indexByte s.data.toList 13) with
    | true =>
      rw [hcr] at hcon
      have HC := Lib.hid hcon
      clear hcon hcr
      go_enter Tryd.func9, Tryd.ntmps9
      go_wp2_with fail
      refine HA.out.mono ?_
      rintro r w1 ⟨rfl, hb1⟩
      go_wp2_with fail
      refine (HC.out _).mono ?_
      rintro r w2 ⟨rfl, rfl⟩
      go_wp2
      go_ret
      exact ⟨rfl, hb1⟩
    | false =>
      have hno := no_byte _ _ hcr
      rw [hcr] at hcon
      have HC := Lib.hid hcon
      have HN := Lib.hid hno
      clear hcon hcr hno
      have hsz : s.data.toList.length = s.size := by simp
      have hmax := starts_length_le s.data.toList
      have hpos := starts_length_pos s.data.toList
      rw [hsz] at hmax
      have HZ := Lib.hid hsz
      clear hsz
      obtain ⟨i0, hi, hz0, hz1, hz2⟩ := info_parts Tryd.info_string
      go_enter Tryd.func9, Tryd.ntmps9
      go_wp2_with fail
      refine HA.out.mono ?_
      rintro r w1 ⟨rfl, hb1⟩
      go_wp2_with fail
      refine (HC.out _).mono ?_
      rintro r w2 ⟨rfl, rfl⟩
      go_wp2_with fail
      refine (new_any s _ (by omega)).mono ?_
      rintro r w2 ⟨rfl, hI2, hb2⟩
      have HI2 := Lib.hid hI2
      have hbb := hb1.trans (hb2.mono hb1.size)
      generalize hgb : w1.heap.size + 1 = b at HI2 ⊢
      clear hb1 hb2 hI2 hgb
      have HL := Lib.hid fun W hW => lines_any b s W hW (by omega)
      generalize hn : (starts s.data.toList).length = n at hmax hpos HL
      have HNN := Lib.hid hn
      clear hn
      go_wp2_with fail
      refine (HL.out _ HI2.out).mono ?_
      rintro r w3 ⟨rfl, rfl⟩
      go_wp2_with fail
      refine (HL.out _ HI2.out).mono ?_
      rintro r w3 ⟨rfl, rfl⟩
      go_wp2_with fail
      refine (HL.out _ HI2.out).mono ?_
      rintro r w3 ⟨rfl, rfl⟩
      go_wp2_with fail
      go_loopw [6, 32] (fun v i wr => ∃ k : Nat, k ≤ n ∧ i = .int .i64 k ∧ wr.ownsRow w2.heap.size 9 1 v k ((firsts s.data.toList k).map fun x => .string (str x)) ∧ Below w2.heap.size w2 wr) (fun _ i _ => n - (intOf i).toNat)
      case atStart => exact ⟨0, Nat.zero_le _, rfl, World.ownsRow_nil _ _ _ _, Below.refl _ _⟩
      case round =>
        obtain ⟨k, hk, rfl, hown, hbr⟩ := hrel
        have HI := Lib.hid (HI2.out.below hbr)
        by_cases hlt : k < n
        · have hc := content_any b s ((k : Int) + 1) wr HI.out (by omega)
          rw [show contOf s.data.toList ((k : Int) + 1) = contentL s.data.toList (k + 1) by unfold contOf; rw [HNN.out, if_neg (by omega)]; congr 1] at hc
          have HC2 := Lib.hid hc
          have HF := Lib.hid (firsts_succ s.data.toList k)
          generalize contentL s.data.toList (k + 1) = c at HC2 HF
          clear hc
          go_wp2_with fail
          refine HC2.out.mono ?_
          rintro r w3 ⟨rfl, hb3⟩
          have hbc := hbr.trans (hb3.mono hbr.size)
          have hown3 := ownsRow_below hown hb3
          clear hown hb3 hbr
          go_wp2_with (at_builtin; refine wpList_append_own _ rfl _ _ 38 rfl w2.heap.size 9 i0 (.string ⟨#[]⟩) 1 16 Tryd.underlying38 hi hz0 hz1 hz2 rfl (by decide) _ _ _ rfl (hown3.alloc _) ⟨w3.heap.size, 0, none⟩ 1 1 [.string (str c)] rfl rfl ?c1 ?c2 ?c3 ?c4 ?c5 ?_)
          case c1 => exact cell_one_new _ _ _
          case c2 => intro u hu; simp at hu; subst hu; rfl
          case c3 => unfold maxLen; omega
          case c4 => omega
          case c5 => have := hbc.size; simp; omega
          intro v' w4 hown' hg _
          have hbd := (hbc.alloc hbc.size _).grown hg (by have := hbc.size; simp; omega) fun k' hk' => (hown3.lt k' hk').1
          have hfin : w4.ownsRow w2.heap.size 9 1 v' (k + 1) ((firsts s.data.toList (k + 1)).map fun x => .string (str x)) := by
            rw [HF.out, List.map_append]; exact hown'
          clear hown' hg hown3 hbc
          go_wp2
          go_roundw
          case rel => exact ⟨k + 1, by omega, by go_num, hfin, hbd⟩
          case measure => simp [intOf]; omega
        · have hkl : k = n := by omega
          subst hkl
          obtain ⟨A, k', cap, rfl⟩ : ∃ A k' cap, u6 = .slice A k' cap := by
            rcases hown.2 with ⟨h, _⟩ | ⟨g, cap, cur, h, _⟩
            · exact ⟨_, _, _, h⟩
            · exact ⟨_, _, _, h⟩
          obtain rfl : k' = k := by
            rcases hown.2 with ⟨h, h0⟩ | ⟨g, cap, cur, h, _⟩
            · injection h with _ h _; omega
            · injection h
          obtain ⟨hk1, hk2, g, rfl, hg, hcells⟩ := joins_cells hown hpos
          have hj := Tryd.strings_Join g 0 cap ((firsts s.data.toList k').map str) ⟨#[10]⟩ wr hcells hg (by simp [firsts_length]; omega) (by simp [firsts_length]; omega)
          rw [show ((firsts s.data.toList k').map str).map (·.data.toList) = firsts s.data.toList k' by rw [List.map_map]; exact (List.map_congr_left fun x _ => str_list x).trans (List.map_id _)] at hj
          have hall : Lib.join (firsts s.data.toList k') [10] = s.data.toList := by rw [← HNN.out]; exact join_all _ HN.out
          rw [show (⟨#[10]⟩ : ByteArray).data.toList = [10] from rfl, hall] at hj
          have hj2 := hj (by rw [HZ.out]; omega)
          rw [show (⟨s.data.toList.toArray⟩ : ByteArray) = s from str_of s, show ((firsts s.data.toList k').map str).length = k' by simp [firsts_length]] at hj2
          have HJ := Lib.hid hj2
          clear hj hj2 hall hcells hown hk1 hlt
          by_cases hl1 : line < 1
          · have hl1' : ¬ 1 ≤ line := by omega
            have hc := Lib.hid fun W hW => content_any b s line W hW (by omega)
            rw [show contOf s.data.toList line = [] by unfold contOf; rw [if_pos (.inl hl1)]] at hc
            change Hid (∀ W, IsIndex W b s → Calls _ _ _ _ fun e w' => e = .returned (.string ⟨#[]⟩) ∧ _) at hc
            go_wp2_with fail
            refine HJ.out.mono ?_
            rintro r w3 ⟨rfl, hb3⟩
            have HI3 := Lib.hid (HI.out.below hb3)
            have hbd := hbr.trans (hb3.mono hbr.size)
            clear hb3 hbr
            go_wp2_with fail
            refine (hc.out _ HI3.out).mono ?_
            rintro r w4 ⟨rfl, hb4⟩
            have hbe := hbd.trans (hb4.mono hbd.size)
            clear hb4 hbd
            go_wp2
            go_ret
            exact ⟨rfl, hbb.trans (hbe.mono hbb.size)⟩
          · by_cases hl2 : (k' : Int) < line
            · have hl1' : 1 ≤ line := by omega
              have hl2' : ¬ line ≤ (k' : Int) := by omega
              have hc := Lib.hid fun W hW => content_any b s line W hW (by omega)
              rw [show contOf s.data.toList line = [] by unfold contOf; rw [HNN.out, if_pos (.inr hl2)]] at hc
              change Hid (∀ W, IsIndex W b s → Calls _ _ _ _ fun e w' => e = .returned (.string ⟨#[]⟩) ∧ _) at hc
              go_wp2_with fail
              refine HJ.out.mono ?_
              rintro r w3 ⟨rfl, hb3⟩
              have HI3 := Lib.hid (HI.out.below hb3)
              have hbd := hbr.trans (hb3.mono hbr.size)
              clear hb3 hbr
              go_wp2_with fail
              refine (HL.out _ HI3.out).mono ?_
              rintro r w4 ⟨rfl, rfl⟩
              go_wp2_with fail
              refine (hc.out _ HI3.out).mono ?_
              rintro r w4 ⟨rfl, hb4⟩
              have hbe := hbd.trans (hb4.mono hbd.size)
              clear hb4 hbd
              go_wp2
              go_ret
              exact ⟨rfl, hbb.trans (hbe.mono hbb.size)⟩
            · have hl1' : 1 ≤ line := by omega
              have hl2' : line ≤ (k' : Int) := by omega
              go_wp2_with fail
              refine HJ.out.mono ?_
              rintro r w3 ⟨rfl, hb3⟩
              have HI3 := Lib.hid (HI.out.below hb3)
              have hbd := hbr.trans (hb3.mono hbr.size)
              clear hb3 hbr
              go_wp2_with fail
              refine (HL.out _ HI3.out).mono ?_
              rintro r w4 ⟨rfl, rfl⟩
              go_wp2
              go_ret
              exact ⟨rfl, hbb.trans (hbd.mono hbb.size)⟩

end Go.Proofs.YtiimacmaepheeaaDoor
