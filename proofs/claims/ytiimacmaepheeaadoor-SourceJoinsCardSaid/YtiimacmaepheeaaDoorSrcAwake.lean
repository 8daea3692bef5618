/-
  The walk of the laws' awake.
-/
import Derived.Test.YtiimacmaepheeaaDoorSrcRefE
namespace Go.Proofs.YtiimacmaepheeaaDoor
open Go.RowKit
open Src

/-- the example's text -/
def exText : ByteArray := ⟨#[97, 98, 10, 99, 100]⟩
theorem ex_list : exText.data.toList = [97, 98, 10, 99, 100] := rfl
theorem ex_starts : (starts exText.data.toList).length = 2 := by decide
theorem ex_line : lineN exText.data.toList 4 = 2 := by decide
theorem ex_col : colN exText.data.toList 4 = 2 := by decide
theorem ex_off : offOf exText.data.toList 2 2 = (4, true) := by decide
theorem ex_content : str (contentL exText.data.toList 2) = ⟨#[99, 100]⟩ := by decide
def exLines : List (List UInt8) := [[49, 32, 124, 32, 97, 98], [32, 32, 32, 32, 32, 94], [50, 32, 124, 32, 99, 100], [32, 32, 32, 32, 94]]
theorem ex_exc : excL exText.data.toList 1 4 = exLines := by decide +kernel

theorem lit_cells (w : World) : StrsAt (w.alloc (.cells #[.string ⟨#[49, 32, 124, 32, 97, 98]⟩, .string ⟨#[32, 32, 32, 32, 32, 94]⟩, .string ⟨#[50, 32, 124, 32, 99, 100]⟩, .string ⟨#[32, 32, 32, 32, 94]⟩] 9)) (some ⟨w.heap.size, 0, none⟩) exLines := by
  refine .inr ⟨w.heap.size, rfl, fun k hk => ?_⟩
  rw [(Whole.new w 9 _).cell]
  simp only [exLines, List.length_cons, List.length_nil] at hk
  match k, hk with
  | 0, _ => rfl
  | 1, _ => rfl
  | 2, _ => rfl
  | 3, _ => rfl

set_option maxHeartbeats 1000000 in
theorem awake_any (w : World) (hT : Tab w) :
    Calls Tryd.prog 10 #[] w fun e w' => e = .returned (.bool true) ∧ Below w.heap.size w w' := by
  have hs : exText.size ≤ 1000 := by decide
  go_enter Tryd.func10, Tryd.ntmps10
  go_wp2_with fail
  refine (new_any exText w hs).mono ?_
  rintro r w1 ⟨rfl, hI1, hb1⟩
  have hl := lines_any _ exText w1 hI1 hs
  rw [ex_starts] at hl
  have HL := Lib.hid hl
  have HI1 := Lib.hid hI1
  clear hl hI1
  go_wp2_with fail
  refine HL.out.mono ?_
  rintro r w2 ⟨rfl, rfl⟩
  have hp := pos_in _ exText 4 w1 HI1.out hs (by decide)
  rw [ex_line, ex_col] at hp
  have HP := Lib.hid hp
  clear hp
  go_wp2_with fail
  refine HP.out.mono ?_
  rintro r w2 ⟨rfl, hb2⟩
  have HI2 := Lib.hid (HI1.out.below hb2)
  have ho := offset_good _ exText 2 2 w2 HI2.out hs (by decide) (by decide) (by decide) (by decide)
  rw [show ((2 : Nat) : Int) = 2 from rfl, ex_off] at ho
  have HO := Lib.hid ho
  clear ho
  go_wp2_with fail
  refine HO.out.mono ?_
  rintro r w3 ⟨rfl, hq3⟩
  have hb3 := drawn_below hq3
  have HI3 := Lib.hid (HI2.out.below hb3)
  have hc := content_good _ exText 2 _ HI3.out hs (by decide) (by decide)
  rw [ex_content] at hc
  have HC := Lib.hid hc
  clear hc
  go_wp2_with fail
  refine HC.out.mono ?_
  rintro r w4 ⟨rfl, hq4⟩
  have hb4 := drawn_below hq4
  have HI4 := Lib.hid (HI3.out.below hb4)
  have hbb := hb1.trans (hb2.mono hb1.size)
  have hbc := hbb.trans (hb3.mono hbb.size)
  have hbd := hbc.trans (hb4.mono hbc.size)
  have he := excerpt_good _ exText 1 4 _ HI4.out hs (by decide) (by decide) (hT.below hbd)
  rw [ex_exc, show ((1 : Nat) : Int) = 1 from rfl, show ((4 : Nat) : Int) = 4 from rfl] at he
  clear hq3 hq4
  have HE := Lib.hid he
  clear he
  go_wp2_with fail
  refine HE.out.mono ?_
  rintro r w5 ⟨A, cap, rfl, hA, hb5⟩
  have hb6 := hbd.trans (hb5.mono hbd.size)
  have hS := strings_same A (some ⟨w5.heap.size, 0, none⟩) cap 4 exLines _ (hA.below ((Below.refl _ _).alloc (Nat.le_refl _) _)) (lit_cells w5) (by decide)
  have HS := Lib.hid hS
  clear hS hb5 hb4 hb3 hb2 hb1 hbb hbc hbd
  go_wp2_with fail
  refine HS.out.mono ?_
  rintro r w6 ⟨rfl, q6, rfl⟩
  go_wp2
  go_ret
  exact ⟨rfl, below_drewN (hb6.alloc hb6.size _) _⟩

end Go.Proofs.YtiimacmaepheeaaDoor
