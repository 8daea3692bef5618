/-
  A part of the proof of the schedule package's laws. (PtD PsQ PsR PsY PlS PsS PsU PsV PtP PtQ PsI PsJ PsF PsFN PlWords PsK PsL PsM PsN)
-/
import Derived.Test.YteokbngllldmdaaGreatDoorR03
import Derived.Lib.ItoaLen
import Derived.Lib.Split
import Derived.Lib.SplitLaws
import Derived.Lib.FieldsP
import Derived.Lib.IndexBytes
import Derived.Lib.IndexLaws
import Derived.Lib.IndexMore
import Derived.Shelf.Strings.FuncGrows
set_option maxRecDepth 10000
set_option linter.unusedSimpArgs false
set_option linter.unusedVariables false
namespace Go.Proofs.YteokbngllldmdaaGreatDoor
namespace Pur
open Go.RowKit
attribute [local go_sem] evOps evOp evOpV evRun evK argF List.map hintAt stripped get put tmpsOf tmpOf tmpO tmpL tmpP conds ev cond_true cond_false Nat.beq Nat.ble Nat.add quiet After thenR blockR IfD List.append_eq List.nil_append List.cons_append evInt exactI_a exactI_b exactI_c exactI_d exactI_e exactI_f evBin evStr evBool evUn guardC calm quiet.isCallK evPick List.getElem?_cons_zero List.getElem?_cons_succ fromCells fromPVs cellsOf List.all oneCell List.length_cons List.length_nil mkAgg plains List.drop List.take List.getD Option.getD_some bo1 bo2 ba1 ba2 bn1 bn2 kk_i64 kk_u8 kk_i32 kk_u64 setAt List.set Nat.reduceAdd Nat.reduceMul evCall safeCall refsOf refsIn scalarA scalar scalarL thawL mapAll thawArg thawRef after freeze RetD RetE evResult evRess evRes1 thaw_pv mkTup nilOf_a nilOf_b nilOf_bb nilOf_c nilOf_d nilOf_e nilOf_f nilOf_g nilOf_h nilOf_i nilOf_j nilOf_k nilOf_l nilOf_m eqLeaf_a eqLeaf_b eqLeaf_c eqOffs evMM bytesOf evOpsF AfterF footOf footRefs notIn indepF footAt freeOk still evParts fillA zeros intOfA boundA srcOf List.isEmpty appNil_0 appNil_1 appNil_2 Int.reduceToNat Nat.mul_one Nat.reduceSub evC evOpsT evOpsTF autoH tabHint look hintD strip guarded RetPD RetRD mpLen keysOk leafKA leafK bitI nilOf_n nilOf_o Bool.or_false Bool.or_true Bool.and_true Bool.and_false Nat.blt renF renM renB renV idxOf solF solM solA solV thawRef ev1
section
open Sch
def c11 : ACode := (⟨_, by conv => (lhs; reduce; try simp only [lt1, Int.cast_ofNat_Int, Int.reduceNegSucc, UInt8.reduceOfNat])⟩ : {x // codeOf Tryz.prog 11 (fun _ => false) = some x}).1
theorem fn11 : fnOf Tryz.prog 11 (fun _ => false) = some (c11, [.t 2], 35, true) := by kernel_rfl
def schB (s : Sched) : Blk := ⟨[.pv (.int .i64 s.replicas), .pv (.int .i64 s.sessions), .pv (.int .i64 s.sectors), .pv (.int .i64 s.ticks), .pv (intsP s.state), .pv (fatesP s.fates), .pv (stepsP s.steps)], 0, 7, 27, false⟩
structure FewS (s : Sched) : Prop where
 x : ∀ x ∈ s.steps, Few x
 a : s.state.length ≤ 2000000
 f : s.fates.length ≤ 2000000
 s : s.steps.length ≤ 2000000
theorem getD_mem {α : Type} {l : List α} {k : Nat} {d : α} (h : k < l.length) : l.getD k d ∈ l := by
 rw [List.getD, List.getElem?_eq_getElem h]
 exact List.getElem_mem h
theorem FewS.at_ {s : Sched} (h : FewS s) {k : Nat} (hk : k < s.steps.length) : (numsL (s.steps.getD k zeroStep)).length ≤ 1000000000000 := by
 have := h.x _ (getD_mem (d := zeroStep) hk)
 have h1 := this.q; have h2 := this.s; have h3 := this.v
 rw [numsL_len]
 omega
set_option maxHeartbeats 4000000 in
theorem small_ok (s : Sched) (h : FewS s) : PureOK ctx 11 [schedP s] (.bool ((s.steps.all fun x => decide ((numsL x).length ≤ 60)) && decide (s.state.length ≤ 130) && decide (s.fates.length ≤ 20) && decide (s.steps.length ≤ 20))) := by
  have haf := h.f; have has := h.s; have haa := h.a
  refine pure_body' (C := ctx) (Fn.of fn11 rfl) rfl ?_
  unfold c11
  repeat' (first
    | ((with_reducible first | show VCs _ | show All _); simp [vb] <;> omega)
    | exact (rfl : some _ = _)
    | (fail_if_success refine awL ?_
       refine evA ?_
       repeat1' dsimp only [c11, schedP, go_sem]
       first
       | refine aw4 ?_ ?_ rfl ?_
       | apply aw3
       | apply aw2
       | (refine awB (fun hc => ?_) fun hc => ?_ <;> first | (cases hc; done) | (exfalso; simp at hc <;> omega) | (try simp only [bn] at hc; try contradiction))
       | skip))
  refine aw_forJ s.steps.length (fun k => (s.steps.take k).all (fun x => decide ((numsL x).length ≤ 60)) = true) (fun k => [(1, .ptr 0 0 0), (3, .pv (.int .i64 k))]) (fun _ => [schB s]) rfl (by (repeat' (first | exact trivial | refine And.intro (by first | rfl | (simp [get, Nat.beq]; done) | (simp [get, Nat.beq]; omega) | (dsimp only [get]; congr 1 <;> first | rfl | omega | (simp; done) | (simp; omega))) ?_))) ⟨[], rfl⟩ (fun k => ⟨Nat.zero_le _, rfl, rfl⟩) fun k hk hP => ?_
  by_cases hlt : k < s.steps.length
  · have e := fm_take stepC_len s.steps k zeroStep hlt
    have hs := all_step (fun x => decide ((numsL x).length ≤ 60)) s.steps k zeroStep hlt
    have hno := all_no (p := fun x => decide ((numsL x).length ≤ 60)) (l := s.steps) (k := k) (d := zeroStep) hlt
    have hfl := flatMap_length stepC_len s.steps
    have hv := have h := h.x _ (getD_mem (d := zeroStep) hlt); refNumbers_step_ok (s.steps.getD k zeroStep) h.q h.s h.v
    generalize s.steps.getD k zeroStep = x at *
    repeat' (first
      | ((with_reducible first | show VCs _ | show All _); (try dsimp only [go_sem]); first | (simp [vb, e, hlt, hfl, hv] <;> omega) | (simp only [vb, and_true, true_implies]; (repeat' (first | (with_reducible assumption) | (with_reducible apply And.intro) | intro _ | ((fail_if_success (with_reducible show (_ : Int) ≤ _)); assumption))) <;> first | omega | (simp only [ab, e, hlt, hfl, hv]; done) | (simp [e, hlt, hfl, hv] <;> omega)))
      | exact (rfl : some _ = _)
      | (fail_if_success refine awL ?_
         refine evH [(15, { val := some (.pv (stepP x)) }), (16, { val := some (.pv (intsP (numsL x))) })] ?_
         repeat1' dsimp only [c11, schB, stepsP, fatesP, stepP, intsP, go_sem]
         first
         | refine aw4 ?_ ?_ rfl ?_
         | apply aw3
         | apply aw2
         | (refine awB (fun hc => ?_) fun hc => ?_ <;> first | (cases hc; done) | (exfalso; simp [e, hlt, hfl, hv] at hc <;> omega) | (try simp only [bn] at hc; try contradiction))
         | skip))
    · rw [hno (by simp; omega)]
      simp
    · refine ⟨hlt, ?_, by (repeat' (first | exact trivial | refine And.intro (by first | rfl | (simp [get, Nat.beq]; done) | (simp [get, Nat.beq]; omega) | (dsimp only [get]; congr 1 <;> first | rfl | omega | (simp; done) | (simp; omega))) ?_)), _, rfl⟩
      rw [hs, hP]
      simp
      omega
  · have hkl : k = s.steps.length := by omega
    subst hkl
    rw [List.take_length] at hP
    repeat' (first
      | ((with_reducible first | show VCs _ | show All _); simp [vb] <;> omega)
      | exact (rfl : some _ = _)
      | (fail_if_success refine awL ?_
         refine evA ?_
         repeat1' dsimp only [c11, schB, stepsP, fatesP, intsP, go_sem]
         first
         | refine aw4 ?_ ?_ rfl ?_
         | apply aw3
         | apply aw2
         | (refine awB (fun hc => ?_) fun hc => ?_ <;> first | (cases hc; done) | (exfalso; simp at hc <;> omega) | (try simp only [bn] at hc; try contradiction))
         | skip))
    rw [hP]
    refine congrArg some (congrArg PV.bool ?_)
    rw [Bool.eq_iff_iff]
    simp [cond_and]
    omega
end
section
open Sch
def pick (acc : Nat → Step → Bool) : Nat → List Step → List Step
 | _, [] => []
 | i, x :: r => if acc i x then x :: pick acc (i + 1) r else pick acc (i + 1) r
theorem pick_append (acc : Nat → Step → Bool) : ∀ (a b : List Step) (i : Nat), pick acc i (a ++ b) = pick acc i a ++ pick acc (i + a.length) b
 | [], _, _ => by simp [pick]
 | x :: r, b, i => by
  simp only [List.cons_append, pick, pick_append acc r b (i + 1), List.length_cons, show i + 1 + r.length = i + (r.length + 1) by omega]
  split <;> rfl
theorem pick_len (acc : Nat → Step → Bool) : ∀ (a : List Step) (i : Nat), (pick acc i a).length ≤ a.length
 | [], _ => Nat.le_refl _
 | x :: r, i => by
  have := pick_len acc r (i + 1)
  simp only [pick]
  split <;> simp only [List.length_cons] <;> omega
theorem pick_take (acc : Nat → Step → Bool) (l : List Step) (k : Nat) (hk : k < l.length) (d : Step) : pick acc 0 (l.take (k + 1)) = pick acc 0 (l.take k) ++ (if acc k (l.getD k d) then [l.getD k d] else []) := by
 rw [List.take_add_one, pick_append]
 have : (l.take k).length = k := by simp; omega
 rw [this, List.getElem?_eq_getElem hk]
 simp [pick, List.getD, List.getElem?_eq_getElem hk]
theorem steps_at (l : List Step) (k : Nat) (hk : k < l.length) (d : Step) : ((l.flatMap stepC).drop (k * 10)).take 10 = stepC (l.getD k d) := by
 have hL := flatMap_length (g := stepC) (m := 10) (fun _ => rfl) l
 refine List.ext_getElem? fun j => ?_
 by_cases hj : j < 10
 ·rw [List.getElem?_take, if_pos hj, List.getElem?_drop, flatMap_get (m := 10) (fun _ => rfl) l k d j hk hj]
 ·rw [List.getElem?_take, if_neg hj, List.getElem?_eq_none (by simp [stepC]; omega)]
def withS (acc : Nat → Step → Bool) (s : Sched) : Sched := { s with steps := pick acc 0 s.steps }
theorem renV_pv1 (keep : List Nat) (p : PV) : renV keep 3 (AV.pv p) = AV.pv p := rfl
def stepBlk0 (x : Step) : Blk := ⟨(stepC x).map .pv, 0, 10, 41, false⟩
def boxB (s : Sched) : Blk := ⟨[.pv (.int .i64 s.replicas), .pv (.int .i64 s.sessions), .pv (.int .i64 s.sectors), .pv (.int .i64 s.ticks), .pv (intsP s.state), .pv (fatesP s.fates), .pv (stepsP s.steps)], 0, 7, 27, false⟩
def outB (s : Sched) (st : AV) : Blk := ⟨[.pv (.int .i64 s.replicas), .pv (.int .i64 s.sessions), .pv (.int .i64 s.sectors), .pv (.int .i64 s.ticks), .pv (intsP s.state), .pv (fatesP s.fates), st], 0, 7, 27, false⟩
def c51 : ACode := (⟨_, by conv => (lhs; reduce; try simp only [lt1, Int.cast_ofNat_Int, Int.reduceNegSucc, UInt8.reduceOfNat])⟩ : {x // codeOf Tryz.prog 51 (fun _ => false) = some x}).1
theorem fn51 : fnOf Tryz.prog 51 (fun _ => false) = some (c51, [.cell 4 7 true], 39, true) := by kernel_rfl
section
variable (g : FuncId) (caps : List AV) (acc : Nat → Step → Bool) (s : Sched) (p0 p1 : List PV) (z0 z1 : Nat) (e0 e1 : TypeId)
def w20 : AM := [⟨p0.map .pv, 0, z0, e0, false⟩, ⟨p1.map .pv, 0, z1, e1, false⟩]
def w2M (l : List Step) : AM := w20 p0 p1 z0 z1 e0 e1 ++ [boxB s, resB, outB s (stepsA 5 l)] ++ stepsB l
def w2F (k : Nat) : AF := [(1, .fn g caps), (2, .ptr 2 0 0), (4, .ptr 3 0 0), (5, .ptr 4 0 0), (19, .pv (stepsP s.steps)), (20, .pv (.int .i64 s.steps.length)), (21, .pv (.int .i64 k))]
set_option maxHeartbeats 4000000 in
theorem with2_ok (hs : s.steps.length ≤ 1000000) (h1 : s.state.length ≤ 1000000000000) (h2 : s.fates.length ≤ 1000000000000) (hz : ∀ x ∈ s.steps, Short x)
  (hr1 : caps.map (renV [0, 1, 2, 3, 4] 2) = caps) (hr2 : caps.map (renV [0, 1, 2, 3, 4, 6] 2) = caps) (hr3 : caps.map (renV [0, 1, 2, 3, 4, 5] 2) = caps)
  (hcb : ∀ (k : Nat) ν, k < s.steps.length → okMem (w20 p0 p1 z0 z1 e0 e1 ++ ν) (w20 p0 p1 z0 z1 e0 e1 ++ ν).length = true → RefOK ctx g ([.pv (.int .i64 k), .pv (stepP (s.steps.getD k zeroStep))] ++ caps) (w20 p0 p1 z0 z1 e0 e1 ++ ν) (.pv (.bool (acc k (s.steps.getD k zeroStep)))) (w20 p0 p1 z0 z1 e0 e1 ++ ν)) :
  RefOK ctx 51 [.pv (schedP s), .fn g caps] (w20 p0 p1 z0 z1 e0 e1) (.pv (schedP (withS acc s))) (w20 p0 p1 z0 z1 e0 e1) := by
 have c1 := cloneI_ok s.state h1
 have c2 := cloneF_ok s.fates h2
 have hok : okMem (w20 p0 p1 z0 z1 e0 e1) (w20 p0 p1 z0 z1 e0 e1).length = true := by simp [okMem, w20, bnd]
 generalize hres : schedP (withS acc s) = res
 refine ref_body' (C := ctx) (Fn.of fn51 rfl) rfl (by simp) rfl hok ?_
 unfold c51
 refine evT [(86, fun _ => some (intsP s.state)), (87, fun _ => some (fatesP s.fates))] ?_
 dsimp only [w20, schedP, intsP, fatesP, stepsP, go_sem]
 try dsimp only [w20, schedP, intsP, fatesP, stepsP, go_sem]
 refine ⟨(by simp [vb, c1, c2] <;> omega), (by simp [vb, c1, c2] <;> omega), ?_⟩
 refine evT [(86, fun _ => some (intsP s.state)), (87, fun _ => some (fatesP s.fates))] ?_
 dsimp only [w20, schedP, intsP, fatesP, stepsP, go_sem]
 try dsimp only [w20, schedP, intsP, fatesP, stepsP, go_sem]
 refine ⟨(by simp [vb, c1, c2] <;> omega), (by simp [vb, c1, c2] <;> omega), ?_⟩
 refine evT [(86, fun _ => some (intsP s.state)), (87, fun _ => some (fatesP s.fates))] ?_
 dsimp only [w20, schedP, intsP, fatesP, stepsP, go_sem]
 try dsimp only [w20, schedP, intsP, fatesP, stepsP, go_sem]
 refine ⟨(by first | exact True.intro | (simp only [vb, lb]; omega) | (simp only [vb, lb, c1, c2]; and_intros <;> first | omega | (simp <;> omega)) | (simp [vb, c1, c2] <;> omega)), (by first | exact True.intro | ((try dsimp only [go_sem]); first | (simp [vb, c1, c2] <;> omega) | (simp only [vb, and_true, true_implies]; (repeat' (first | (with_reducible assumption) | (with_reducible apply And.intro) | intro _ | ((fail_if_success (with_reducible show (_ : Int) ≤ _)); assumption))) <;> first | omega | rfl | (simp only [ab, c1, c2]; done) | (simp [Nat.mul_one, c1, c2] <;> omega) | (simp_all; done)))), ?_⟩
 refine aw_seq ?_
 refine evA ?_
 dsimp only [stepsP, go_sem]
 try dsimp only [stepsP, go_sem]
 refine ⟨(by simp [vb] <;> omega), (by simp [vb] <;> omega), ?_⟩
 refine aw_block ?_
 refine aw_forP s.steps.length (fun _ => True) (w2F g caps s) (fun k => w2M s p0 p1 z0 z1 e0 e1 (pick acc 0 (s.steps.take k))) trivial ⟨rfl, rfl, rfl, rfl, rfl, rfl, rfl, trivial⟩ rfl fun k hk _ => ?_
 by_cases hlt : k < s.steps.length
 ·have hd : decide ((k : Int) < s.steps.length) = true := by simp; omega
  have hT := pick_take acc s.steps k hlt zeroStep
  have hC := fun ν => hcb k ν hlt
  have hat := steps_at s.steps k hlt zeroStep
  have hcp := copied_ok (s.steps.getD k zeroStep) (hz _ (by rw [List.getD, List.getElem?_eq_getElem hlt]; exact List.getElem_mem hlt))
  have hL := flatMap_length (g := stepC) (m := 10) (fun _ => rfl) s.steps
  generalize s.steps.getD k zeroStep = x at *
  generalize hpk : pick acc 0 (s.steps.take k) = pk at *
  have hlen : pk.length ≤ 1000000 := by have := pick_len acc (s.steps.take k) 0; rw [hpk] at this; simp at this; omega
  generalize hI : (fun (f' : AF) (μ' : AM) => k < s.steps.length ∧ True ∧ Sub (w2F g caps s (k + 1)) f' ∧ μ' = w2M s p0 p1 z0 z1 e0 e1 (pick acc 0 (s.steps.take (k + 1)))) = I
  unfold w2F w2M
  cases pk with
  | nil =>
   refine evA ?_
   dsimp only [w20, boxB, resB, outB, stepsA_nil, stepsB_nil, go_sem]
   try dsimp only [w20, boxB, resB, outB, stepsA_nil, stepsB_nil, go_sem]
   refine ⟨(by simp [vb] <;> omega), (by simp [vb] <;> omega), ?_⟩
   rw [hd]
   refine evA ?_
   dsimp only [go_sem]
   refine ⟨fun _ => ?_, fun h => by simp at h <;> omega⟩
   refine evA ?_
   dsimp only [go_sem]
   refine aw_seq ?_
   refine aw_block ?_
   refine evH [(25, { val := some (.pv (stepP x)) })] ?_
   dsimp only [stepsP, stepP, stepC, queriesP, intsP, go_sem]
   try dsimp only [stepsP, stepP, stepC, queriesP, intsP, go_sem]
   refine ⟨(by simp [vb, hlt, hL] <;> omega), ?_, ?_⟩
   ·refine ⟨?_, trivial⟩
    rw [Int.toNat_natCast, hat]
    rfl
   have hC' := hC [boxB s, resB, outB s (stepsA 5 []), stepBlk0 x] (by simp [okMem, w20, boxB, resB, outB, stepBlk0, stepC, bnd, stepsA])
   unfold w20 boxB resB outB stepBlk0 stepP stepC at hC'
   cases ha : acc k x with
   | false =>
    rw [ha] at hC'
    refine evH [(29, { val := some (.pv (.bool false)), ro := true })] ?_
    dsimp only [go_sem]
    try dsimp only [go_sem]
    refine ⟨(by simp [vb] <;> omega), ?_, ?_⟩
    ·exact ⟨hC', trivial⟩
    refine evA ?_
    dsimp only [go_sem]
    refine ⟨fun h => by simp at h <;> omega, fun _ => ?_⟩
    refine evA ?_
    dsimp only [go_sem]
    refine aw_keep [0, 1, 2, 3, 4] rfl ?_
    refine evA ?_
    dsimp only [go_sem]
    try dsimp only [go_sem]
    refine ⟨(by simp [vb] <;> omega), (by simp [vb] <;> omega), ?_⟩
    subst hI
    refine ⟨hlt, trivial, ⟨congrArg (AV.fn g) hr1, rfl, rfl, rfl, rfl, rfl, rfl, trivial⟩, ?_⟩
    rw [hT, ha]
    simp [w2M, w20, boxB, resB, outB, stepsA_nil, stepsB_nil, renV_pv1, intsP, fatesP, stepsP]
   | true =>
    rw [ha] at hC'
    refine evH [(29, { val := some (.pv (.bool true)), ro := true })] ?_
    dsimp only [go_sem]
    try dsimp only [go_sem]
    refine ⟨(by simp [vb] <;> omega), ?_, ?_⟩
    ·exact ⟨hC', trivial⟩
    refine evTH [(88, fun _ => some (stepP x))] [(35, { mode := 1 })] ?_
    dsimp only [go_sem]
    refine ⟨fun _ => ?_, fun h => by simp at h <;> omega⟩
    refine evTH [(88, fun _ => some (stepP x))] [(35, { mode := 1 })] ?_
    dsimp only [go_sem]
    try dsimp only [go_sem]
    refine ⟨(by first | exact True.intro | (simp only [vb, lb]; omega) | (simp only [vb, lb, hcp]; and_intros <;> first | omega | (simp <;> omega)) | (simp [vb, hcp] <;> omega)), (by first | exact True.intro | ((try dsimp only [go_sem]); first | (simp [vb, hcp] <;> omega) | (simp only [vb, and_true, true_implies]; (repeat' (first | (with_reducible assumption) | (with_reducible apply And.intro) | intro _ | ((fail_if_success (with_reducible show (_ : Int) ≤ _)); assumption))) <;> first | omega | rfl | (simp only [ab, hcp]; done) | (simp [Nat.mul_one, hcp] <;> omega) | (simp_all; done)))), ?_⟩
    refine aw_keep [0, 1, 2, 3, 4, 6] rfl ?_
    refine evA ?_
    dsimp only [go_sem]
    try dsimp only [go_sem]
    refine ⟨(by simp [vb] <;> omega), (by simp [vb] <;> omega), ?_⟩
    subst hI
    refine ⟨hlt, trivial, ⟨congrArg (AV.fn g) hr2, rfl, rfl, rfl, rfl, rfl, rfl, trivial⟩, ?_⟩
    rw [hT, ha]
    simp [w2M, w20, boxB, resB, outB, stepsA_cons, stepsB_cons, renV_pv1, intsP, fatesP, stepsP, stepC, queriesP]
  | cons y yr =>
   simp only [List.length_cons] at hlen
   refine evA ?_
   dsimp only [w20, boxB, resB, outB, stepsA_cons, stepsB_cons, go_sem]
   try dsimp only [w20, boxB, resB, outB, stepsA_cons, stepsB_cons, go_sem]
   refine ⟨(by simp [vb] <;> omega), (by simp [vb] <;> omega), ?_⟩
   rw [hd]
   refine evA ?_
   dsimp only [go_sem]
   refine ⟨fun _ => ?_, fun h => by simp at h <;> omega⟩
   refine evA ?_
   dsimp only [go_sem]
   refine aw_seq ?_
   refine aw_block ?_
   refine evH [(25, { val := some (.pv (stepP x)) })] ?_
   dsimp only [stepsP, stepP, stepC, queriesP, intsP, go_sem]
   try dsimp only [stepsP, stepP, stepC, queriesP, intsP, go_sem]
   refine ⟨(by simp [vb, hlt, hL] <;> omega), ?_, ?_⟩
   ·refine ⟨?_, trivial⟩
    rw [Int.toNat_natCast, hat]
    rfl
   have hC' := hC ([boxB s, resB, outB s (stepsA 5 (y :: yr))] ++ stepsB (y :: yr) ++ [stepBlk0 x]) (by simp [okMem, w20, boxB, resB, outB, stepBlk0, stepC, bnd, stepsA, stepsB, Nat.blt])
   unfold w20 boxB resB outB stepBlk0 stepP stepC at hC'
   cases ha : acc k x with
   | false =>
    rw [ha] at hC'
    refine evH [(29, { val := some (.pv (.bool false)), ro := true })] ?_
    dsimp only [go_sem]
    try dsimp only [go_sem]
    refine ⟨(by simp [vb] <;> omega), ?_, ?_⟩
    ·exact ⟨hC', trivial⟩
    refine evA ?_
    dsimp only [go_sem]
    refine ⟨fun h => by simp at h <;> omega, fun _ => ?_⟩
    refine evA ?_
    dsimp only [go_sem]
    refine aw_keep [0, 1, 2, 3, 4, 5] rfl ?_
    refine evA ?_
    dsimp only [go_sem]
    try dsimp only [go_sem]
    refine ⟨(by simp [vb] <;> omega), (by simp [vb] <;> omega), ?_⟩
    subst hI
    refine ⟨hlt, trivial, ⟨congrArg (AV.fn g) hr3, rfl, rfl, rfl, rfl, rfl, rfl, trivial⟩, ?_⟩
    rw [hT, ha]
    simp [w2M, w20, boxB, resB, outB, stepsA_cons, stepsB_cons, renV_pv1, intsP, fatesP, stepsP, stepC, queriesP]
   | true =>
    rw [ha] at hC'
    refine evH [(29, { val := some (.pv (.bool true)), ro := true })] ?_
    dsimp only [go_sem]
    try dsimp only [go_sem]
    refine ⟨(by simp [vb] <;> omega), ?_, ?_⟩
    ·exact ⟨hC', trivial⟩
    refine evTH [(88, fun _ => some (stepP x))] [(35, { mode := 1 })] ?_
    dsimp only [go_sem]
    refine ⟨fun _ => ?_, fun h => by simp at h <;> omega⟩
    refine evTH [(88, fun _ => some (stepP x))] [(35, { mode := 1 })] ?_
    dsimp only [go_sem]
    try dsimp only [go_sem]
    refine ⟨(by first | exact True.intro | (simp only [vb, lb]; omega) | (simp only [vb, lb, hcp, flatMap_length stepC_len, stepC_len]; and_intros <;> first | omega | (simp <;> omega)) | (simp [vb, hcp, flatMap_length stepC_len, stepC_len] <;> omega)), (by first | exact True.intro | ((try dsimp only [go_sem]); first | (simp [vb, hcp, flatMap_length stepC_len, stepC_len] <;> omega) | (simp only [vb, and_true, true_implies]; (repeat' (first | (with_reducible assumption) | (with_reducible apply And.intro) | intro _ | ((fail_if_success (with_reducible show (_ : Int) ≤ _)); assumption))) <;> first | omega | rfl | (simp only [ab, hcp, flatMap_length stepC_len, stepC_len]; done) | (simp [Nat.mul_one, hcp, flatMap_length stepC_len, stepC_len] <;> omega) | (simp_all; done)))), ?_⟩
    refine aw_keep [0, 1, 2, 3, 4, 5] rfl ?_
    refine evA ?_
    dsimp only [go_sem]
    try dsimp only [go_sem]
    refine ⟨(by simp [vb] <;> omega), (by simp [vb] <;> omega), ?_⟩
    subst hI
    refine ⟨hlt, trivial, ⟨congrArg (AV.fn g) hr3, rfl, rfl, rfl, rfl, rfl, rfl, trivial⟩, ?_⟩
    rw [hT, ha]
    simp [w2M, w20, boxB, resB, outB, stepsA_cons, stepsB_cons, renV_pv1, intsP, fatesP, stepsP, stepC, queriesP]
 ·have hd : decide ((k : Int) < s.steps.length) = false := by simp; omega
  have : k = s.steps.length := by omega
  subst this
  rw [List.take_length]
  have hlen := pick_len acc s.steps 0
  have hL := flatMap_length (g := stepC) (m := 10) (fun _ => rfl) (pick acc 0 s.steps)
  unfold w2F w2M
  have hres' : schedP { s with steps := pick acc 0 s.steps } = res := hres
  generalize hpk : pick acc 0 s.steps = pk at *
  subst hres'
  cases pk with
  | nil =>
   refine evA ?_
   dsimp only [w20, boxB, resB, outB, stepsA_nil, stepsB_nil, go_sem]
   try dsimp only [w20, boxB, resB, outB, stepsA_nil, stepsB_nil, go_sem]
   refine ⟨(by simp [vb] <;> omega), (by simp [vb] <;> omega), ?_⟩
   rw [hd]
   refine evA ?_
   dsimp only [go_sem]
   refine ⟨fun h => by simp at h <;> omega, fun _ => ?_⟩
   refine evA ?_
   dsimp only [go_sem]
   refine aw_frame [(4, .ptr 3 0 0), (5, .ptr 4 0 0)] ⟨rfl, rfl, trivial⟩ ?_
   refine aw_weak (μ' := w20 p0 p1 z0 z1 e0 e1 ++ [boxB s, resB] ++ [outB s (.pv (.sl 0 []))]) (MW.last (μ := w20 p0 p1 z0 z1 e0 e1 ++ [boxB s, resB]) (x := outB s (.pv .nilsl)) ⟨PW.cons (CW.refl _) (PW.cons (CW.refl _) (PW.cons (CW.refl _) (PW.cons (CW.refl _) (PW.cons (CW.refl _) (PW.cons (CW.refl _) (PW.cons CW.nil PW.nil)))))), rfl, rfl, rfl, rfl⟩) ?_
   refine evA ?_
   dsimp only [w20, boxB, resB, outB, go_sem]
   try dsimp only [w20, boxB, resB, outB, go_sem]
   refine ⟨(by simp [vb] <;> omega), (by simp [vb] <;> omega), ?_⟩
   refine evA ?_
   dsimp only [w20, boxB, resB, outB, go_sem]
   exact ⟨⟨(by first | exact True.intro | (simp only [vb, lb]; omega) | (simp [vb] <;> omega)), rfl⟩, _, rfl⟩
  | cons y yr =>
   refine evA ?_
   dsimp only [w20, boxB, resB, outB, stepsA_cons, stepsB_cons, go_sem]
   try dsimp only [w20, boxB, resB, outB, stepsA_cons, stepsB_cons, go_sem]
   refine ⟨(by simp [vb] <;> omega), (by simp [vb] <;> omega), ?_⟩
   rw [hd]
   refine evA ?_
   dsimp only [go_sem]
   refine ⟨fun h => by simp at h <;> omega, fun _ => ?_⟩
   refine evA ?_
   dsimp only [go_sem]
   refine aw_frame [(4, .ptr 3 0 0), (5, .ptr 4 0 0)] ⟨rfl, rfl, trivial⟩ ?_
   refine aw_rowDone (μ := w20 p0 p1 z0 z1 e0 e1 ++ [boxB s, resB]) (c1 := [.int .i64 s.replicas, .int .i64 s.sessions, .int .i64 s.sectors, .int .i64 s.ticks, intsP s.state, fatesP s.fates]) (c2 := []) (ps := (y :: yr).flatMap stepC) (n := yr.length + 1) (sz := 10) ?_ (by simp [w20]) (by decide) (by simpa using hL) (fun M => rfl) rfl ?_
   ·simp [okMem, w20, boxB, resB, bnd]
   refine evA ?_
   dsimp only [w20, boxB, resB, go_sem]
   try dsimp only [w20, boxB, resB, go_sem]
   refine ⟨(by simp [vb] <;> omega), (by simp [vb] <;> omega), ?_⟩
   refine evA ?_
   dsimp only [w20, boxB, resB, go_sem]
   exact ⟨⟨(by first | exact True.intro | (simp only [vb, lb]; omega) | (simp [vb] <;> omega)), rfl⟩, _, rfl⟩
end
section
variable (g : FuncId) (caps : List AV) (acc : Nat → Step → Bool) (s : Sched) (p0 p1 p2 : List PV) (z0 z1 z2 : Nat) (e0 e1 e2 : TypeId)
def w30 : AM := [⟨p0.map .pv, 0, z0, e0, false⟩, ⟨p1.map .pv, 0, z1, e1, false⟩, ⟨p2.map .pv, 0, z2, e2, false⟩]
def w3M (l : List Step) : AM := w30 p0 p1 p2 z0 z1 z2 e0 e1 e2 ++ [boxB s, resB, outB s (stepsA 6 l)] ++ stepsB l
def w3F (k : Nat) : AF := [(1, .fn g caps), (2, .ptr 3 0 0), (4, .ptr 4 0 0), (5, .ptr 5 0 0), (19, .pv (stepsP s.steps)), (20, .pv (.int .i64 s.steps.length)), (21, .pv (.int .i64 k))]
set_option maxHeartbeats 4000000 in
theorem with3_ok (hs : s.steps.length ≤ 1000000) (h1 : s.state.length ≤ 1000000000000) (h2 : s.fates.length ≤ 1000000000000) (hz : ∀ x ∈ s.steps, Short x)
  (hr1 : caps.map (renV [0, 1, 2, 3, 4, 5] 2) = caps) (hr2 : caps.map (renV [0, 1, 2, 3, 4, 5, 7] 2) = caps) (hr3 : caps.map (renV [0, 1, 2, 3, 4, 5, 6] 2) = caps)
  (hcb : ∀ (k : Nat) ν, k < s.steps.length → okMem (w30 p0 p1 p2 z0 z1 z2 e0 e1 e2 ++ ν) (w30 p0 p1 p2 z0 z1 z2 e0 e1 e2 ++ ν).length = true → RefOK ctx g ([.pv (.int .i64 k), .pv (stepP (s.steps.getD k zeroStep))] ++ caps) (w30 p0 p1 p2 z0 z1 z2 e0 e1 e2 ++ ν) (.pv (.bool (acc k (s.steps.getD k zeroStep)))) (w30 p0 p1 p2 z0 z1 z2 e0 e1 e2 ++ ν)) :
  RefOK ctx 51 [.pv (schedP s), .fn g caps] (w30 p0 p1 p2 z0 z1 z2 e0 e1 e2) (.pv (schedP (withS acc s))) (w30 p0 p1 p2 z0 z1 z2 e0 e1 e2) := by
 have c1 := cloneI_ok s.state h1
 have c2 := cloneF_ok s.fates h2
 have hok : okMem (w30 p0 p1 p2 z0 z1 z2 e0 e1 e2) (w30 p0 p1 p2 z0 z1 z2 e0 e1 e2).length = true := by simp [okMem, w30, bnd]
 generalize hres : schedP (withS acc s) = res
 refine ref_body' (C := ctx) (Fn.of fn51 rfl) rfl (by simp) rfl hok ?_
 unfold c51
 refine evT [(86, fun _ => some (intsP s.state)), (87, fun _ => some (fatesP s.fates))] ?_
 dsimp only [w30, schedP, intsP, fatesP, stepsP, go_sem]
 try dsimp only [w30, schedP, intsP, fatesP, stepsP, go_sem]
 refine ⟨(by simp [vb, c1, c2] <;> omega), (by simp [vb, c1, c2] <;> omega), ?_⟩
 refine evT [(86, fun _ => some (intsP s.state)), (87, fun _ => some (fatesP s.fates))] ?_
 dsimp only [w30, schedP, intsP, fatesP, stepsP, go_sem]
 try dsimp only [w30, schedP, intsP, fatesP, stepsP, go_sem]
 refine ⟨(by simp [vb, c1, c2] <;> omega), (by simp [vb, c1, c2] <;> omega), ?_⟩
 refine evT [(86, fun _ => some (intsP s.state)), (87, fun _ => some (fatesP s.fates))] ?_
 dsimp only [w30, schedP, intsP, fatesP, stepsP, go_sem]
 try dsimp only [w30, schedP, intsP, fatesP, stepsP, go_sem]
 refine ⟨(by first | exact True.intro | (simp only [vb, lb]; omega) | (simp only [vb, lb, c1, c2]; and_intros <;> first | omega | (simp <;> omega)) | (simp [vb, c1, c2] <;> omega)), (by first | exact True.intro | ((try dsimp only [go_sem]); first | (simp [vb, c1, c2] <;> omega) | (simp only [vb, and_true, true_implies]; (repeat' (first | (with_reducible assumption) | (with_reducible apply And.intro) | intro _ | ((fail_if_success (with_reducible show (_ : Int) ≤ _)); assumption))) <;> first | omega | rfl | (simp only [ab, c1, c2]; done) | (simp [Nat.mul_one, c1, c2] <;> omega) | (simp_all; done)))), ?_⟩
 refine aw_seq ?_
 refine evA ?_
 dsimp only [stepsP, go_sem]
 try dsimp only [stepsP, go_sem]
 refine ⟨(by simp [vb] <;> omega), (by simp [vb] <;> omega), ?_⟩
 refine aw_block ?_
 refine aw_forP s.steps.length (fun _ => True) (w3F g caps s) (fun k => w3M s p0 p1 p2 z0 z1 z2 e0 e1 e2 (pick acc 0 (s.steps.take k))) trivial ⟨rfl, rfl, rfl, rfl, rfl, rfl, rfl, trivial⟩ rfl fun k hk _ => ?_
 by_cases hlt : k < s.steps.length
 ·have hd : decide ((k : Int) < s.steps.length) = true := by simp; omega
  have hT := pick_take acc s.steps k hlt zeroStep
  have hC := fun ν => hcb k ν hlt
  have hat := steps_at s.steps k hlt zeroStep
  have hcp := copied_ok (s.steps.getD k zeroStep) (hz _ (by rw [List.getD, List.getElem?_eq_getElem hlt]; exact List.getElem_mem hlt))
  have hL := flatMap_length (g := stepC) (m := 10) (fun _ => rfl) s.steps
  generalize s.steps.getD k zeroStep = x at *
  generalize hpk : pick acc 0 (s.steps.take k) = pk at *
  have hlen : pk.length ≤ 1000000 := by have := pick_len acc (s.steps.take k) 0; rw [hpk] at this; simp at this; omega
  generalize hI : (fun (f' : AF) (μ' : AM) => k < s.steps.length ∧ True ∧ Sub (w3F g caps s (k + 1)) f' ∧ μ' = w3M s p0 p1 p2 z0 z1 z2 e0 e1 e2 (pick acc 0 (s.steps.take (k + 1)))) = I
  unfold w3F w3M
  cases pk with
  | nil =>
   refine evA ?_
   dsimp only [w30, boxB, resB, outB, stepsA_nil, stepsB_nil, go_sem]
   try dsimp only [w30, boxB, resB, outB, stepsA_nil, stepsB_nil, go_sem]
   refine ⟨(by simp [vb] <;> omega), (by simp [vb] <;> omega), ?_⟩
   rw [hd]
   refine evA ?_
   dsimp only [go_sem]
   refine ⟨fun _ => ?_, fun h => by simp at h <;> omega⟩
   refine evA ?_
   dsimp only [go_sem]
   refine aw_seq ?_
   refine aw_block ?_
   refine evH [(25, { val := some (.pv (stepP x)) })] ?_
   dsimp only [stepsP, stepP, stepC, queriesP, intsP, go_sem]
   try dsimp only [stepsP, stepP, stepC, queriesP, intsP, go_sem]
   refine ⟨(by simp [vb, hlt, hL] <;> omega), ?_, ?_⟩
   ·refine ⟨?_, trivial⟩
    rw [Int.toNat_natCast, hat]
    rfl
   have hC' := hC [boxB s, resB, outB s (stepsA 6 []), stepBlk0 x] (by simp [okMem, w30, boxB, resB, outB, stepBlk0, stepC, bnd, stepsA])
   unfold w30 boxB resB outB stepBlk0 stepP stepC at hC'
   cases ha : acc k x with
   | false =>
    rw [ha] at hC'
    refine evH [(29, { val := some (.pv (.bool false)), ro := true })] ?_
    dsimp only [go_sem]
    try dsimp only [go_sem]
    refine ⟨(by simp [vb] <;> omega), ?_, ?_⟩
    ·exact ⟨hC', trivial⟩
    refine evA ?_
    dsimp only [go_sem]
    refine ⟨fun h => by simp at h <;> omega, fun _ => ?_⟩
    refine evA ?_
    dsimp only [go_sem]
    refine aw_keep [0, 1, 2, 3, 4, 5] rfl ?_
    refine evA ?_
    dsimp only [go_sem]
    try dsimp only [go_sem]
    refine ⟨(by simp [vb] <;> omega), (by simp [vb] <;> omega), ?_⟩
    subst hI
    refine ⟨hlt, trivial, ⟨congrArg (AV.fn g) hr1, rfl, rfl, rfl, rfl, rfl, rfl, trivial⟩, ?_⟩
    rw [hT, ha]
    simp [w3M, w30, boxB, resB, outB, stepsA_nil, stepsB_nil, renV_pv1, intsP, fatesP, stepsP]
   | true =>
    rw [ha] at hC'
    refine evH [(29, { val := some (.pv (.bool true)), ro := true })] ?_
    dsimp only [go_sem]
    try dsimp only [go_sem]
    refine ⟨(by simp [vb] <;> omega), ?_, ?_⟩
    ·exact ⟨hC', trivial⟩
    refine evTH [(88, fun _ => some (stepP x))] [(35, { mode := 1 })] ?_
    dsimp only [go_sem]
    refine ⟨fun _ => ?_, fun h => by simp at h <;> omega⟩
    refine evTH [(88, fun _ => some (stepP x))] [(35, { mode := 1 })] ?_
    dsimp only [go_sem]
    try dsimp only [go_sem]
    refine ⟨(by first | exact True.intro | (simp only [vb, lb]; omega) | (simp only [vb, lb, hcp]; and_intros <;> first | omega | (simp <;> omega)) | (simp [vb, hcp] <;> omega)), (by first | exact True.intro | ((try dsimp only [go_sem]); first | (simp [vb, hcp] <;> omega) | (simp only [vb, and_true, true_implies]; (repeat' (first | (with_reducible assumption) | (with_reducible apply And.intro) | intro _ | ((fail_if_success (with_reducible show (_ : Int) ≤ _)); assumption))) <;> first | omega | rfl | (simp only [ab, hcp]; done) | (simp [Nat.mul_one, hcp] <;> omega) | (simp_all; done)))), ?_⟩
    refine aw_keep [0, 1, 2, 3, 4, 5, 7] rfl ?_
    refine evA ?_
    dsimp only [go_sem]
    try dsimp only [go_sem]
    refine ⟨(by simp [vb] <;> omega), (by simp [vb] <;> omega), ?_⟩
    subst hI
    refine ⟨hlt, trivial, ⟨congrArg (AV.fn g) hr2, rfl, rfl, rfl, rfl, rfl, rfl, trivial⟩, ?_⟩
    rw [hT, ha]
    simp [w3M, w30, boxB, resB, outB, stepsA_cons, stepsB_cons, renV_pv1, intsP, fatesP, stepsP, stepC, queriesP]
  | cons y yr =>
   simp only [List.length_cons] at hlen
   refine evA ?_
   dsimp only [w30, boxB, resB, outB, stepsA_cons, stepsB_cons, go_sem]
   try dsimp only [w30, boxB, resB, outB, stepsA_cons, stepsB_cons, go_sem]
   refine ⟨(by simp [vb] <;> omega), (by simp [vb] <;> omega), ?_⟩
   rw [hd]
   refine evA ?_
   dsimp only [go_sem]
   refine ⟨fun _ => ?_, fun h => by simp at h <;> omega⟩
   refine evA ?_
   dsimp only [go_sem]
   refine aw_seq ?_
   refine aw_block ?_
   refine evH [(25, { val := some (.pv (stepP x)) })] ?_
   dsimp only [stepsP, stepP, stepC, queriesP, intsP, go_sem]
   try dsimp only [stepsP, stepP, stepC, queriesP, intsP, go_sem]
   refine ⟨(by simp [vb, hlt, hL] <;> omega), ?_, ?_⟩
   ·refine ⟨?_, trivial⟩
    rw [Int.toNat_natCast, hat]
    rfl
   have hC' := hC ([boxB s, resB, outB s (stepsA 6 (y :: yr))] ++ stepsB (y :: yr) ++ [stepBlk0 x]) (by simp [okMem, w30, boxB, resB, outB, stepBlk0, stepC, bnd, stepsA, stepsB, Nat.blt])
   unfold w30 boxB resB outB stepBlk0 stepP stepC at hC'
   cases ha : acc k x with
   | false =>
    rw [ha] at hC'
    refine evH [(29, { val := some (.pv (.bool false)), ro := true })] ?_
    dsimp only [go_sem]
    try dsimp only [go_sem]
    refine ⟨(by simp [vb] <;> omega), ?_, ?_⟩
    ·exact ⟨hC', trivial⟩
    refine evA ?_
    dsimp only [go_sem]
    refine ⟨fun h => by simp at h <;> omega, fun _ => ?_⟩
    refine evA ?_
    dsimp only [go_sem]
    refine aw_keep [0, 1, 2, 3, 4, 5, 6] rfl ?_
    refine evA ?_
    dsimp only [go_sem]
    try dsimp only [go_sem]
    refine ⟨(by simp [vb] <;> omega), (by simp [vb] <;> omega), ?_⟩
    subst hI
    refine ⟨hlt, trivial, ⟨congrArg (AV.fn g) hr3, rfl, rfl, rfl, rfl, rfl, rfl, trivial⟩, ?_⟩
    rw [hT, ha]
    simp [w3M, w30, boxB, resB, outB, stepsA_cons, stepsB_cons, renV_pv1, intsP, fatesP, stepsP, stepC, queriesP]
   | true =>
    rw [ha] at hC'
    refine evH [(29, { val := some (.pv (.bool true)), ro := true })] ?_
    dsimp only [go_sem]
    try dsimp only [go_sem]
    refine ⟨(by simp [vb] <;> omega), ?_, ?_⟩
    ·exact ⟨hC', trivial⟩
    refine evTH [(88, fun _ => some (stepP x))] [(35, { mode := 1 })] ?_
    dsimp only [go_sem]
    refine ⟨fun _ => ?_, fun h => by simp at h <;> omega⟩
    refine evTH [(88, fun _ => some (stepP x))] [(35, { mode := 1 })] ?_
    dsimp only [go_sem]
    try dsimp only [go_sem]
    refine ⟨(by first | exact True.intro | (simp only [vb, lb]; omega) | (simp only [vb, lb, hcp, flatMap_length stepC_len, stepC_len]; and_intros <;> first | omega | (simp <;> omega)) | (simp [vb, hcp, flatMap_length stepC_len, stepC_len] <;> omega)), (by first | exact True.intro | ((try dsimp only [go_sem]); first | (simp [vb, hcp, flatMap_length stepC_len, stepC_len] <;> omega) | (simp only [vb, and_true, true_implies]; (repeat' (first | (with_reducible assumption) | (with_reducible apply And.intro) | intro _ | ((fail_if_success (with_reducible show (_ : Int) ≤ _)); assumption))) <;> first | omega | rfl | (simp only [ab, hcp, flatMap_length stepC_len, stepC_len]; done) | (simp [Nat.mul_one, hcp, flatMap_length stepC_len, stepC_len] <;> omega) | (simp_all; done)))), ?_⟩
    refine aw_keep [0, 1, 2, 3, 4, 5, 6] rfl ?_
    refine evA ?_
    dsimp only [go_sem]
    try dsimp only [go_sem]
    refine ⟨(by simp [vb] <;> omega), (by simp [vb] <;> omega), ?_⟩
    subst hI
    refine ⟨hlt, trivial, ⟨congrArg (AV.fn g) hr3, rfl, rfl, rfl, rfl, rfl, rfl, trivial⟩, ?_⟩
    rw [hT, ha]
    simp [w3M, w30, boxB, resB, outB, stepsA_cons, stepsB_cons, renV_pv1, intsP, fatesP, stepsP, stepC, queriesP]
 ·have hd : decide ((k : Int) < s.steps.length) = false := by simp; omega
  have : k = s.steps.length := by omega
  subst this
  rw [List.take_length]
  have hlen := pick_len acc s.steps 0
  have hL := flatMap_length (g := stepC) (m := 10) (fun _ => rfl) (pick acc 0 s.steps)
  unfold w3F w3M
  have hres' : schedP { s with steps := pick acc 0 s.steps } = res := hres
  generalize hpk : pick acc 0 s.steps = pk at *
  subst hres'
  cases pk with
  | nil =>
   refine evA ?_
   dsimp only [w30, boxB, resB, outB, stepsA_nil, stepsB_nil, go_sem]
   try dsimp only [w30, boxB, resB, outB, stepsA_nil, stepsB_nil, go_sem]
   refine ⟨(by simp [vb] <;> omega), (by simp [vb] <;> omega), ?_⟩
   rw [hd]
   refine evA ?_
   dsimp only [go_sem]
   refine ⟨fun h => by simp at h <;> omega, fun _ => ?_⟩
   refine evA ?_
   dsimp only [go_sem]
   refine aw_frame [(4, .ptr 4 0 0), (5, .ptr 5 0 0)] ⟨rfl, rfl, trivial⟩ ?_
   refine aw_weak (μ' := w30 p0 p1 p2 z0 z1 z2 e0 e1 e2 ++ [boxB s, resB] ++ [outB s (.pv (.sl 0 []))]) (MW.last (μ := w30 p0 p1 p2 z0 z1 z2 e0 e1 e2 ++ [boxB s, resB]) (x := outB s (.pv .nilsl)) ⟨PW.cons (CW.refl _) (PW.cons (CW.refl _) (PW.cons (CW.refl _) (PW.cons (CW.refl _) (PW.cons (CW.refl _) (PW.cons (CW.refl _) (PW.cons CW.nil PW.nil)))))), rfl, rfl, rfl, rfl⟩) ?_
   refine evA ?_
   dsimp only [w30, boxB, resB, outB, go_sem]
   try dsimp only [w30, boxB, resB, outB, go_sem]
   refine ⟨(by simp [vb] <;> omega), (by simp [vb] <;> omega), ?_⟩
   refine evA ?_
   dsimp only [w30, boxB, resB, outB, go_sem]
   exact ⟨⟨(by first | exact True.intro | (simp only [vb, lb]; omega) | (simp [vb] <;> omega)), rfl⟩, _, rfl⟩
  | cons y yr =>
   refine evA ?_
   dsimp only [w30, boxB, resB, outB, stepsA_cons, stepsB_cons, go_sem]
   try dsimp only [w30, boxB, resB, outB, stepsA_cons, stepsB_cons, go_sem]
   refine ⟨(by simp [vb] <;> omega), (by simp [vb] <;> omega), ?_⟩
   rw [hd]
   refine evA ?_
   dsimp only [go_sem]
   refine ⟨fun h => by simp at h <;> omega, fun _ => ?_⟩
   refine evA ?_
   dsimp only [go_sem]
   refine aw_frame [(4, .ptr 4 0 0), (5, .ptr 5 0 0)] ⟨rfl, rfl, trivial⟩ ?_
   refine aw_rowDone (μ := w30 p0 p1 p2 z0 z1 z2 e0 e1 e2 ++ [boxB s, resB]) (c1 := [.int .i64 s.replicas, .int .i64 s.sessions, .int .i64 s.sectors, .int .i64 s.ticks, intsP s.state, fatesP s.fates]) (c2 := []) (ps := (y :: yr).flatMap stepC) (n := yr.length + 1) (sz := 10) ?_ (by simp [w30]) (by decide) (by simpa using hL) (fun M => rfl) rfl ?_
   ·simp [okMem, w30, boxB, resB, bnd]
   refine evA ?_
   dsimp only [w30, boxB, resB, go_sem]
   try dsimp only [w30, boxB, resB, go_sem]
   refine ⟨(by simp [vb] <;> omega), (by simp [vb] <;> omega), ?_⟩
   refine evA ?_
   dsimp only [w30, boxB, resB, go_sem]
   exact ⟨⟨(by first | exact True.intro | (simp only [vb, lb]; omega) | (simp [vb] <;> omega)), rfl⟩, _, rfl⟩
end
end
section
open Sch
def c89 : ACode := (⟨_, by conv => (lhs; reduce; try simp only [lt1, Int.cast_ofNat_Int, Int.reduceNegSucc, UInt8.reduceOfNat])⟩ : {x // codeOf Tryz.prog 89 (fun _ => false) = some x}).1
theorem fn89 : fnOf Tryz.prog 89 (fun _ => false) = some (c89, [.t 4], 19, true) := by kernel_rfl
def idxI (l : List Int) (n : Int) : Int := match l.findIdx? (fun x => n == x) with
 | some i => i
 | none => -1
theorem idxI_at {l : List Int} {w : Int} {k : Nat} (hk : k < l.length) (hb : ∀ j, j < k → (w == l.getD j 0) = false) (h : (w == l.getD k 0) = true) : idxI l w = k := by
 have : l.findIdx? (fun x => w == x) = some k := by
  rw [List.findIdx?_eq_some_iff_getElem]
  refine ⟨hk, by simpa [List.getD, List.getElem?_eq_getElem hk] using h, fun j hj => ?_⟩
  have := hb j hj
  simpa [List.getD, List.getElem?_eq_getElem (show j < l.length by omega)] using this
 simp [idxI, this]
theorem idxI_no {l : List Int} {w : Int} (hb : ∀ j, j < l.length → (w == l.getD j 0) = false) : idxI l w = -1 := by
 have : l.findIdx? (fun x => w == x) = none := by
  rw [List.findIdx?_eq_none_iff]
  intro x hx
  obtain ⟨j, hj, rfl⟩ := List.mem_iff_getElem.mp hx
  have := hb j hj
  simpa [List.getD, List.getElem?_eq_getElem hj] using this
 simp [idxI, this]
theorem idxI_has (l : List Int) (n : Int) : decide (idxI l n ≥ 0) = l.contains n := by
 rw [Bool.eq_iff_iff]
 simp only [decide_eq_true_eq, List.contains_iff_mem]
 unfold idxI
 cases h : l.findIdx? (fun x => n == x) with
 | none =>
  rw [List.findIdx?_eq_none_iff] at h
  simp only [show ¬((-1 : Int) ≥ 0) by omega, false_iff]
  intro hn
  have := h n hn
  simp at this
 | some i =>
  rw [List.findIdx?_eq_some_iff_getElem] at h
  obtain ⟨hi, he, -⟩ := h
  simp only [show ((i : Int) ≥ 0) by omega, true_iff]
  have : n = l[i] := by simpa using he
  rw [this]
  exact List.getElem_mem hi
set_option maxHeartbeats 1000000 in
theorem indexI_ok (l : List Int) (w : Int) (hl : l.length ≤ 1000000) : PureOK ctx 89 [intsP l, .int .i64 w] (.int .i64 (idxI l w)) := by
 refine pure_body' (C := ctx) (Fn.of fn89 rfl) rfl ?_
 unfold c89
 refine evA ?_
 dsimp only [intsP, go_sem]
 try dsimp only [intsP, go_sem]
 refine ⟨(by simp [vb] <;> omega), (by simp [vb] <;> omega), ?_⟩
 refine aw_seq ?_
 refine evA ?_
 dsimp only [go_sem]
 try dsimp only [go_sem]
 refine ⟨(by simp [vb] <;> omega), (by simp [vb] <;> omega), ?_⟩
 refine aw_block ?_
 refine aw_forP l.length (fun k => ∀ j, j < k → (w == l.getD j 0) = false) (fun k => [(8, .pv (.int .i64 k)), (7, .pv (.int .i64 l.length)), (0, .pv (.sl l.length (l.map (.int .i64)))), (1, .pv (.int .i64 w))]) (fun _ => []) (fun j hj => by omega) ⟨rfl, rfl, rfl, rfl, trivial⟩ rfl fun k hk hP => ?_
 refine evA ?_
 dsimp only [go_sem]
 try dsimp only [go_sem]
 refine ⟨(by simp [vb] <;> omega), (by simp [vb] <;> omega), ?_⟩
 refine evA ?_
 dsimp only [go_sem]
 refine ⟨fun hc => ?_, fun hc => ?_⟩
 ·have hk2 : k < l.length := by simpa using hc
  have e := getD_map (PV.int .i64) l k 0 default hk2
  simp only [List.getD] at e
  iterate 5 first
   | refine ⟨by simp [vb, hk2] <;> omega, by simp [vb, hk2] <;> omega, ?_⟩
   | (refine evH [(15, { val := some (.pv (.int .i64 (l.getD k 0))) })] ?_; iterate 2 (try dsimp only [go_sem]))
  cases hq : w == l.getD k 0 with
  | true =>
   simp only [List.getD] at hq
   rw [hq]
   iterate 5 first
    | refine ⟨fun _ => ?_, fun h => by simp at h <;> omega⟩
    | refine ⟨by simp [vb] <;> omega, by simp [vb] <;> omega, ?_⟩
    | (refine evA ?_; iterate 2 (try dsimp only [go_sem]))
   exact ⟨trivial, by rw [idxI_at hk2 hP (by simpa [List.getD] using hq)]⟩
  | false =>
   have hq2 := hq
   simp only [List.getD] at hq2
   rw [hq2]
   iterate 5 first
    | refine ⟨fun h => by simp at h <;> omega, fun _ => ?_⟩
    | refine ⟨by simp [vb] <;> omega, by simp [vb] <;> omega, ?_⟩
    | (refine evA ?_; iterate 2 (try dsimp only [go_sem]))
   refine ⟨hk2, fun j hj => ?_, ⟨rfl, rfl, rfl, rfl, trivial⟩, rfl⟩
   by_cases hj2 : j = k
   ·rw [hj2]; exact hq
   ·exact hP j (by omega)
 ·have hk2 : k = l.length := by simp at hc; omega
  subst hk2
  iterate 4 first
   | refine ⟨by simp [vb] <;> omega, by simp [vb] <;> omega, ?_⟩
   | (refine evA ?_; iterate 2 (try dsimp only [go_sem]))
  exact ⟨trivial, by rw [idxI_no hP]⟩
def c54 : ACode := (⟨_, by conv => (lhs; reduce; try simp only [lt1, Int.cast_ofNat_Int, Int.reduceNegSucc, UInt8.reduceOfNat])⟩ : {x // codeOf Tryz.prog 54 (fun _ => false) = some x}).1
theorem fn54 : fnOf Tryz.prog 54 (fun _ => false) = some (c54, [.t 4], 9, true) := by kernel_rfl
theorem containsI_ok (l : List Int) (w : Int) (hl : l.length ≤ 1000000) : PureOK ctx 54 [intsP l, .int .i64 w] (.bool (l.contains w)) := by
 have h := indexI_ok l w hl
 rw [← idxI_has]
 refine pure_body' (C := ctx) (Fn.of fn54 rfl) rfl ?_
 unfold c54
 refine evT [(89, fun _ => some (.int .i64 (idxI l w)))] ?_
 dsimp only [intsP, go_sem]
 try dsimp only [intsP, go_sem]
 refine ⟨(by simp [vb, h] <;> omega), (by simp [vb, h] <;> omega), ?_⟩
 refine evT [(89, fun _ => some (.int .i64 (idxI l w)))] ?_
 dsimp only [intsP, go_sem]
 try dsimp only [intsP, go_sem]
 refine ⟨(by first | exact True.intro | (simp only [vb, lb]; omega) | (simp only [vb, lb, h]; and_intros <;> first | omega | (simp <;> omega)) | (simp [vb, h] <;> omega)), (by first | exact True.intro | ((try dsimp only [go_sem]); first | (simp [vb, h] <;> omega) | (simp only [vb, and_true, true_implies]; (repeat' (first | (with_reducible assumption) | (with_reducible apply And.intro) | intro _ | ((fail_if_success (with_reducible show (_ : Int) ≤ _)); assumption))) <;> first | omega | rfl | (simp only [ab, h]; done) | (simp [Nat.mul_one, h] <;> omega) | (simp_all; done)))), ?_⟩
 refine evT [(89, fun _ => some (.int .i64 (idxI l w)))] ?_
 dsimp only [intsP, go_sem]
 exact ⟨(by first | exact True.intro | (simp only [vb, lb]; omega) | (simp [vb] <;> omega)), rfl⟩
theorem get_below {μ : AM} {b : Nat} {k : Blk} (h : μ[b]? = some k) (x : Blk) : (μ ++ [x])[b]? = some k := by
 rw [List.getElem?_append_left (List.getElem?_eq_some_iff.mp h).1]
 exact h
def c52 : ACode := (⟨_, by conv => (lhs; reduce; try simp only [lt1, Int.cast_ofNat_Int, Int.reduceNegSucc, UInt8.reduceOfNat])⟩ : {x // codeOf Tryz.prog 52 (fun _ => false) = some x}).1
theorem fn52 : fnOf Tryz.prog 52 (fun _ => false) = some (c52, [.t 5], 10, true) := by kernel_rfl
theorem at1_ok (μ : AM) (hμ : okMem μ μ.length = true) (c : Nat) (tick : Int) (hc : μ[c]? = some ⟨[.pv (.int .i64 tick)], 0, 1, 3, false⟩) (k : Nat) (x : Step) :
  RefOK ctx 52 [.pv (.int .i64 k), .pv (stepP x), .ptr c 0 0] μ (.pv (.bool (x.tick == tick))) μ := by
 refine ref_body' (C := ctx) (Fn.of fn52 rfl) rfl (by simp) rfl hμ ?_
 unfold c52
 refine evA ?_
 simp only [stepP, stepC, queriesP, intsP, mem2_get, mem2_last, mem2_set0, mem2_set1, mem_last, mem_set, mem_len, go_sem]
 try simp only [stepP, stepC, queriesP, intsP, mem2_get, mem2_last, mem2_set0, mem2_set1, mem_last, mem_set, mem_len, go_sem]
 refine ⟨(by simp [vb] <;> omega), (by simp [vb] <;> omega), ?_⟩
 refine evA ?_
 simp only [get_below hc, mem2_get, mem2_last, mem2_set0, mem2_set1, mem_last, mem_set, mem_len, go_sem]
 try simp only [get_below hc, mem2_get, mem2_last, mem2_set0, mem2_set1, mem_last, mem_set, mem_len, go_sem]
 refine ⟨(by simp [vb] <;> omega), (by simp [vb] <;> omega), ?_⟩
 refine evA ?_
 dsimp only [go_sem]
 exact ⟨⟨(by first | exact True.intro | (simp only [vb, lb]; omega) | (simp [vb] <;> omega)), rfl⟩, _, rfl⟩
def c59 : ACode := (⟨_, by conv => (lhs; reduce; try simp only [lt1, Int.cast_ofNat_Int, Int.reduceNegSucc, UInt8.reduceOfNat])⟩ : {x // codeOf Tryz.prog 59 (fun _ => false) = some x}).1
theorem fn59 : fnOf Tryz.prog 59 (fun _ => false) = some (c59, [.t 5], 10, true) := by kernel_rfl
theorem until1_ok (μ : AM) (hμ : okMem μ μ.length = true) (c : Nat) (tick : Int) (hc : μ[c]? = some ⟨[.pv (.int .i64 tick)], 0, 1, 3, false⟩) (k : Nat) (x : Step) :
  RefOK ctx 59 [.pv (.int .i64 k), .pv (stepP x), .ptr c 0 0] μ (.pv (.bool (decide (x.tick < tick)))) μ := by
 refine ref_body' (C := ctx) (Fn.of fn59 rfl) rfl (by simp) rfl hμ ?_
 unfold c59
 refine evA ?_
 simp only [stepP, stepC, queriesP, intsP, mem2_get, mem2_last, mem2_set0, mem2_set1, mem_last, mem_set, mem_len, go_sem]
 try simp only [stepP, stepC, queriesP, intsP, mem2_get, mem2_last, mem2_set0, mem2_set1, mem_last, mem_set, mem_len, go_sem]
 refine ⟨(by simp [vb] <;> omega), (by simp [vb] <;> omega), ?_⟩
 refine evA ?_
 simp only [get_below hc, mem2_get, mem2_last, mem2_set0, mem2_set1, mem_last, mem_set, mem_len, go_sem]
 try simp only [get_below hc, mem2_get, mem2_last, mem2_set0, mem2_set1, mem_last, mem_set, mem_len, go_sem]
 refine ⟨(by simp [vb] <;> omega), (by simp [vb] <;> omega), ?_⟩
 refine evA ?_
 dsimp only [go_sem]
 exact ⟨⟨(by first | exact True.intro | (simp only [vb, lb]; omega) | (simp [vb] <;> omega)), rfl⟩, _, rfl⟩
def c53 : ACode := (⟨_, by conv => (lhs; reduce; try simp only [lt1, Int.cast_ofNat_Int, Int.reduceNegSucc, UInt8.reduceOfNat])⟩ : {x // codeOf Tryz.prog 53 (fun _ => false) = some x}).1
theorem fn53 : fnOf Tryz.prog 53 (fun _ => false) = some (c53, [.t 5], 10, true) := by kernel_rfl
theorem without1_ok (μ : AM) (hμ : okMem μ μ.length = true) (c : Nat) (l : List Int) (hl : l.length ≤ 1000000) (hc : μ[c]? = some ⟨[.pv (intsP l)], 0, 1, 23, false⟩) (k : Nat) (x : Step) :
  RefOK ctx 53 [.pv (.int .i64 k), .pv (stepP x), .ptr c 0 0] μ (.pv (.bool (!l.contains (k : Int)))) μ := by
 have h := containsI_ok l k hl
 refine ref_body' (C := ctx) (Fn.of fn53 rfl) rfl (by simp) rfl hμ ?_
 unfold c53
 unfold intsP at hc h
 refine evA ?_
 simp only [stepP, stepC, queriesP, intsP, mem2_get, mem2_last, mem2_set0, mem2_set1, mem_last, mem_set, mem_len, go_sem]
 try simp only [stepP, stepC, queriesP, intsP, mem2_get, mem2_last, mem2_set0, mem2_set1, mem_last, mem_set, mem_len, go_sem]
 refine ⟨(by simp [vb] <;> omega), (by simp [vb] <;> omega), ?_⟩
 refine evT [(54, fun _ => some (.bool (l.contains (k : Int))))] ?_
 simp only [get_below hc, mem2_get, mem2_last, mem2_set0, mem2_set1, mem_last, mem_set, mem_len, go_sem]
 try simp only [get_below hc, mem2_get, mem2_last, mem2_set0, mem2_set1, mem_last, mem_set, mem_len, go_sem]
 refine ⟨(by first | exact True.intro | (simp only [vb, lb]; omega) | (simp only [vb, lb, h]; and_intros <;> first | omega | (simp <;> omega)) | (simp [vb, h] <;> omega)), (by first | exact True.intro | ((try dsimp only [go_sem]); first | (simp [vb, h] <;> omega) | (simp only [vb, and_true, true_implies]; (repeat' (first | (with_reducible assumption) | (with_reducible apply And.intro) | intro _ | ((fail_if_success (with_reducible show (_ : Int) ≤ _)); assumption))) <;> first | omega | rfl | (simp only [ab, h]; done) | (simp [Nat.mul_one, h] <;> omega) | (simp_all; done)))), ?_⟩
 refine evA ?_
 dsimp only [go_sem]
 exact ⟨⟨(by first | exact True.intro | (simp only [vb, lb]; omega) | (simp [vb] <;> omega)), rfl⟩, _, rfl⟩
structure Small (s : Sched) : Prop where
 n : s.steps.length ≤ 1000000
 a : s.state.length ≤ 1000000000000
 b : s.fates.length ≤ 1000000000000
 z : ∀ x ∈ s.steps, Short x
def schedL (s : Sched) : List PV := [.int .i64 s.replicas, .int .i64 s.sessions, .int .i64 s.sectors, .int .i64 s.ticks, intsP s.state, fatesP s.fates, stepsP s.steps]
def zeroL : List PV := [.int .i64 0, .int .i64 0, .int .i64 0, .int .i64 0, .nilsl, .nilsl, .nilsl]
def stepsAt (s : Sched) (tick : Int) : List Step := pick (fun _ x => x.tick == tick) 0 s.steps
def without (s : Sched) (l : List Int) : Sched := withS (fun i _ => !l.contains (i : Int)) s
def c15 : ACode := (⟨_, by conv => (lhs; reduce; try simp only [lt1, Int.cast_ofNat_Int, Int.reduceNegSucc, UInt8.reduceOfNat])⟩ : {x // codeOf Tryz.prog 15 (fun _ => false) = some x}).1
theorem fn15 : fnOf Tryz.prog 15 (fun _ => false) = some (c15, [.t 4], 9, true) := by kernel_rfl
theorem at_ok (s : Sched) (hs : Small s) (tick : Int) : PureOK ctx 15 [schedP s, .int .i64 tick] (stepsP (stepsAt s tick)) := by
 have h := with2_ok 52 [.ptr 1 0 0] (fun _ x => x.tick == tick) s (schedL s) [.int .i64 tick] 7 1 27 3 hs.n hs.a hs.b hs.z rfl rfl rfl (fun k ν _ hok => at1_ok _ hok 1 tick rfl k _)
 refine pure_body' (C := ctx) (Fn.of fn15 rfl) rfl ?_
 unfold c15
 refine evA ?_
 dsimp only [schedP, intsP, fatesP, stepsP, go_sem]
 try dsimp only [schedP, intsP, fatesP, stepsP, go_sem]
 refine ⟨(by simp [vb] <;> omega), (by simp [vb] <;> omega), ?_⟩
 refine evH [(7, { val := some (.pv (schedP (withS (fun _ x => x.tick == tick) s))), mem := some (w20 (schedL s) [.int .i64 tick] 7 1 27 3) })] ?_
 dsimp only [schedP, go_sem]
 try dsimp only [schedP, go_sem]
 refine ⟨(by simp [vb] <;> omega), ?_, ?_⟩
 ·exact ⟨h, trivial⟩
 refine evA ?_
 dsimp only [go_sem]
 exact ⟨(by first | exact True.intro | (simp only [vb, lb]; omega) | (simp [vb] <;> omega)), rfl⟩
def c16 : ACode := (⟨_, by conv => (lhs; reduce; try simp only [lt1, Int.cast_ofNat_Int, Int.reduceNegSucc, UInt8.reduceOfNat])⟩ : {x // codeOf Tryz.prog 16 (fun _ => false) = some x}).1
theorem fn16 : fnOf Tryz.prog 16 (fun _ => false) = some (c16, [.cell 4 7 true], 8, true) := by kernel_rfl
theorem without_ok (s : Sched) (hs : Small s) (l : List Int) (hl : l.length ≤ 1000000) : PureOK ctx 16 [schedP s, intsP l] (schedP (without s l)) := by
 have h := with3_ok 53 [.ptr 1 0 0] (fun i _ => !l.contains (i : Int)) s (schedL s) [intsP l] zeroL 7 1 7 27 23 27 hs.n hs.a hs.b hs.z rfl rfl rfl (fun k ν _ hok => without1_ok _ hok 1 l hl rfl k _)
 refine pure_body' (C := ctx) (Fn.of fn16 rfl) rfl ?_
 unfold c16
 refine evA ?_
 dsimp only [schedP, intsP, fatesP, stepsP, go_sem]
 try dsimp only [schedP, intsP, fatesP, stepsP, go_sem]
 refine ⟨(by simp [vb] <;> omega), (by simp [vb] <;> omega), ?_⟩
 refine evH [(7, { val := some (.pv (schedP (withS (fun i _ => !l.contains (i : Int)) s))), mem := some (w30 (schedL s) [intsP l] zeroL 7 1 7 27 23 27) })] ?_
 dsimp only [schedP, w30, schedL, zeroL, go_sem]
 try dsimp only [schedP, w30, schedL, zeroL, go_sem]
 refine ⟨(by simp [vb] <;> omega), ?_, ?_⟩
 ·exact ⟨h, trivial⟩
 refine evA ?_
 dsimp only [go_sem]
 exact ⟨(by first | exact True.intro | (simp only [vb, lb]; omega) | (simp [vb] <;> omega)), rfl⟩
def c18 : ACode := (⟨_, by conv => (lhs; reduce; try simp only [lt1, Int.cast_ofNat_Int, Int.reduceNegSucc, UInt8.reduceOfNat])⟩ : {x // codeOf Tryz.prog 18 (fun _ => false) = some x}).1
theorem fn18 : fnOf Tryz.prog 18 (fun _ => false) = some (c18, [.cell 4 7 true], 18, true) := by kernel_rfl
def upTick (s : Sched) (tick : Int) : Int := if (if tick < 0 then 0 else tick) < s.ticks then if tick < 0 then 0 else tick else s.ticks
def till (s : Sched) (tick : Int) : Sched := { withS (fun _ x => decide (x.tick < upTick s tick)) s with ticks := upTick s tick }
theorem until_ok (s : Sched) (hs : Small s) (tick : Int) : PureOK ctx 18 [schedP s, .int .i64 tick] (schedP (till s tick)) := by
 have h := with3_ok 59 [.ptr 2 0 0] (fun _ x => decide (x.tick < upTick s tick)) s (schedL s) zeroL [.int .i64 (upTick s tick)] 7 7 1 27 27 3 hs.n hs.a hs.b hs.z rfl rfl rfl (fun k ν _ hok => until1_ok _ hok 2 (upTick s tick) rfl k _)
 refine pure_body' (C := ctx) (Fn.of fn18 rfl) rfl ?_
 unfold c18
 refine evA ?_
 dsimp only [schedP, intsP, fatesP, stepsP, go_sem]
 try dsimp only [schedP, intsP, fatesP, stepsP, go_sem]
 refine ⟨(by simp [vb] <;> omega), (by simp [vb] <;> omega), ?_⟩
 refine evA ?_
 dsimp only [go_sem]
 try dsimp only [go_sem]
 refine ⟨(by simp [vb] <;> omega), (by simp [vb] <;> omega), ?_⟩
 refine evH [(14, { val := some (.pv (schedP (withS (fun _ x => decide (x.tick < upTick s tick)) s))), mem := some (w30 (schedL s) zeroL [.int .i64 (upTick s tick)] 7 7 1 27 27 3) })] ?_
 dsimp only [schedP, w30, schedL, zeroL, intsP, fatesP, stepsP, go_sem]
 try dsimp only [schedP, w30, schedL, zeroL, intsP, fatesP, stepsP, go_sem]
 refine ⟨(by simp [vb] <;> omega), ?_, ?_⟩
 ·exact ⟨h, trivial⟩
 iterate 5 first
  | refine ⟨by simp [vb] <;> omega, by simp [vb] <;> omega, ?_⟩
  | (refine evA ?_; iterate 2 (try dsimp only [go_sem]))
 exact ⟨(by first | exact True.intro | (simp only [vb, lb]; omega) | (simp [vb] <;> omega)), rfl⟩
end
end Pur
end Go.Proofs.YteokbngllldmdaaGreatDoor
namespace Go.Proofs.YteokbngllldmdaaGreatDoor
namespace Pur
open Go.RowKit
section
open Sch
theorem cz1 : Tryz.prog.cellsOf 3 = 1 := by kernel_rfl
theorem cz2 : Tryz.prog.cellsOf 55 = 2 := by kernel_rfl
theorem cz3 : Tryz.prog.cellsOf 53 = 3 := by kernel_rfl
theorem cz10 : Tryz.prog.cellsOf 41 = 10 := by kernel_rfl
theorem cz7 : Tryz.prog.cellsOf 27 = 7 := by kernel_rfl
theorem czb : Tryz.prog.cellsOf 4 = 1 := by kernel_rfl
theorem czi : Tryz.prog.cellsOf 23 = 1 := by kernel_rfl
theorem czf : Tryz.prog.cellsOf 24 = 1 := by kernel_rfl
theorem czs : Tryz.prog.cellsOf 25 = 1 := by kernel_rfl
theorem czq : Tryz.prog.cellsOf 39 = 1 := by kernel_rfl
section
variable {n B : Nat}
theorem tInt {l : List PV} (h : Typed Tryz.prog B n 3 l) : ∃ x, l = [.int .i64 x] ∧ i64 x := by
 obtain ⟨x, rfl, hw⟩ := ty_int h Tryz.underlying3
 exact ⟨x, rfl, wf_i64 hw⟩
theorem tInts {l : List PV} (h : Typed Tryz.prog B n 23 l) : ∃ xs, l = [intsP xs] ∧ xs.length ≤ B ∧ ∀ x ∈ xs, i64 x := by
 obtain ⟨xs, rfl, h1, h2⟩ := ty_slice h Tryz.underlying23 cz1 (fun x => [PV.int .i64 x]) i64 (fun _ _ => rfl) fun m c _ hc => tInt hc
 refine ⟨xs, ?_, h1, h2⟩
 unfold intsP
 congr 2
 clear h1 h2 h
 induction xs with
 | nil => rfl
 | cons a r ih => rw [List.flatMap_cons, List.map_cons, ih]; rfl
theorem tQuery {l : List PV} (h : Typed Tryz.prog B n 55 l) : ∃ q, l = queryC q ∧ (i64 q.1 ∧ i64 q.2) := by
 obtain ⟨hl, m, rfl, hf⟩ := ty_struct h Tryz.underlying55
 rw [cz2] at hl
 match l, hl with
 | [a, b], _ =>
  have h0 := tInt (piece hf 0 0 3 cz1 rfl)
  have h1 := tInt (piece hf 1 1 3 cz1 rfl)
  obtain ⟨x, hx, ix⟩ := h0
  obtain ⟨y, hy, iy⟩ := h1
  simp at hx hy
  subst hx hy
  exact ⟨(x, y), rfl, ix, iy⟩
theorem tFate {l : List PV} (h : Typed Tryz.prog B n 53 l) : ∃ f, l = fateC f ∧ (i64 f.delay ∧ i64 f.again) := by
 obtain ⟨hl, m, rfl, hf⟩ := ty_struct h Tryz.underlying53
 rw [cz3] at hl
 match l, hl with
 | [a, b, c], _ =>
  have h0 := ty_bool (piece hf 0 0 4 czb rfl) Tryz.underlying4
  have h1 := tInt (piece hf 1 1 3 cz1 rfl)
  have h2 := tInt (piece hf 2 2 3 cz1 rfl)
  obtain ⟨d, hd⟩ := h0
  obtain ⟨x, hx, ix⟩ := h1
  obtain ⟨y, hy, iy⟩ := h2
  simp at hd hx hy
  subst hd hx hy
  exact ⟨⟨d, x, y⟩, rfl, ix, iy⟩
structure StepB (B : Nat) (x : Step) : Prop where
 q : x.queries.length ≤ B
 s : x.survive.length ≤ B
 v : x.voters.length ≤ B
theorem tStep {l : List PV} (h : Typed Tryz.prog B n 41 l) : ∃ x, l = stepC x ∧ StepB B x := by
 obtain ⟨hl, m, rfl, hf⟩ := ty_struct h Tryz.underlying41
 rw [cz10] at hl
 match l, hl with
 | [a0, a1, a2, a3, a4, a5, a6, a7, a8, a9], _ =>
  have h0 := tInt (piece hf 0 0 3 cz1 rfl)
  have h1 := tInt (piece hf 1 1 3 cz1 rfl)
  have h2 := tInt (piece hf 2 2 3 cz1 rfl)
  have h3 := tInt (piece hf 3 3 3 cz1 rfl)
  have h4 := tInt (piece hf 4 4 3 cz1 rfl)
  have h5 := tInt (piece hf 5 5 3 cz1 rfl)
  have h6 := tInt (piece hf 6 6 3 cz1 rfl)
  have h7 := ty_slice (piece hf 7 7 39 czq rfl) Tryz.underlying39 cz2 queryC (fun q => i64 q.1 ∧ i64 q.2) (fun _ _ => rfl) fun m c _ hc => tQuery hc
  have h8 := tInts (piece hf 8 8 23 czi rfl)
  have h9 := tInts (piece hf 9 9 23 czi rfl)
  obtain ⟨x0, e0, -⟩ := h0
  obtain ⟨x1, e1, -⟩ := h1
  obtain ⟨x2, e2, -⟩ := h2
  obtain ⟨x3, e3, -⟩ := h3
  obtain ⟨x4, e4, -⟩ := h4
  obtain ⟨x5, e5, -⟩ := h5
  obtain ⟨x6, e6, -⟩ := h6
  obtain ⟨x7, e7, l7, -⟩ := h7
  obtain ⟨x8, e8, l8, -⟩ := h8
  obtain ⟨x9, e9, l9, -⟩ := h9
  simp at e0 e1 e2 e3 e4 e5 e6 e7 e8 e9
  subst e0 e1 e2 e3 e4 e5 e6 e7 e8 e9
  exact ⟨⟨x0, x1, x2, x3, x4, x5, x6, x7, x8, x9⟩, rfl, l7, l8, l9⟩
structure SchedB (B : Nat) (s : Sched) : Prop where
 a : s.state.length ≤ B
 f : s.fates.length ≤ B
 p : s.steps.length ≤ B
 x : ∀ x ∈ s.steps, StepB B x
theorem tSched {p : PV} (h : TypedV Tryz.prog B 27 p) : ∃ s, p = schedP s ∧ SchedB B s := by
 obtain ⟨n, l, h', rfl⟩ := ty_agg h Tryz.underlying27
 obtain ⟨hl, m, rfl, hf⟩ := ty_struct h' Tryz.underlying27
 rw [cz7] at hl
 match l, hl with
 | [a0, a1, a2, a3, a4, a5, a6], _ =>
  have h0 := tInt (piece hf 0 0 3 cz1 rfl)
  have h1 := tInt (piece hf 1 1 3 cz1 rfl)
  have h2 := tInt (piece hf 2 2 3 cz1 rfl)
  have h3 := tInt (piece hf 3 3 3 cz1 rfl)
  have h4 := tInts (piece hf 4 4 23 czi rfl)
  have h5 := ty_slice (piece hf 5 5 24 czf rfl) Tryz.underlying24 cz3 fateC (fun f => i64 f.delay ∧ i64 f.again) (fun _ _ => rfl) fun m c _ hc => tFate hc
  have h6 := ty_slice (piece hf 6 6 25 czs rfl) Tryz.underlying25 cz10 stepC (StepB B) (fun _ _ => rfl) fun m c _ hc => tStep hc
  obtain ⟨x0, e0, -⟩ := h0
  obtain ⟨x1, e1, -⟩ := h1
  obtain ⟨x2, e2, -⟩ := h2
  obtain ⟨x3, e3, -⟩ := h3
  obtain ⟨x4, e4, l4, -⟩ := h4
  obtain ⟨x5, e5, l5, -⟩ := h5
  obtain ⟨x6, e6, l6, b6⟩ := h6
  simp at e0 e1 e2 e3 e4 e5 e6
  subst e0 e1 e2 e3 e4 e5 e6
  exact ⟨⟨x0, x1, x2, x3, x4, x5, x6⟩, rfl, l4, l5, l6, b6⟩
end
end
section
open Sch
def idxs (p : Step → Bool) : Nat → List Step → List Int
 | _, [] => []
 | i, x :: r => if p x then (i : Int) :: idxs p (i + 1) r else idxs p (i + 1) r
theorem idxs_append (p : Step → Bool) (x : Step) : ∀ (l : List Step) (i : Nat), idxs p i (l ++ [x]) = idxs p i l ++ if p x then [((i + l.length : Nat) : Int)] else []
 | [], i => by
  show idxs p i [x] = [] ++ _
  rw [idxs, idxs, List.nil_append, List.length_nil, Nat.add_zero]
 | y :: r, i => by
  rw [List.cons_append, idxs, idxs, idxs_append p x r (i + 1), List.length_cons, show i + 1 + r.length = i + (r.length + 1) by omega]
  by_cases h : p y = true
  ·rw [if_pos h, if_pos h, List.cons_append]
  ·rw [if_neg h, if_neg h]
theorem idxs_len (p : Step → Bool) : ∀ (l : List Step) (i : Nat), (idxs p i l).length ≤ l.length
 | [], _ => Nat.le_refl _
 | x :: r, i => by
  have := idxs_len p r (i + 1)
  rw [idxs, List.length_cons]
  split
  ·rw [List.length_cons]; omega
  ·omega
theorem idxs_low (p : Step → Bool) : ∀ (l : List Step) (i j : Nat), j < i → (idxs p i l).contains (j : Int) = false
 | [], _, _, _ => rfl
 | x :: r, i, j, h => by
  have ih := idxs_low p r (i + 1) j (by omega)
  rw [idxs]
  split
  ·rw [List.contains_cons, ih, Bool.or_false]
   have : ¬ (j : Int) = (i : Int) := by omega
   simpa using this
  ·exact ih
theorem idxs_has (p : Step → Bool) : ∀ (l : List Step) (i m : Nat), (idxs p i l).contains ((i + m : Nat) : Int) = ((l[m]?).map p).getD false
 | [], _, _ => rfl
 | x :: r, i, 0 => by
  rw [Nat.add_zero, idxs]
  by_cases h : p x = true
  ·rw [if_pos h, List.contains_cons]
   simp [h]
  ·rw [if_neg h, idxs_low p r (i + 1) i (by omega)]
   simp [h]
 | x :: r, i, m + 1 => by
  have ih := idxs_has p r (i + 1) m
  rw [show i + 1 + m = i + (m + 1) by omega] at ih
  rw [idxs, List.getElem?_cons_succ]
  split
  ·rw [List.contains_cons, ih]
   have : ¬ ((i + (m + 1) : Nat) : Int) = (i : Int) := by omega
   rw [show (((i + (m + 1) : Nat) : Int) == (i : Int)) = false by simpa using this, Bool.false_or]
  ·exact ih
theorem pick_filter {acc : Nat → Step → Bool} (q : Step → Bool) : ∀ (l : List Step) (i : Nat), (∀ m x, l[m]? = some x → acc (i + m) x = q x) → pick acc i l = l.filter q
 | [], _, _ => rfl
 | x :: r, i, h => by
  have h0 := h 0 x rfl
  rw [Nat.add_zero] at h0
  have ih := pick_filter q r (i + 1) fun m y hm => by
   have := h (m + 1) y (by rw [List.getElem?_cons_succ]; exact hm)
   rw [show i + (m + 1) = i + 1 + m by omega] at this
   exact this
  rw [pick, h0, ih]
  by_cases hq : q x = true
  ·rw [if_pos hq, List.filter_cons_of_pos hq]
  ·rw [if_neg hq, List.filter_cons_of_neg hq]
theorem stepsAt_filter (s : Sched) (t : Int) : stepsAt s t = s.steps.filter fun x => x.tick == t :=
 pick_filter _ _ _ fun _ _ _ => rfl
theorem without_filter (s : Sched) (p : Step → Bool) : without s (idxs p 0 s.steps) = { s with steps := s.steps.filter fun x => !p x } := by
 unfold without withS
 rw [pick_filter (fun x => !p x) _ _ fun m x hm => ?_]
 have := idxs_has p s.steps 0 m
 rw [this, hm]
 rfl
def upto (s : Sched) : Nat → Nat
 | 0 => 0
 | k + 1 => upto s k + (stepsAt s (k : Int)).length
theorem filter_lt_succ (k : Nat) : ∀ l : List Step, (l.filter fun x => decide (x.tick < ((k + 1 : Nat) : Int))).length = (l.filter fun x => decide (x.tick < (k : Int))).length + (l.filter fun x => x.tick == (k : Int)).length
 | [] => rfl
 | x :: r => by
  have ih := filter_lt_succ k r
  rw [List.filter_cons, List.filter_cons, List.filter_cons]
  by_cases h1 : x.tick < (k : Int)
  ·rw [show decide (x.tick < ((k + 1 : Nat) : Int)) = true from decide_eq_true (by omega), decide_eq_true h1, show (x.tick == (k : Int)) = false from beq_eq_false_iff_ne.mpr (by omega)]
   simp only [if_true, Bool.false_eq_true, if_false, List.length_cons]
   omega
  ·by_cases h3 : x.tick = (k : Int)
   ·rw [show decide (x.tick < ((k + 1 : Nat) : Int)) = true from decide_eq_true (by omega), decide_eq_false h1, show (x.tick == (k : Int)) = true from beq_iff_eq.mpr h3]
    simp only [if_true, Bool.false_eq_true, if_false, List.length_cons]
    omega
   ·rw [show decide (x.tick < ((k + 1 : Nat) : Int)) = false from decide_eq_false (by omega), decide_eq_false h1, show (x.tick == (k : Int)) = false from beq_eq_false_iff_ne.mpr h3]
    simp only [Bool.false_eq_true, if_false]
    omega
theorem upto_filter (s : Sched) (h : ∀ x ∈ s.steps, 0 ≤ x.tick) : ∀ k, upto s k = (s.steps.filter fun x => decide (x.tick < (k : Int))).length
 | 0 => by
  show 0 = _
  rw [List.filter_eq_nil_iff.mpr fun x hx => by have := h x hx; simpa using this]
  rfl
 | k + 1 => by rw [upto, upto_filter s h k, stepsAt_filter, filter_lt_succ]
theorem upto_le (s : Sched) : ∀ k, upto s k ≤ k * s.steps.length
 | 0 => Nat.zero_le _
 | k + 1 => by
  have := upto_le s k
  have h2 : (stepsAt s (k : Int)).length ≤ s.steps.length := by rw [stepsAt_filter]; exact List.length_filter_le _ _
  rw [upto, Nat.succ_mul]
  omega
theorem ticks_of (s : Sched) : ∀ (l done : List Step), stepsOk s done l = true → ∀ x ∈ l, 0 ≤ x.tick ∧ x.tick ≤ s.ticks - 1
 | y :: r, done, h, x, hx => by
  rw [stepsOk, Bool.and_eq_true] at h
  cases hx with
  | head =>
   have h1 := h.1
   simp only [follows, between, Bool.and_eq_true, decide_eq_true_eq] at h1
   exact h1.1.1.2
  | tail _ hx => exact ticks_of s r _ h.2 x hx
theorem valid_ticks {s : Sched} (h : valid s = true) : 0 ≤ s.ticks ∧ ∀ x ∈ s.steps, 0 ≤ x.tick ∧ x.tick < s.ticks := by
 simp only [valid, head, between, Bool.and_eq_true, decide_eq_true_eq] at h
 refine ⟨h.1.1.1.1.1.2.1, fun x hx => ?_⟩
 have := ticks_of s _ _ h.2 x hx
 omega
structure SplitsLaw (s : Sched) (t : Int) : Prop where
 all : upto s s.ticks.toNat = s.steps.length
 none : stepsAt (without s (idxs (fun x => x.tick == t) 0 s.steps)) t = []
 sum : (without s (idxs (fun x => x.tick == t) 0 s.steps)).steps.length + (without s (idxs (fun x => !(x.tick == t)) 0 s.steps)).steps.length = s.steps.length
 own : (stepsAt (without s (idxs (fun x => !(x.tick == t)) 0 s.steps)) t).length = (without s (idxs (fun x => !(x.tick == t)) 0 s.steps)).steps.length
 same : (without s (idxs (fun x => !(x.tick == t)) 0 s.steps)).steps.length = (stepsAt s t).length
 till : till s s.ticks = s
theorem filter_two (p : Step → Bool) : ∀ l : List Step, (l.filter fun x => !p x).length + (l.filter fun x => p x).length = l.length
 | [] => rfl
 | x :: r => by
  have ih := filter_two p r
  rw [List.filter_cons, List.filter_cons]
  cases h : p x
  ·simp
   omega
  ·simp
   omega
theorem splits_law {s : Sched} (h : valid s = true) (t : Int) : SplitsLaw s t := by
 obtain ⟨h0, h1⟩ := valid_ticks h
 have w1 := without_filter s (fun x => x.tick == t)
 have w2 := without_filter s (fun x => !(x.tick == t))
 simp only [Bool.not_not] at w2
 refine ⟨?_, ?_, ?_, ?_, ?_, ?_⟩
 ·rw [upto_filter s (fun x hx => (h1 x hx).1), Int.toNat_of_nonneg h0, List.filter_eq_self.mpr fun x hx => by simpa using (h1 x hx).2]
 ·rw [w1, stepsAt_filter]
  simp
 ·rw [w1, w2]
  exact filter_two (fun x => x.tick == t) s.steps
 ·rw [w2, stepsAt_filter]
  simp
 ·rw [w2, stepsAt_filter]
 ·have hu : upTick s s.ticks = s.ticks := by unfold upTick; split <;> split <;> omega
  unfold Pur.till withS
  rw [hu, pick_filter (fun x => decide (x.tick < s.ticks)) _ _ fun _ _ _ => rfl, List.filter_eq_self.mpr fun x hx => by simpa using (h1 x hx).2]
end
end Pur
end Go.Proofs.YteokbngllldmdaaGreatDoor
namespace Go.Proofs.YteokbngllldmdaaGreatDoor
namespace Pur
open Go.RowKit
attribute [local go_sem] evOps evOp evOpV evRun evK argF List.map hintAt stripped get put tmpsOf tmpOf tmpO tmpL tmpP conds ev cond_true cond_false Nat.beq Nat.ble Nat.add quiet After thenR blockR IfD List.append_eq List.nil_append List.cons_append evInt exactI_a exactI_b exactI_c exactI_d exactI_e exactI_f evBin evStr evBool evUn guardC calm quiet.isCallK evPick List.getElem?_cons_zero List.getElem?_cons_succ fromCells fromPVs cellsOf List.all oneCell List.length_cons List.length_nil mkAgg plains List.drop List.take List.getD Option.getD_some bo1 bo2 ba1 ba2 bn1 bn2 kk_i64 kk_u8 kk_i32 kk_u64 setAt List.set Nat.reduceAdd Nat.reduceMul evCall safeCall refsOf refsIn scalarA scalar scalarL thawL mapAll thawArg thawRef after freeze RetD RetE evResult evRess evRes1 thaw_pv mkTup nilOf_a nilOf_b nilOf_bb nilOf_c nilOf_d nilOf_e nilOf_f nilOf_g nilOf_h nilOf_i nilOf_j nilOf_k nilOf_l nilOf_m eqLeaf_a eqLeaf_b eqLeaf_c eqOffs evMM bytesOf evOpsF AfterF footOf footRefs notIn indepF footAt freeOk still evParts fillA zeros intOfA boundA srcOf List.isEmpty appNil_0 appNil_1 appNil_2 Int.reduceToNat Nat.mul_one Nat.reduceSub evC evOpsT evOpsTF autoH tabHint look hintD strip guarded RetPD RetRD mpLen keysOk leafKA leafK bitI nilOf_n nilOf_o Bool.or_false Bool.or_true Bool.and_true Bool.and_false Nat.blt renF renM renB renV idxOf solF solM solA solV thawRef ev1
section
open Go.Shelf
theorem lies_one {P : Program} {T : TypeId} {c : Nat} (hd : P.depth ≠ 0) (hc : P.cellsOf T = 2) (h : 2 ≤ c) : liesAt P P.depth T (c / P.cellsOf T) 0 T 1 = true := by
 obtain ⟨d, hd⟩ := Nat.exists_eq_succ_of_ne_zero hd
 have h1 : sameLayout P P.depth T T = true := by rw [hd]; simp [sameLayout]
 have h2 : rowAt P (sameLayout P P.depth · T) P.depth T (c / P.cellsOf T) 0 1 = true := by
  rw [hc]
  have : 1 ≤ c / 2 := by omega
  rw [hd] at h1 ⊢
  simp [rowAt, hc, this, h1]
 rw [hd] at h2 ⊢
 simp only [liesAt]
 rw [hd]
 simp [h2]
set_option maxHeartbeats 1000000 in
set_option maxRecDepth 100000 in
theorem copyCheck_fresh {P : Program} {ρ : Ren} (L : Go.Proofs.Lays.n240 P ρ) (X : Builder.X72 P ρ) (hd : P.depth ≠ 0) (hc2 : P.cellsOf (ρ.t 72) = 2) (b c : Nat) (hc : 2 ≤ c) (w : World) (h0 : w.cell? ⟨b, 0, none⟩ = some (.pointer none)) (hsh : w.shape? b = some ((ρ.t 72), c)) (hfz : w.frozen? ⟨b, 0, none⟩ = false) :
  Calls P (ρ.f 240) #[.pointer (some ⟨b, 0, none⟩)] w fun e w' => e = .returned (.tuple #[]) ∧ w' = w.setCell ⟨b, 0, none⟩ (.pointer (some ⟨b, 0, none⟩)) := by
 obtain ⟨j, hj, hjs⟩ := Option.map_eq_some_iff.1 X.sizeBuilder
 have mixed := L.mixed
 have t72 := L.t72; have a72 := L.a72; have z72 := L.z72; have v72 := L.v72; have u72 := run_underlying L.t72
 have t70 := L.t70; have a70 := L.a70; have z70 := L.z70; have v70 := L.v70; have u70 := run_underlying L.t70
 have t9 := L.t9; have a9 := L.a9; have z9 := L.z9; have v9 := L.v9; have u9 := run_underlying L.t9
 have t4 := L.t4; have a4 := L.a4; have z4 := L.z4; have v4 := L.v4; have u4 := run_underlying L.t4
 have t164 := L.t164; have a164 := L.a164; have z164 := L.z164; have v164 := L.v164; have u164 := run_underlying L.t164
 go_enter L.f240, Go.Proofs.Body.n240_ntmps ρ
 go_wp2
 rw [Lib.run_to_unsafe w ⟨b, 0, none⟩ L.t70 L.t164 hj (by rw [hjs]; decide) hsh (Nat.lt_of_lt_of_le Nat.zero_lt_two hc)]
 simp only [Result.andThen]
 rw [Oper.upon_value]
 go_wp2
 rw [run_callFunc_extern L.f276 (by kernel_rfl) (by kernel_rfl) (by kernel_rfl) (e := Extern.AbiNoEscape.same) (by kernel_rfl)]
 rw [Lib.run_noEscape]
 simp only [Result.andThen]
 rw [Oper.upon_value]
 go_wp2
 rw [Lib.run_from_unsafe w ⟨b, 0, none⟩ L.t164 L.t70 hj hsh (lies_one hd hc2 hc)]
 simp only [Result.andThen]
 rw [Oper.upon_value]
 go_wp2
 go_end0
 exact ⟨rfl, rfl⟩
theorem pw_one {α β : Type} {R : α → β → Prop} {a : α} {m : List β} (h : PW R [a] m) : ∃ b, m = [b] ∧ R a b := by
 obtain ⟨hl, hat⟩ := h
 match m, hl with
 | [b], _ => exact ⟨b, rfl, hat 0 a b rfl rfl⟩
def bldB (x y : AV) (g : Nat) : Blk := ⟨[x, y], g, 2, 80, false⟩
set_option maxHeartbeats 1000000 in
theorem copyCheck_first {μ : AM} {b g : Nat} {y : AV} (hk : μ[b]? = some (bldB (.pv (.val (.pointer none))) y g)) : RefOK ctx 81 [.ptr b g 0] μ (.pv (.tup [])) (μ.set b (bldB (.ptr b g 0) y g)) := by
 refine ⟨by kernel_rfl, fun w0 S γ w vs hW hp => ?_⟩
 obtain ⟨v, rfl, hv⟩ := pw_one hp
 obtain ⟨e, cs, he, hgen, hsz, hheap, hcs, hlen, hcells, hB, hS⟩ := hW.mem.blk b _ hk (by simp [bldB])
 replace hheap := hheap.free rfl
 have hxv : v = .pointer (some ⟨e.cb, 0, none⟩) := by
  cases hv with
  | ptr _ _ _ _ e' ad hb hg' hv' hs' =>
   rw [he] at hb; injection hb with hb; subst hb
   exact hs' hgen.symm
 subst hxv
 obtain ⟨v0, c0, r0, -⟩ := hcells 0 _ rfl
 obtain ⟨v1, c1, r1, o1⟩ := hcells 1 _ rfl
 have r0 := inv_val r0
 subst r0
 have hcs2 : 2 ≤ cs.size := by have : 2 ≤ e.cap := hlen; omega
 have hcell : w.cell? ⟨e.cb, 0, none⟩ = some (.pointer none) := by simp [World.cell?, hheap, c0]
 have hshape : w.shape? e.cb = some (80, cs.size) := by simp [World.shape?, hheap]; rfl
 have hcall := copyCheck_fresh { Tryz.lays165 with } Tryz.Builder_Extra_165.toX72 (by decide) (by kernel_rfl) e.cb cs.size hcs2 w hcell hshape (Lib.frozen_of_heap hheap 0)
 refine hcall.mono ?_
 rintro e' w' ⟨rfl, rfl⟩
 rw [setCell_eq_setRow w e.cb 0 cs _ _ _ hheap]
 obtain ⟨hW', hE⟩ := hW.write hk he hheap hcs (by simp [bldB]) rfl (avs := [.ptr b g 0, y]) (ncs := cs.setIfInBounds 0 (.pointer (some ⟨e.cb, 0, none⟩))) (by simp) (by simp; omega) fun i x hx => by
  match i, hx with
  | 0, hx =>
   injection hx with hx; subst hx
   exact ⟨_, by rw [Array.getElem?_setIfInBounds_self_of_lt (by omega)], hv, rfl⟩
  | 1, hx =>
   injection hx with hx; subst hx
   exact ⟨v1, by rw [Array.getElem?_setIfInBounds_ne (by decide)]; exact c1, r1, o1⟩
  | i + 2, hx => simp at hx
 exact ⟨_, S, γ, rfl, hE, hW', .pv _ _ (.tup _ _ rfl (fun i p c h => by simp at h))⟩
set_option maxHeartbeats 1000000 in
theorem copyCheck_again {μ : AM} {b g : Nat} {y : AV} (hk : μ[b]? = some (bldB (.ptr b g 0) y g)) : RefOK ctx 81 [.ptr b g 0] μ (.pv (.tup [])) μ := by
 refine ⟨by kernel_rfl, fun w0 S γ w vs hW hp => ?_⟩
 obtain ⟨v, rfl, hv⟩ := pw_one hp
 obtain ⟨e, cs, he, hgen, hsz, ⟨_, hheap, -⟩, hcs, hlen, hcells, hB, hS⟩ := hW.mem.blk b _ hk (by simp [bldB])
 have ptrv : ∀ {u : Value}, VR w S γ (.ptr b g 0) u → u = .pointer (some ⟨e.cb, 0, none⟩) := fun {u} hv => by
  cases hv with
  | ptr _ _ _ _ e' ad hb hg' hv' hs' =>
   rw [he] at hb; injection hb with hb; subst hb
   exact hs' hgen.symm
 have hxv := ptrv hv
 subst hxv
 obtain ⟨v0, c0, r0, -⟩ := hcells 0 _ rfl
 have r0 := ptrv r0
 subst r0
 have hcell : w.cell? ⟨e.cb, 0, none⟩ = some (.pointer (some ⟨e.cb, 0, none⟩)) := by simp [World.cell?, hheap, c0]
 have hcall := Go.Proofs.Any.Builder_copyCheck_used { Tryz.lays165 with } Tryz.Builder_Extra_165.toX72 e.cb w hcell
 refine hcall.mono ?_
 rintro e' w' ⟨rfl, rfl⟩
 exact ⟨_, S, γ, rfl, .refl _ _ _, hW, .pv _ _ (.tup _ _ rfl (fun i p c h => by simp at h))⟩
def c43 : ACode := (⟨_, by conv => (lhs; reduce; try simp only [lt1, Int.cast_ofNat_Int, Int.reduceNegSucc, UInt8.reduceOfNat])⟩ : {x // codeOf Tryz.prog 43 (fun _ => false) = some x}).1
theorem fn43 : fnOf Tryz.prog 43 (fun _ => false) = some (c43, [.t 4, .t 5], 19, true) := by kernel_rfl
def rowB (l : List UInt8) (j : Nat) : Blk := ⟨byteA l, j, 1, 5, false⟩
theorem okMem_set {μ : AM} {m b : Nat} {k : Blk} (h : okMem μ m = true) (hk : k.cells.all (bnd 3 m) = true) : okMem (μ.set b k) m = true := by
 unfold okMem at *
 rw [List.all_eq_true] at h ⊢
 intro x hx
 rcases List.mem_or_eq_of_mem_set hx with h1 | h1
 ·exact h x h1
 ·subst h1; exact hk
theorem bnd_more : ∀ (d : Nat) {v : AV} {m m' : Nat}, m ≤ m' → bnd d m v = true → bnd d m' v = true := by
 intro d
 induction d with
 | zero =>
  intro v m m' hmm h
  cases v <;> simp only [bnd] at h ⊢ <;> first | exact h | (have := Nat.blt_eq.mp h; exact Nat.blt_eq.mpr (by omega))
 | succ d ih =>
  intro v m m' hmm h
  cases v <;> simp only [bnd] at h ⊢ <;> first
   | exact h
   | (have := Nat.blt_eq.mp h; exact Nat.blt_eq.mpr (by omega))
   | (rw [List.all_eq_true] at h ⊢; exact fun x hx => ih hmm (h x hx))
   | exact ih hmm h
theorem okMem_add {μ : AM} {k : Blk} {m : Nat} (h : okMem μ m = true) (hk : k.cells.all (bnd 3 m) = true) : okMem (μ ++ [k]) m = true := by
 unfold okMem at *
 rw [List.all_append, h]
 simpa using hk
theorem byteA_bnd (l : List UInt8) (m : Nat) : (byteA l).all (bnd 3 m) = true := by
 rw [List.all_eq_true]
 intro x hx
 simp only [byteA, List.mem_map] at hx
 obtain ⟨c, -, rfl⟩ := hx
 rfl
theorem okMem_more {μ : AM} {m m' : Nat} (h : okMem μ m = true) (hm : m ≤ m') : okMem μ m' = true := by
 unfold okMem at *
 rw [List.all_eq_true] at *
 intro k hk
 have := h k hk
 rw [List.all_eq_true] at *
 exact fun x hx => bnd_more 3 hm (this x hx)
set_option maxHeartbeats 2000000 in
theorem write_first {μ : AM} (hμ : okMem μ μ.length = true) {b g : Nat} (hk : μ[b]? = some (bldB (.pv (.val (.pointer none))) (.pv .nilsl) g)) (l : List UInt8) (hl : 1 ≤ l.length) (hl2 : l.length ≤ 140737488355328) :
  RefOK ctx 43 [.ptr b g 0, .pv (.str l)] μ (.pv (.tup [.int .i64 l.length, .val .nilIface])) (μ.set b (bldB (.ptr b g 0) (.ref μ.length 0 0 l.length) g) ++ [rowB l 0]) := by
 have h := copyCheck_first hk
 have hb : b < μ.length := (List.getElem?_eq_some_iff.mp hk).1
 refine ref_body' (C := ctx) (Fn.of fn43 rfl) rfl (by simp) rfl ?_ ?_
 ·refine okMem_add (okMem_set (okMem_more hμ (by simp)) ?_) (byteA_bnd l _)
  simp [bldB, bnd, Nat.blt]
  omega
 unfold c43
 refine evA ?_
 dsimp only [go_sem]
 try dsimp only [go_sem]
 refine ⟨(by simp [vb] <;> omega), (by simp [vb] <;> omega), ?_⟩
 refine evH [(7, { val := some (.pv (.tup [])), mem := some (μ.set b (bldB (.ptr b g 0) (.pv .nilsl) g)) })] ?_
 dsimp only [go_sem]
 try dsimp only [go_sem]
 refine ⟨(by simp [vb] <;> omega), ?_, ?_⟩
 ·exact ⟨h, trivial⟩
 have hk1 : ∀ x, (μ.set b x)[b]? = some x := fun x => by rw [List.getElem?_set_self hb]
 have hs1 : ∀ x y, (μ.set b x ++ [y])[b]? = some x := fun x y => by rw [List.getElem?_append_left (by simpa using hb), List.getElem?_set_self hb]
 have hs2 : ∀ x y z, (μ.set b x ++ [y]).set b z = μ.set b z ++ [y] := fun x y z => by rw [List.set_append_left _ _ (by simpa using hb), List.set_set]
 refine evH [(14, { mode := 1 })] ?_
 simp only [hk1, hs1, hs2, bldB, List.length_set, mem2_get, mem2_last, mem2_set0, mem2_set1, mem_last, mem_set, mem_len, go_sem]
 try simp only [hk1, hs1, hs2, bldB, List.length_set, mem2_get, mem2_last, mem2_set0, mem2_set1, mem_last, mem_set, mem_len, go_sem]
 refine ⟨(by simp [vb] <;> omega), (by simp [vb] <;> omega), ?_⟩
 refine evA ?_
 dsimp only [go_sem]
 try dsimp only [go_sem]
 refine ⟨(by simp [vb] <;> omega), (by simp [vb] <;> omega), ?_⟩
 refine evA ?_
 dsimp only [go_sem]
 exact ⟨⟨(by first | exact True.intro | (simp only [vb, lb]; omega) | (simp [vb] <;> omega)), rfl⟩, [], (List.append_nil _).symm⟩
set_option maxHeartbeats 2000000 in
theorem write_more {μ : AM} (hμ : okMem μ μ.length = true) {b g r j : Nat} {old : List UInt8} (hne : r ≠ b) (hk : μ[b]? = some (bldB (.ptr b g 0) (.ref r j 0 old.length) g)) (hr : μ[r]? = some (rowB old j)) (l : List UInt8) (hl2 : old.length + l.length ≤ 140737488355328) :
  RefOK ctx 43 [.ptr b g 0, .pv (.str l)] μ (.pv (.tup [.int .i64 l.length, .val .nilIface])) ((μ.set r (rowB (old ++ l) (j + 1))).set b (bldB (.ptr b g 0) (.ref r (j + 1) 0 (old.length + l.length)) g)) := by
 have h := copyCheck_again hk
 have hb : b < μ.length := (List.getElem?_eq_some_iff.mp hk).1
 have hrl : r < μ.length := (List.getElem?_eq_some_iff.mp hr).1
 refine ref_body' (C := ctx) (Fn.of fn43 rfl) rfl (by simp) rfl ?_ ?_
 ·refine okMem_set (okMem_set (okMem_more hμ (by simp)) (byteA_bnd _ _)) ?_
  simp [bldB, bnd, Nat.blt]
  omega
 unfold c43
 refine evA ?_
 dsimp only [go_sem]
 try dsimp only [go_sem]
 refine ⟨(by simp [vb] <;> omega), (by simp [vb] <;> omega), ?_⟩
 refine evH [(7, { val := some (.pv (.tup [])), mem := some μ })] ?_
 dsimp only [go_sem]
 try dsimp only [go_sem]
 refine ⟨(by simp [vb] <;> omega), ?_, ?_⟩
 ·exact ⟨h, trivial⟩
 unfold bldB at hk
 unfold rowB at hr
 have hs1 : ∀ x, (μ.set r x)[b]? = μ[b]? := fun x => by rw [List.getElem?_set_ne hne]
 have hap : byteA old ++ byteA l = byteA (old ++ l) := by simp [byteA]
 have hol : (byteA old).length = old.length := byteA_len old
 refine evA ?_
 simp only [hk, hr, hs1, hap, mem2_get, mem2_last, mem2_set0, mem2_set1, mem_last, mem_set, mem_len, go_sem]
 try simp only [hk, hr, hs1, hap, mem2_get, mem2_last, mem2_set0, mem2_set1, mem_last, mem_set, mem_len, go_sem]
 refine ⟨(by simp [vb, hol] <;> omega), (by simp [vb, hol] <;> omega), ?_⟩
 refine evA ?_
 dsimp only [go_sem]
 try dsimp only [go_sem]
 refine ⟨(by simp [vb] <;> omega), (by simp [vb] <;> omega), ?_⟩
 refine evA ?_
 dsimp only [go_sem]
 exact ⟨⟨(by first | exact True.intro | (simp only [vb, lb]; omega) | (simp [vb] <;> omega)), rfl⟩, [], (List.append_nil _).symm⟩
def c46 : ACode := (⟨_, by conv => (lhs; reduce; try simp only [lt1, Int.cast_ofNat_Int, Int.reduceNegSucc, UInt8.reduceOfNat])⟩ : {x // codeOf Tryz.prog 46 (fun _ => false) = some x}).1
theorem fn46 : fnOf Tryz.prog 46 (fun _ => false) = some (c46, [.t 2], 8, true) := by kernel_rfl
theorem blen_ok {μ : AM} (hμ : okMem μ μ.length = true) {b g r j n : Nat} {x : AV} (hk : μ[b]? = some (bldB x (.ref r j 0 n) g)) :
  RefOK ctx 46 [.ptr b g 0] μ (.pv (.int .i64 n)) μ := by
 refine ref_body' (C := ctx) (Fn.of fn46 rfl) rfl (by simp) rfl hμ ?_
 unfold c46
 unfold bldB at hk
 refine evA ?_
 dsimp only [go_sem]
 try dsimp only [go_sem]
 refine ⟨(by simp [vb] <;> omega), (by simp [vb] <;> omega), ?_⟩
 refine evA ?_
 simp only [hk, mem2_get, mem2_last, mem2_set0, mem2_set1, mem_last, mem_set, mem_len, go_sem]
 try simp only [hk, mem2_get, mem2_last, mem2_set0, mem2_set1, mem_last, mem_set, mem_len, go_sem]
 refine ⟨(by simp [vb] <;> omega), (by simp [vb] <;> omega), ?_⟩
 refine evA ?_
 dsimp only [go_sem]
 exact ⟨⟨(by first | exact True.intro | (simp only [vb, lb]; omega) | (simp [vb] <;> omega)), rfl⟩, [], (List.append_nil _).symm⟩
set_option maxHeartbeats 1000000 in
set_option maxRecDepth 100000 in
theorem string_at {P : Program} {ρ : Ren} (L : Go.Proofs.Lays.n169 P ρ) (X : Builder.Extra P ρ) (b g cap : Nat) (cur : Array Value) (l : List UInt8) (w : World) (h0 : l ≠ [])
  (hc1 : w.cell? ⟨b, 1, none⟩ = some (.slice (some ⟨g, 0, none⟩) l.length cap)) (hg : w.heap[g]? = some (.cells cur (ρ.t 5) (0, 0))) (hcap : l.length ≤ cap) (hcm : cap ≤ maxLen) (hcur : l.length ≤ cur.size)
  (hcells : ∀ (j : Nat) x, l[j]? = some x → cur[j]? = some (.int .u8 x.toNat)) :
  Calls P (ρ.f 169) #[.pointer (some ⟨b, 0, none⟩)] w fun e w' => e = .returned (.string ⟨l.toArray⟩) ∧ w' = w.drew.freeze ⟨g, 0, none⟩ l.length := by
 have hl0 : l.length ≠ 0 := by simpa using h0
 have c1 : w.drew.cell? ⟨b, 1, none⟩ = some (.slice (some ⟨g, 0, none⟩) l.length cap) := hc1
 have hSD : (Builtin.unsafeSliceData_ #[(ρ.t 37)] (ρ.t 127) #[.slice (some ⟨g, 0, none⟩) l.length cap]).run P w.drew = .ok (.pointer (some ⟨g, 0, none⟩)) w.drew :=
  Lib.run_unsafeSliceData_row _ _ _ _ _ _ (by omega)
 have hUS : (Builtin.unsafeString_ #[(ρ.t 127), (ρ.t 3)] (ρ.t 9) #[.pointer (some ⟨g, 0, none⟩), .int .i64 l.length]).run P w.drew = .ok (.string ⟨l.toArray⟩) (w.drew.freeze ⟨g, 0, none⟩ l.length) := by
  refine Lib.run_unsafeString_row w.drew (ρ.t 127) (ρ.t 3) (ρ.t 9) (ρ.t 5) L.t127 X.cellsByte g cur.size (by have hg' : w.drew.heap[g]? = some (.cells cur (ρ.t 5) (0, 0)) := hg; simp [World.shape?, hg']) l h0 (by omega) (by unfold maxLen at hcm; omega) ?_
  intro j x hx
  have hg' : w.drew.heap[g]? = some (.cells cur (ρ.t 5) (0, 0)) := hg
  rw [Addr.add_lit, Nat.zero_add]
  simp [World.cell?, hg', hcells j x hx]
 have mixed := L.mixed
 have t72 := L.t72; have a72 := L.a72; have z72 := L.z72; have v72 := L.v72; have u72 := run_underlying L.t72
 have t70 := L.t70; have a70 := L.a70; have z70 := L.z70; have v70 := L.v70; have u70 := run_underlying L.t70
 have t37 := L.t37; have a37 := L.a37; have z37 := L.z37; have v37 := L.v37; have u37 := run_underlying L.t37
 have t127 := L.t127; have a127 := L.a127; have z127 := L.z127; have v127 := L.v127; have u127 := run_underlying L.t127
 have t3 := L.t3; have a3 := L.a3; have z3 := L.z3; have v3 := L.v3; have u3 := run_underlying L.t3
 have t9 := L.t9; have a9 := L.a9; have z9 := L.z9; have v9 := L.v9; have u9 := run_underlying L.t9
 have t5 := X.t5; have a5 := X.a5; have z5 := X.z5; have v5 := X.v5; have u5 := run_underlying X.t5
 go_enter L.f169, Go.Proofs.Body.n169_ntmps ρ
 go_wp2
 go_region_o
 all_goals (go_wp2; go_ret; exact ⟨rfl, rfl⟩)
theorem Wd.froze {C : Ctx} {w0 w : World} {S : Nat → Prop} {γ : Gh} {μ : AM} (hW : Wd C w0 S γ μ w) {b : Nat} {k : Blk} {e : Ent} {cs : Array Value} {w' : World} {fz : Nat × Nat} (hk : μ[b]? = some k) (he : γ b = some e) (hheap : w.heap[e.cb]? = some (.cells cs k.elem (0, 0))) (hz : k.sz ≠ 0) (hfz : k.frozen = false)
  (hos : w'.os = w.os) (htape : w'.tape = w.tape) (hout : w'.output = w.output) (hsize : w.heap.size = w'.heap.size) (hblk : ∀ g, g ≠ e.cb → w'.heap[g]? = w.heap[g]?) (hrow : w'.heap[e.cb]? = some (.cells cs k.elem fz)) :
  Wd C w0 S γ (μ.set b { k with frozen := true }) w' ∧ Ext w S γ w' S γ := by
 obtain ⟨e', cs', he', hgen, hsz, hheap', hcs', hlen', hcells, hB, hS⟩ := hW.mem.blk b k hk hz
 rw [he] at he'; injection he' with he'; subst he'
 replace hheap' := hheap'.free hfz
 rw [hheap] at hheap'; injection hheap' with hheap'; injection hheap' with hheap'; subst hheap'
 have hE : Ext w S γ w' S γ := ⟨⟨fun _ h => h, fun g hg => hblk g (fun h => hS hfz (h ▸ hg))⟩, fun b e h => ⟨e, h, Nat.le_refl _, fun _ => rfl⟩, fun _ h => .inl h, fun b e h => .inl ⟨b, e, h, rfl⟩, by omega⟩
 refine ⟨⟨⟨fun b' k' hk' hz' => ?_, fun b' k' hk' hz' => ?_, fun b' hb' => hW.mem.none b' (by simpa using hb'), hW.mem.inj⟩, ?_, fun g hg => by have := hW.live g hg; omega, hW.env⟩, hE⟩
 ·by_cases hbb : b = b'
  ·subst hbb
   have hbl : b < μ.length := (List.getElem?_eq_some_iff.mp hk).1
   rw [List.getElem?_set_self hbl] at hk'
   injection hk' with hk'
   subst hk'
   exact ⟨e, cs, he, hgen, hsz, ⟨fz, hrow, fun h => by cases h⟩, hcs', hlen', fun i x hx => by
    obtain ⟨v, h1, h2, h3⟩ := hcells i x hx
    exact ⟨v, h1, h2.ext hE, h3⟩, hB, fun h => by cases h⟩
  ·rw [List.getElem?_set_ne hbb] at hk'
   obtain ⟨e2, cs2, h1, h2, h3, h4, h5, h6, h7, h8, h9⟩ := hW.mem.blk b' k' hk' hz'
   have hne : e2.cb ≠ e.cb := fun h => hbb (hW.mem.inj b b' e e2 he h1 h.symm)
   exact ⟨e2, cs2, h1, h2, h3, h4.congr (hblk e2.cb hne) rfl id, h5, h6, fun i x hx => by
    obtain ⟨v, g1, g2, g3⟩ := h7 i x hx
    exact ⟨v, g1, g2.ext hE, g3⟩, h8, h9⟩
 ·have hbb : b ≠ b' := fun h => by
   subst h
   have hbl : b < μ.length := (List.getElem?_eq_some_iff.mp hk).1
   rw [List.getElem?_set_self hbl] at hk'
   injection hk' with hk'
   subst hk'
   exact hz hz'
  rw [List.getElem?_set_ne hbb] at hk'
  obtain ⟨e2, h1, h2, h3, h4, h5, h6⟩ := hW.mem.mp b' k' hk' hz'
  have hne : e2.cb ≠ e.cb := fun h => hbb (hW.mem.inj b b' e e2 he h1 h.symm)
  exact ⟨e2, h1, h2, h3, h4.ext hE (hblk e2.cb hne), h5, h6⟩
 ·exact hW.below.trans ⟨hos, htape, hout, by omega, fun g hg => hblk g (by omega)⟩
set_option maxHeartbeats 1000000 in
theorem bstring_ok {μ : AM} {b g r j : Nat} {x : AV} {l : List UInt8} (h0 : l ≠ []) (hk : μ[b]? = some (bldB x (.ref r j 0 l.length) g)) (hr : μ[r]? = some (rowB l j)) :
  RefOK ctx 47 [.ptr b g 0] μ (.pv (.str l)) (μ.set r { rowB l j with frozen := true }) := by
 refine ⟨by kernel_rfl, fun w0 S γ w vs hW hp => ?_⟩
 obtain ⟨v, rfl, hv⟩ := pw_one hp
 obtain ⟨e, cs, he, hgen, hsz, ⟨_, hheap, -⟩, hcs, hlen, hcells, hB, hS⟩ := hW.mem.blk b _ hk (by simp [bldB])
 have hxv : v = .pointer (some ⟨e.cb, 0, none⟩) := by
  cases hv with
  | ptr _ _ _ _ e' ad hb hg' hv' hs' =>
   rw [he] at hb; injection hb with hb; subst hb
   exact hs' hgen.symm
 subst hxv
 obtain ⟨er, cur, he2, hgen2, hsz2, hheap2, hcs2, hlen2, hcells2, hB2, hS2⟩ := hW.mem.blk r _ hr (by simp [rowB])
 replace hheap2 := hheap2.free rfl
 obtain ⟨v1, c1, r1, -⟩ := hcells 1 _ rfl
 have hll : l.length ≠ 0 := by simpa using h0
 obtain ⟨cap, hv1, hcapc, hncap, hcapm⟩ : ∃ cap, v1 = .slice (some ⟨er.cb, 0, none⟩) l.length cap ∧ 0 + cap * er.sz = er.cap ∧ l.length ≤ cap ∧ cap ≤ maxLen := by
  cases r1 with
  | ref _ _ _ _ _ e' ad c hb hg' hvc' hs' =>
   rw [he2] at hb; injection hb with hb; subst hb
   rcases hs' hgen2.symm with h | ⟨-, h, -⟩
   ·exact h
   ·exact absurd h (by simp [rowB])
 subst hv1
 have hcell : w.cell? ⟨e.cb, 1, none⟩ = some (.slice (some ⟨er.cb, 0, none⟩) l.length cap) := by simp [World.cell?, hheap, c1]
 have hbl : (byteA l).length ≤ er.cap := hlen2
 rw [byteA_len] at hbl
 have hcall := string_at { Tryz.lays169 with } Tryz.Builder_Extra_169 e.cb er.cb cap cur l w h0 hcell hheap2 hncap hcapm (by omega) fun j x hx => by
  obtain ⟨u, h1, h2, -⟩ := hcells2 j (.pv (.int .u8 x.toNat)) (by simp [rowB, byteA, hx])
  have h3 := inv_pv h2
  cases h3
  exact h1
 refine hcall.mono ?_
 rintro e' w' ⟨rfl, rfl⟩
 obtain ⟨hW1, hE1⟩ := hW.drew
 have hfz : (w.drew.freeze ⟨er.cb, 0, none⟩ l.length).heap[er.cb]? = some (.cells cur 5 (0, 0 + l.length)) := by
  have hg' : w.drew.heap[er.cb]? = some (.cells cur 5 (0, 0)) := hheap2
  unfold World.freeze
  rw [if_neg hll]
  simp [Array.getElem?_modify, hg']
 obtain ⟨hW2, hE2⟩ := Wd.froze hW1 (fz := (0, 0 + l.length)) (w' := w.drew.freeze ⟨er.cb, 0, none⟩ l.length) hr he2 hheap2 (by simp [rowB]) rfl (by unfold World.freeze; rw [if_neg hll]) (by unfold World.freeze; rw [if_neg hll]) (by unfold World.freeze; rw [if_neg hll]) (by unfold World.freeze; rw [if_neg hll]; simp) (fun g hg => by
  unfold World.freeze
  rw [if_neg hll]
  simp only [Array.getElem?_modify]
  rw [if_neg (fun h => hg h.symm)]) hfz
 exact ⟨_, S, γ, rfl, hE1.trans hE2, hW2, .pv _ _ (.str l)⟩
end
section
open Sch
theorem trim_ok (s p : List UInt8) (hs : s.length ≤ 9223372036854775807) : PureOK ctx 84 [.str s, .str p] (.str (Lib.trimSuffix s p)) := by
 refine PureOK.of_calls (by kernel_rfl) fun w S vs hE hS hp => ?_
 obtain ⟨v, u, rfl, hv, hu⟩ := pw2 hp
 have hv := is_str_inv hv
 have hu := is_str_inv hu
 subst hv hu
 refine (Tryz.strings_TrimSuffix ⟨s.toArray⟩ ⟨p.toArray⟩ w (by simpa [ByteArray.size] using hs)).mono fun e w' ⟨he, hw⟩ => ⟨_, he, ?_, fun _ _ => .str _⟩
 subst hw
 exact Below.refl _ _
theorem trim_line (l : List UInt8) : Lib.trimSuffix (l ++ [10]) [10] = l := by
 have : Lib.hasSuffix (l ++ [10]) [10] = true := by simp [Lib.hasSuffix]
 simp [Lib.trimSuffix, this]
def c83 : ACode := (⟨_, by conv => (lhs; reduce; try simp only [lt1, Int.cast_ofNat_Int, Int.reduceNegSucc, UInt8.reduceOfNat])⟩ : {x // codeOf Tryz.prog 83 (fun _ => false) = some x}).1
theorem fn83 : fnOf Tryz.prog 83 (fun _ => false) = some (c83, [], 7, true) := by kernel_rfl
theorem written1_ok {μ : AM} (hμ : okMem μ μ.length = true) {c g : Nat} {w : List UInt8} (hk : μ[c]? = some ⟨[.pv (.str w)], g, 1, 9, false⟩) (ns : List Int) (hm : ns.length ≤ 1000000) (hb : ∀ k, i64 (ns.getD k 0)) (hw : w.length ≤ 1000000000000)
  (hL : (lineTo w ns ++ [10]).length ≤ 9223372036854775807) :
  RefOK ctx 83 [.pv (intsP ns), .ptr c g 0] μ (.pv (.tup [])) (μ.set c ⟨[.pv (.str (lineTo w ns))], g, 1, 9, false⟩) := by
 have h1 := line_ok w ns hm hb hw
 have h2 := trim_ok (lineTo w ns ++ [10]) [10] hL
 rw [trim_line] at h2
 refine ref_body' (C := ctx) (Fn.of fn83 rfl) rfl (by simp) rfl (okMem_set (okMem_more hμ (by simp)) rfl) ?_
 unfold c83
 unfold intsP at h1
 refine evT [(44, fun _ => some (.str (lineTo w ns ++ [10]))), (84, fun _ => some (.str (lineTo w ns)))] ?_
 simp only [hk, intsP, mem2_get, mem2_last, mem2_set0, mem2_set1, mem_last, mem_set, mem_len, go_sem]
 try simp only [hk, intsP, mem2_get, mem2_last, mem2_set0, mem2_set1, mem_last, mem_set, mem_len, go_sem]
 refine ⟨(by simp [vb, h1, h2] <;> omega), (by simp [vb, h1, h2] <;> omega), ?_⟩
 exact ⟨⟨(by first | exact True.intro | (simp only [vb, lb]; omega) | (simp [vb] <;> omega)), trivial⟩, [], (List.append_nil _).symm⟩
end
section
open Sch
theorem lineTo_lenV (ns : List Int) (hb : ∀ n ∈ ns, i64 n) : ∀ w : List UInt8, (lineTo w ns).length ≤ w.length + 22 * ns.length := by
 induction ns with
 | nil => intro w; simp [lineTo]
 | cons n r ih =>
  intro w
  have h1 := ih (fun m hm => hb m (List.mem_cons_of_mem _ hm)) (w ++ 32 :: Lib.itoa n)
  have h2 := Lib.itoa_length_le n (hb n List.mem_cons_self).1 (hb n List.mem_cons_self).2
  simp only [lineTo, List.length_append, List.length_cons] at h1 ⊢
  omega
def qText (w : List UInt8) : List Query → List UInt8
 | [] => w
 | q :: r => qText (lineTo (w ++ 32 :: queryWords.getD q.1.toNat []) [q.2]) r
theorem qText_append (a b : List Query) : ∀ w, qText w (a ++ b) = qText (qText w a) b := by
 induction a with
 | nil => intro w; rfl
 | cons q r ih => intro w; exact ih _
theorem qText_take (w : List UInt8) (l : List Query) (k : Nat) (hk : k < l.length) (d : Query) : qText w (l.take (k + 1)) = lineTo (qText w (l.take k) ++ 32 :: queryWords.getD (l.getD k d).1.toNat []) [(l.getD k d).2] := by
 rw [List.take_add_one, qText_append, List.getElem?_eq_getElem hk]
 simp [qText, List.getD, List.getElem?_eq_getElem hk]
theorem qWord_len (k : Nat) : (queryWords.getD k []).length ≤ 7 := by
 match k with
 | 0 => decide
 | 1 => decide
 | 2 => decide
 | k + 3 => simp [queryWords]
theorem qText_len (l : List Query) (h : ∀ q ∈ l, i64 q.2) : ∀ w, (qText w l).length ≤ w.length + 30 * l.length := by
 induction l with
 | nil => intro w; simp [qText]
 | cons q r ih =>
  intro w
  have h1 := ih (fun x hx => h x (List.mem_cons_of_mem _ hx)) (lineTo (w ++ 32 :: queryWords.getD q.1.toNat []) [q.2])
  have h2 := lineTo_lenV [q.2] (by simpa using h q List.mem_cons_self) (w ++ 32 :: queryWords.getD q.1.toNat [])
  have h3 := qWord_len q.1.toNat
  simp only [qText, List.length_append, List.length_cons, List.length_nil] at *
  omega
theorem queries_at (l : List Query) (k : Nat) (hk : k < l.length) (d : Query) : ((l.flatMap queryC).drop (k * 2)).take 2 = queryC (l.getD k d) := by
 refine List.ext_getElem? fun j => ?_
 by_cases hj : j < 2
 ·rw [List.getElem?_take, if_pos hj, List.getElem?_drop, flatMap_get (m := 2) (fun _ => rfl) l k d j hk hj]
 ·rw [List.getElem?_take, if_neg hj, List.getElem?_eq_none (by simp [queryC]; omega)]
def writtenW (x : Step) : List UInt8 :=
 let s := lineTo (kindWords.getD x.kind.toNat []) [x.replica]
 if x.kind = 0 then lineTo s [x.session, x.action] else
 if x.kind = 1 then qText (lineTo s [x.session]) x.queries else
 if x.kind = 2 ∨ x.kind = 3 then lineTo s [x.other] else
 if x.kind = 4 then lineTo (lineTo s [x.after]) x.survive else
 if x.kind = 6 then lineTo s x.voters else s
def writtenP (x : Step) : List UInt8 := lineTo [97, 116] [x.tick] ++ (32 :: writtenW x) ++ [10]
structure Wr (x : Step) : Prop where
 k0 : 0 ≤ x.kind
 k1 : x.kind ≤ 6
 t : i64 x.tick
 r : i64 x.replica
 o : i64 x.other
 s : i64 x.session
 a : i64 x.action
 f : i64 x.after
 qn : x.queries.length ≤ 1000000
 q : ∀ q ∈ x.queries, 0 ≤ q.1 ∧ q.1 ≤ 2 ∧ i64 q.2
 sn : x.survive.length ≤ 1000000
 sv : ∀ n ∈ x.survive, i64 n
 vn : x.voters.length ≤ 1000000
 vv : ∀ n ∈ x.voters, i64 n
def c45 : ACode := (⟨_, by conv => (lhs; reduce; try simp only [lt1, Int.cast_ofNat_Int, Int.reduceNegSucc, UInt8.reduceOfNat])⟩ : {x // codeOf Tryz.prog 45 (fun _ => false) = some x}).1
theorem fn45 : fnOf Tryz.prog 45 (fun _ => false) = some (c45, [.t 2], 97, true) := by kernel_rfl
def sBox (x : Step) : Blk := ⟨(stepC x).map .pv, 0, 10, 41, false⟩
def strB (w : List UInt8) : Blk := ⟨[.pv (.str w)], 0, 1, 9, false⟩
theorem sBox_ok (x : Step) (w : List UInt8) : okMem [sBox x, strB w] 2 = true := by simp [okMem, sBox, strB, stepC, bnd]
theorem say_ok (x : Step) (w : List UInt8) (ns : List Int) (hm : ns.length ≤ 1000000) (hb : ∀ n ∈ ns, i64 n) (hw : w.length ≤ 1000000000000) (μ : AM) (hμ : okMem ([sBox x, strB w] ++ μ) ([sBox x, strB w] ++ μ).length = true) :
  RefOK ctx 83 [.pv (intsP ns), .ptr 1 0 0] ([sBox x, strB w] ++ μ) (.pv (.tup [])) ([sBox x, strB (lineTo w ns)] ++ μ) := by
 have hL := lineTo_lenV ns hb w
 exact written1_ok hμ (c := 1) (g := 0) (w := w) rfl ns hm (fun k => by
  by_cases hk : k < ns.length
  ·rw [List.getD, List.getElem?_eq_getElem hk]; exact hb _ (List.getElem_mem hk)
  ·rw [List.getD, List.getElem?_eq_none (by omega)]; exact ⟨by decide, by decide⟩) hw (by rw [List.length_append]; simp; omega)
set_option maxRecDepth 20000 in
set_option maxHeartbeats 1000000 in
def wEnd : ACode := (⟨_, by conv => (lhs; reduce; try simp only [lt1, Int.cast_ofNat_Int, Int.reduceNegSucc, UInt8.reduceOfNat])⟩ : {x // c45.sub [1, 1, 1, 1, 1, 1] = x}).1
theorem written_fin (x : Step) (ht : i64 x.tick) (s : List UInt8) (hs : s.length ≤ 1000000000000000) (own : Nat → Bool) : Aw ctx own 97 0 wEnd (RetPD [.t 2] (.str (lineTo [97, 116] [x.tick] ++ (32 :: s) ++ [10]))) [(1, .ptr 0 0 0), (5, .ptr 1 0 0)] [sBox x, strB s] := by
 have h1 := line_ok [97, 116] [x.tick] (by simp) (fun k => by
  match k with
  | 0 => exact ht
  | k + 1 => simp [i64]) (by simp)
 have hL := lineTo_lenV [x.tick] (by simpa using ht) [97, 116]
 have h2 := trim_ok (lineTo [97, 116] [x.tick] ++ [10]) [10] (by rw [List.length_append]; simp at hL ⊢; omega)
 rw [trim_line] at h2
 unfold intsP at h1
 refine ev1_aw (T := [(44, fun _ => some (.str (lineTo [97, 116] [x.tick] ++ [10]))), (84, fun _ => some (.str (lineTo [97, 116] [x.tick])))]) (H := []) ?_
 dsimp only [sBox, strB, stepC, go_sem]
 refine ⟨?_, ?_, ?_⟩
 ·generalize lineTo [97, 116] [x.tick] = L at hL ⊢
  simp only [List.length_cons, List.length_nil] at hL
  simp only [VCs, maxI, List.length_append, List.length_cons, List.length_nil]
  refine ⟨by omega, by omega, by omega, by omega, by omega, by omega, by omega, by omega, by omega, trivial⟩
 ·exact ⟨h2, h1, trivial⟩
 refine evA ?_
 dsimp only [go_sem]
 exact ⟨(by first | exact True.intro | (simp only [vb, lb]; omega) | (simp [vb] <;> omega)), by rw [List.append_assoc, List.append_assoc, List.append_assoc]; rfl⟩
theorem vc_step {k : Nat} (hkk : k ≤ 1000000) : VCs [(minI, (k : Int) + 1), ((k : Int) + 1, maxI)] := by
 simp [VCs, minI, maxI]
 omega
attribute [local irreducible] lineTo Lib.itoa
set_option maxHeartbeats 4000000 in
theorem written_ok (x : Step) (h : Wr x) : PureOK ctx 45 [stepP x] (.str (writtenP x)) := by
 have hw := words_ok
 refine pure_body' (C := ctx) (Fn.of fn45 rfl) rfl ?_
 unfold c45
 refine evT [(64, fun _ => some (.tup [wordsP kindWords, wordsP queryWords]))] ?_
 dsimp only [stepP, stepC, go_sem]
 try dsimp only [stepP, stepC, go_sem]
 refine ⟨(by simp [vb, hw] <;> omega), (by simp [vb, hw] <;> omega), ?_⟩
 refine evT [(64, fun _ => some (.tup [wordsP kindWords, wordsP queryWords]))] ?_
 dsimp only [stepP, stepC, go_sem]
 try dsimp only [stepP, stepC, go_sem]
 refine ⟨(by simp [vb, hw] <;> omega), (by simp [vb, hw] <;> omega), ?_⟩
 have e := getD_map PV.str kindWords x.kind.toNat [] default (by have := h.k0; have := h.k1; simp [kindWords]; omega)
 have hk0 := h.k0
 have hk1 := h.k1
 have hkl : kindWords.length = 7 := rfl
 refine evH [(17, { val := some (.pv (.str (kindWords.getD x.kind.toNat []))) })] ?_
 dsimp only [wordsP, go_sem]
 try dsimp only [wordsP, go_sem]
 refine ⟨(by simp [vb, hkl] <;> omega), ?_, ?_⟩
 ·simp only [All, Nat.mul_one, and_true]
  exact congrArg AV.pv e
 generalize hw0 : kindWords.getD x.kind.toNat [] = w0
 have hl0 : w0.length ≤ 7 := by
  subst hw0
  have : ∀ k : Nat, k ≤ 6 → (kindWords.getD k []).length ≤ 7 := by decide
  exact this _ (by omega)
 have hw0' : kindWords[x.kind.toNat]?.getD [] = w0 := hw0
 rw [hw0']
 have hsay := fun w ns h1 h2 h3 => say_ok x w ns h1 h2 h3 [] (sBox_ok x w)
 refine aw_frame [(1, .ptr 0 0 0), (4, .pv (wordsP queryWords)), (5, .ptr 1 0 0)] ⟨rfl, rfl, rfl, trivial⟩ ?_
 have hs1 := hsay w0 [x.replica] (by simp) (by simpa using h.r) (by omega)
 unfold sBox strB stepC at hs1
 refine evA ?_
 dsimp only [go_sem]
 try dsimp only [go_sem]
 refine ⟨(by simp [vb] <;> omega), (by simp [vb] <;> omega), ?_⟩
 refine evH [(23, { val := some (.pv (.tup [])), mem := some [sBox x, strB (lineTo w0 [x.replica])] })] ?_
 dsimp only [go_sem]
 try dsimp only [go_sem]
 refine ⟨(by simp [vb] <;> omega), ?_, ?_⟩
 ·exact ⟨hs1, trivial⟩
 have hs1l := lineTo_lenV [x.replica] (by simpa using h.r) w0
 generalize hws : lineTo w0 [x.replica] = s1 at *
 refine aw_frame [(1, .ptr 0 0 0), (4, .pv (wordsP queryWords)), (5, .ptr 1 0 0), (6, .fn 83 [.ptr 1 0 0])] ⟨rfl, rfl, rfl, rfl, trivial⟩ ?_
 have hres : writtenP x = lineTo [97, 116] [x.tick] ++ (32 :: writtenW x) ++ [10] := rfl
 unfold writtenW at hres
 rw [hw0, hws] at hres
 have hkind : x.kind = 0 ∨ x.kind = 1 ∨ x.kind = 2 ∨ x.kind = 3 ∨ x.kind = 4 ∨ x.kind = 5 ∨ x.kind = 6 := by omega
 rcases hkind with hk | hk | hk | hk | hk | hk | hk
 ·have hb0 : (x.kind == 0) = true := by simp [hk]
  have hs2 := hsay s1 [x.session, x.action] (by simp) (by simpa using ⟨h.s, h.a⟩) (by simp at hs1l; omega)
  refine aw_seq ?_
  refine evA ?_
  dsimp only [sBox, strB, stepC, go_sem]
  try dsimp only [sBox, strB, stepC, go_sem]
  refine ⟨(by simp [vb] <;> omega), (by simp [vb] <;> omega), ?_⟩
  refine aw_block ?_
  unfold sBox strB stepC at hs2
  refine evA ?_
  dsimp only [go_sem]
  try dsimp only [go_sem]
  refine ⟨(by simp [vb] <;> omega), (by simp [vb] <;> omega), ?_⟩
  rw [hb0]
  refine evH [(34, { val := some (.pv (.tup [])), mem := some [sBox x, strB (lineTo s1 [x.session, x.action])] })] ?_
  dsimp only [go_sem]
  refine ⟨fun _ => ?_, fun h => by simp at h <;> omega⟩
  refine evH [(34, { val := some (.pv (.tup [])), mem := some [sBox x, strB (lineTo s1 [x.session, x.action])] })] ?_
  dsimp only [go_sem]
  try dsimp only [go_sem]
  refine ⟨(by simp [vb] <;> omega), ?_, ?_⟩
  ·exact ⟨hs2, trivial⟩
  rw [hres, if_pos hk]
  exact aw_frame [(1, .ptr 0 0 0), (5, .ptr 1 0 0)] ⟨rfl, rfl, trivial⟩ (written_fin x h.t _ (by have := lineTo_lenV [x.session, x.action] (by simpa using ⟨h.s, h.a⟩) s1; simp at this hs1l; omega) _)
 ·have hb0 : (x.kind == 0) = false := by simp [hk]
  have hb1 : (x.kind == 1) = true := by simp [hk]
  have hs2 := hsay s1 [x.session] (by simp) (by simpa using h.s) (by simp at hs1l; omega)
  unfold sBox strB stepC at hs2
  refine aw_seq ?_
  refine evA ?_
  dsimp only [sBox, strB, stepC, go_sem]
  try dsimp only [sBox, strB, stepC, go_sem]
  refine ⟨(by simp [vb] <;> omega), (by simp [vb] <;> omega), ?_⟩
  refine aw_block ?_
  refine evA ?_
  dsimp only [go_sem]
  try dsimp only [go_sem]
  refine ⟨(by simp [vb] <;> omega), (by simp [vb] <;> omega), ?_⟩
  rw [hb0]
  refine evA ?_
  dsimp only [go_sem]
  refine ⟨fun h => by simp at h <;> omega, fun _ => ?_⟩
  refine evA ?_
  dsimp only [go_sem]
  try dsimp only [go_sem]
  refine ⟨(by simp [vb] <;> omega), (by simp [vb] <;> omega), ?_⟩
  rw [hb1]
  refine evH [(41, { val := some (.pv (.tup [])), mem := some [sBox x, strB (lineTo s1 [x.session])] })] ?_
  dsimp only [go_sem]
  refine ⟨fun _ => ?_, fun h => by simp at h <;> omega⟩
  refine evH [(41, { val := some (.pv (.tup [])), mem := some [sBox x, strB (lineTo s1 [x.session])] })] ?_
  dsimp only [go_sem]
  try dsimp only [go_sem]
  refine ⟨(by simp [vb] <;> omega), ?_, ?_⟩
  ·exact ⟨hs2, trivial⟩
  refine evA ?_
  dsimp only [sBox, strB, stepC, queriesP, go_sem]
  try dsimp only [sBox, strB, stepC, queriesP, go_sem]
  refine ⟨(by simp [vb] <;> omega), (by simp [vb] <;> omega), ?_⟩
  refine aw_block ?_
  generalize hs2w : lineTo s1 [x.session] = s2 at *
  refine aw_forP x.queries.length (fun _ => True) (fun k => [(1, .ptr 0 0 0), (4, .pv (wordsP queryWords)), (5, .ptr 1 0 0), (6, .fn 83 [.ptr 1 0 0]), (43, .pv (queriesP x.queries)), (44, .pv (.int .i64 x.queries.length)), (45, .pv (.int .i64 k))]) (fun k => [sBox x, strB (qText s2 (x.queries.take k))]) trivial ⟨rfl, rfl, rfl, rfl, rfl, rfl, rfl, trivial⟩ rfl fun k hkn _ => ?_
  by_cases hlt : k < x.queries.length
  ·have hd : decide ((k : Int) < x.queries.length) = true := by simp; omega
   have hqv := h.q (x.queries.getD k (0, 0)) (by rw [List.getD, List.getElem?_eq_getElem hlt]; exact List.getElem_mem hlt)
   have hT := qText_take s2 x.queries k hlt (0, 0)
   generalize hq : x.queries.getD k (0, 0) = q at *
   refine evA ?_
   dsimp only [queriesP, sBox, strB, stepC, go_sem]
   try dsimp only [queriesP, sBox, strB, stepC, go_sem]
   refine ⟨(by simp [vb] <;> omega), (by simp [vb] <;> omega), ?_⟩
   rw [hd]
   refine evA ?_
   dsimp only [go_sem]
   refine ⟨fun _ => ?_, fun h => by simp at h <;> omega⟩
   refine evA ?_
   dsimp only [go_sem]
   refine aw_seq ?_
   refine aw_block ?_
   refine evH [(48, { val := some (.pv (.agg [.int .i64 q.1, .int .i64 q.2])) })] ?_
   dsimp only [queriesP, go_sem]
   try dsimp only [queriesP, go_sem]
   refine ⟨(by simp [vb, hlt, flatMap_length queryC_len] <;> omega), ?_, ?_⟩
   ·refine ⟨?_, trivial⟩
    rw [Int.toNat_natCast, queries_at _ _ hlt (0, 0), hq]
    rfl
   generalize hpre : qText s2 (x.queries.take k) = pre at *
   have eq := getD_map PV.str queryWords q.1.toNat [] default (by simp [queryWords]; omega)
   have hql : queryWords.length = 3 := rfl
   have hpl : pre.length ≤ 1000000000 := by
    have h1 := qText_len (x.queries.take k) (fun q hq => (h.q q (List.mem_of_mem_take hq)).2.2) s2
    have h2 := lineTo_lenV [x.session] (by simpa using h.s) s1
    have h3 := h.qn
    have h4 : (x.queries.take k).length ≤ x.queries.length := by simp; omega
    rw [hpre] at h1
    rw [hs2w] at h2
    simp only [List.length_cons, List.length_nil] at h2 hs1l
    omega
   have hwl := qWord_len q.1.toNat
   refine ev1_aw (T := []) (H := [(54, { val := some (.pv (.str (queryWords.getD q.1.toNat []))) })]) ?_
   dsimp only [wordsP, go_sem]
   simp only [List.getD] at hwl eq hT
   generalize queryWords[q.1.toNat]?.getD [] = qw at *
   refine ⟨?_, ?_, ?_⟩
   ·have h1 := hqv.1
    have h2 := hqv.2.1
    simp only [VCs, maxI, List.length_map, hql]
    refine ⟨by omega, by omega, by omega, by omega, by omega, by omega, by omega, by omega, by omega, by omega, by omega, by omega, by omega, by omega, trivial⟩
   ·simp only [All, Nat.mul_one, and_true]
    exact congrArg AV.pv eq
   have hs3 := say_ok x (pre ++ 32 :: qw) [q.2] (by simp) (by simpa using hqv.2.2) (by rw [List.length_append, List.length_cons]; omega) [⟨[.pv (.int .i64 q.1), .pv (.int .i64 q.2)], 0, 2, 55, false⟩] (by simp [okMem, sBox, strB, stepC, bnd])
   unfold sBox strB stepC at hs3
   refine evH [(61, { val := some (.pv (.tup [])), mem := some ([sBox x, strB (lineTo (pre ++ 32 :: qw) [q.2])] ++ [⟨[.pv (.int .i64 q.1), .pv (.int .i64 q.2)], 0, 2, 55, false⟩]) })] ?_
   dsimp only [go_sem]
   try dsimp only [go_sem]
   refine ⟨(by simp [vb] <;> omega), ?_, ?_⟩
   ·exact ⟨hs3, trivial⟩
   refine aw_keep [0, 1] rfl ?_
   refine ev1_aw (T := []) (H := []) ?_
   dsimp only [sBox, strB, stepC, go_sem]
   have hkk : k ≤ 1000000 := by have := h.qn; omega
   refine ⟨?_, trivial, ?_⟩
   ·exact vc_step hkk
   refine ⟨hlt, trivial, ⟨rfl, rfl, rfl, rfl, rfl, rfl, rfl, trivial⟩, ?_⟩
   rw [hT]
   rfl
  ·have hd : decide ((k : Int) < x.queries.length) = false := by simp; omega
   have hkl2 : k = x.queries.length := by omega
   subst hkl2
   rw [List.take_length]
   refine evA ?_
   dsimp only [queriesP, go_sem]
   try dsimp only [queriesP, go_sem]
   refine ⟨(by simp [vb] <;> omega), (by simp [vb] <;> omega), ?_⟩
   rw [hd]
   refine evA ?_
   dsimp only [go_sem]
   refine ⟨fun h => by simp at h <;> omega, fun _ => ?_⟩
   refine evA ?_
   dsimp only [go_sem]
   rw [hres, if_neg (by omega), if_pos hk, hs2w]
   exact aw_frame [(1, .ptr 0 0 0), (5, .ptr 1 0 0)] ⟨rfl, rfl, trivial⟩ (written_fin x h.t _ (by
    have := qText_len x.queries (fun q hq => (h.q q hq).2.2) s2
    have := lineTo_lenV [x.session] (by simpa using h.s) s1
    have := h.qn
    rw [hs2w] at *
    simp at *
    omega) _)
 ·have hb0 : (x.kind == 0) = false := by simp [hk]
  have hb1 : (x.kind == 1) = false := by simp [hk]
  have hb2 : (x.kind == 2) = true := by simp [hk]
  have hs2 := hsay s1 [x.other] (by simp) (by simpa using h.o) (by simp at hs1l; omega)
  refine aw_seq ?_
  refine evA ?_
  dsimp only [sBox, strB, stepC, go_sem]
  try dsimp only [sBox, strB, stepC, go_sem]
  refine ⟨(by simp [vb] <;> omega), (by simp [vb] <;> omega), ?_⟩
  refine aw_block ?_
  unfold sBox strB stepC at hs2
  refine evA ?_
  dsimp only [go_sem]
  try dsimp only [go_sem]
  refine ⟨(by simp [vb] <;> omega), (by simp [vb] <;> omega), ?_⟩
  rw [hb0]
  refine evA ?_
  dsimp only [go_sem]
  refine ⟨fun h => by simp at h <;> omega, fun _ => ?_⟩
  refine evA ?_
  dsimp only [go_sem]
  try dsimp only [go_sem]
  refine ⟨(by simp [vb] <;> omega), (by simp [vb] <;> omega), ?_⟩
  rw [hb1]
  refine evA ?_
  dsimp only [go_sem]
  refine ⟨fun h => by simp at h <;> omega, fun _ => ?_⟩
  refine evA ?_
  dsimp only [go_sem]
  try dsimp only [go_sem]
  refine ⟨(by simp [vb] <;> omega), (by simp [vb] <;> omega), ?_⟩
  rw [hb2]
  iterate 5 first
   | refine ⟨fun _ => ?_, fun h => by simp at h <;> omega⟩
   | (refine evH [(70, { val := some (.pv (.tup [])), mem := some [sBox x, strB (lineTo s1 [x.other])] })] ?_; iterate 2 (try dsimp only [go_sem]))
  refine evH [(70, { val := some (.pv (.tup [])), mem := some [sBox x, strB (lineTo s1 [x.other])] })] ?_
  dsimp only [go_sem]
  try dsimp only [go_sem]
  refine ⟨(by simp [vb] <;> omega), ?_, ?_⟩
  ·exact ⟨hs2, trivial⟩
  rw [hres, if_neg (by omega), if_neg (by omega), if_pos (by omega)]
  exact aw_frame [(1, .ptr 0 0 0), (5, .ptr 1 0 0)] ⟨rfl, rfl, trivial⟩ (written_fin x h.t _ (by have := lineTo_lenV [x.other] (by simpa using h.o) s1; simp at this hs1l; omega) _)
 ·have hq : True := trivial
  have hb0 : (x.kind == 0) = false := by simp [hk]
  have hb1 : (x.kind == 1) = false := by simp [hk]
  have hb2 : (x.kind == 2) = false := by simp [hk]
  have hb3 : (x.kind == 3) = true := by simp [hk]
  have hs2 := hsay s1 [x.other] (by simp) (by simpa using h.o) (by simp at hs1l; omega)
  unfold sBox strB stepC at hs2
  refine aw_seq ?_
  refine evA ?_
  dsimp only [sBox, strB, stepC, go_sem]
  try dsimp only [sBox, strB, stepC, go_sem]
  refine ⟨(by simp [vb] <;> omega), (by simp [vb] <;> omega), ?_⟩
  refine aw_block ?_
  refine evA ?_
  dsimp only [go_sem]
  try dsimp only [go_sem]
  refine ⟨(by simp [vb] <;> omega), (by simp [vb] <;> omega), ?_⟩
  rw [hb0]
  refine evA ?_
  dsimp only [go_sem]
  refine ⟨fun h => by simp at h <;> omega, fun _ => ?_⟩
  refine evA ?_
  dsimp only [go_sem]
  try dsimp only [go_sem]
  refine ⟨(by simp [vb] <;> omega), (by simp [vb] <;> omega), ?_⟩
  rw [hb1]
  refine evA ?_
  dsimp only [go_sem]
  refine ⟨fun h => by simp at h <;> omega, fun _ => ?_⟩
  refine evA ?_
  dsimp only [go_sem]
  try dsimp only [go_sem]
  refine ⟨(by simp [vb] <;> omega), (by simp [vb] <;> omega), ?_⟩
  rw [hb2]
  refine evA ?_
  dsimp only [go_sem]
  refine ⟨fun h => by simp at h <;> omega, fun _ => ?_⟩
  refine evA ?_
  dsimp only [go_sem]
  try dsimp only [go_sem]
  refine ⟨(by simp [vb] <;> omega), (by simp [vb] <;> omega), ?_⟩
  rw [hb3]
  refine evH [(70, { val := some (.pv (.tup [])), mem := some [sBox x, strB (lineTo s1 [x.other])] })] ?_
  dsimp only [go_sem]
  refine ⟨fun _ => ?_, fun h => by simp at h <;> omega⟩
  refine evH [(70, { val := some (.pv (.tup [])), mem := some [sBox x, strB (lineTo s1 [x.other])] })] ?_
  dsimp only [go_sem]
  try dsimp only [go_sem]
  refine ⟨(by simp [vb] <;> omega), ?_, ?_⟩
  ·exact ⟨hs2, trivial⟩
  rw [hres, if_neg (by omega), if_neg (by omega), if_pos (by omega)]
  exact aw_frame [(1, .ptr 0 0 0), (5, .ptr 1 0 0)] ⟨rfl, rfl, trivial⟩ (written_fin x h.t _ (by have := lineTo_lenV [x.other] (by simpa using h.o) s1; simp at this hs1l; omega) _)
 ·have hq : True := trivial
  have hb0 : (x.kind == 0) = false := by simp [hk]
  have hb1 : (x.kind == 1) = false := by simp [hk]
  have hb2 : (x.kind == 2) = false := by simp [hk]
  have hb3 : (x.kind == 3) = false := by simp [hk]
  have hb4 : (x.kind == 4) = true := by simp [hk]
  have hl2 := lineTo_lenV [x.after] (by simpa using h.f) s1
  have hs2 := hsay s1 [x.after] (by simp) (by simpa using h.f) (by simp at hs1l; omega)
  have hs3 := hsay (lineTo s1 [x.after]) x.survive h.sn h.sv (by simp at hs1l hl2; omega)
  unfold sBox strB stepC at hs2 hs3
  refine aw_seq ?_
  refine evA ?_
  dsimp only [sBox, strB, stepC, go_sem]
  try dsimp only [sBox, strB, stepC, go_sem]
  refine ⟨(by simp [vb] <;> omega), (by simp [vb] <;> omega), ?_⟩
  refine aw_block ?_
  refine evA ?_
  dsimp only [go_sem]
  try dsimp only [go_sem]
  refine ⟨(by simp [vb] <;> omega), (by simp [vb] <;> omega), ?_⟩
  rw [hb0]
  refine evA ?_
  dsimp only [go_sem]
  refine ⟨fun h => by simp at h <;> omega, fun _ => ?_⟩
  refine evA ?_
  dsimp only [go_sem]
  try dsimp only [go_sem]
  refine ⟨(by simp [vb] <;> omega), (by simp [vb] <;> omega), ?_⟩
  rw [hb1]
  refine evA ?_
  dsimp only [go_sem]
  refine ⟨fun h => by simp at h <;> omega, fun _ => ?_⟩
  refine evA ?_
  dsimp only [go_sem]
  try dsimp only [go_sem]
  refine ⟨(by simp [vb] <;> omega), (by simp [vb] <;> omega), ?_⟩
  rw [hb2]
  refine evA ?_
  dsimp only [go_sem]
  refine ⟨fun h => by simp at h <;> omega, fun _ => ?_⟩
  refine evA ?_
  dsimp only [go_sem]
  try dsimp only [go_sem]
  refine ⟨(by simp [vb] <;> omega), (by simp [vb] <;> omega), ?_⟩
  rw [hb3]
  refine evA ?_
  dsimp only [go_sem]
  refine ⟨fun h => by simp at h <;> omega, fun _ => ?_⟩
  refine evA ?_
  dsimp only [go_sem]
  try dsimp only [go_sem]
  refine ⟨(by simp [vb] <;> omega), (by simp [vb] <;> omega), ?_⟩
  rw [hb4]
  refine evH [(77, { val := some (.pv (.tup [])), mem := some [sBox x, strB (lineTo s1 [x.after])] })] ?_
  dsimp only [go_sem]
  refine ⟨fun _ => ?_, fun h => by simp at h <;> omega⟩
  refine evH [(77, { val := some (.pv (.tup [])), mem := some [sBox x, strB (lineTo s1 [x.after])] })] ?_
  dsimp only [go_sem]
  try dsimp only [go_sem]
  refine ⟨(by simp [vb] <;> omega), ?_, ?_⟩
  ·exact ⟨hs2, trivial⟩
  refine evH [(81, { val := some (.pv (.tup [])), mem := some [sBox x, strB (lineTo (lineTo s1 [x.after]) x.survive)] })] ?_
  dsimp only [sBox, strB, stepC, go_sem]
  try dsimp only [sBox, strB, stepC, go_sem]
  refine ⟨(by simp [vb] <;> omega), ?_, ?_⟩
  ·exact ⟨hs3, trivial⟩
  rw [hres, if_neg (by omega), if_neg (by omega), if_neg (by omega), if_pos (by omega)]
  exact aw_frame [(1, .ptr 0 0 0), (5, .ptr 1 0 0)] ⟨rfl, rfl, trivial⟩ (written_fin x h.t _ (by have := lineTo_lenV x.survive h.sv (lineTo s1 [x.after]); have := h.sn; simp at hl2 hs1l; omega) _)
 ·have hq : True := trivial
  have hb0 : (x.kind == 0) = false := by simp [hk]
  have hb1 : (x.kind == 1) = false := by simp [hk]
  have hb2 : (x.kind == 2) = false := by simp [hk]
  have hb3 : (x.kind == 3) = false := by simp [hk]
  have hb4 : (x.kind == 4) = false := by simp [hk]
  have hb6 : (x.kind == 6) = false := by simp [hk]
  refine aw_seq ?_
  refine evA ?_
  dsimp only [sBox, strB, stepC, go_sem]
  try dsimp only [sBox, strB, stepC, go_sem]
  refine ⟨(by simp [vb] <;> omega), (by simp [vb] <;> omega), ?_⟩
  refine aw_block ?_
  refine evA ?_
  dsimp only [go_sem]
  try dsimp only [go_sem]
  refine ⟨(by simp [vb] <;> omega), (by simp [vb] <;> omega), ?_⟩
  rw [hb0]
  refine evA ?_
  dsimp only [go_sem]
  refine ⟨fun h => by simp at h <;> omega, fun _ => ?_⟩
  refine evA ?_
  dsimp only [go_sem]
  try dsimp only [go_sem]
  refine ⟨(by simp [vb] <;> omega), (by simp [vb] <;> omega), ?_⟩
  rw [hb1]
  refine evA ?_
  dsimp only [go_sem]
  refine ⟨fun h => by simp at h <;> omega, fun _ => ?_⟩
  refine evA ?_
  dsimp only [go_sem]
  try dsimp only [go_sem]
  refine ⟨(by simp [vb] <;> omega), (by simp [vb] <;> omega), ?_⟩
  rw [hb2]
  refine evA ?_
  dsimp only [go_sem]
  refine ⟨fun h => by simp at h <;> omega, fun _ => ?_⟩
  refine evA ?_
  dsimp only [go_sem]
  try dsimp only [go_sem]
  refine ⟨(by simp [vb] <;> omega), (by simp [vb] <;> omega), ?_⟩
  rw [hb3]
  refine evA ?_
  dsimp only [go_sem]
  refine ⟨fun h => by simp at h <;> omega, fun _ => ?_⟩
  refine evA ?_
  dsimp only [go_sem]
  try dsimp only [go_sem]
  refine ⟨(by simp [vb] <;> omega), (by simp [vb] <;> omega), ?_⟩
  rw [hb4]
  refine evA ?_
  dsimp only [go_sem]
  refine ⟨fun h => by simp at h <;> omega, fun _ => ?_⟩
  refine evA ?_
  dsimp only [go_sem]
  try dsimp only [go_sem]
  refine ⟨(by simp [vb] <;> omega), (by simp [vb] <;> omega), ?_⟩
  rw [hb6]
  refine evA ?_
  dsimp only [go_sem]
  refine ⟨fun h => by simp at h <;> omega, fun _ => ?_⟩
  refine evA ?_
  dsimp only [go_sem]
  rw [hres, if_neg (by omega), if_neg (by omega), if_neg (by omega), if_neg (by omega), if_neg (by omega)]
  exact aw_frame [(1, .ptr 0 0 0), (5, .ptr 1 0 0)] ⟨rfl, rfl, trivial⟩ (written_fin x h.t _ (by simp at hs1l; omega) _)
 ·have hq : True := trivial
  have hb0 : (x.kind == 0) = false := by simp [hk]
  have hb1 : (x.kind == 1) = false := by simp [hk]
  have hb2 : (x.kind == 2) = false := by simp [hk]
  have hb3 : (x.kind == 3) = false := by simp [hk]
  have hb4 : (x.kind == 4) = false := by simp [hk]
  have hb6 : (x.kind == 6) = true := by simp [hk]
  have hs2 := hsay s1 x.voters h.vn h.vv (by simp at hs1l; omega)
  unfold sBox strB stepC at hs2
  refine aw_seq ?_
  refine evA ?_
  dsimp only [sBox, strB, stepC, go_sem]
  try dsimp only [sBox, strB, stepC, go_sem]
  refine ⟨(by simp [vb] <;> omega), (by simp [vb] <;> omega), ?_⟩
  refine aw_block ?_
  refine evA ?_
  dsimp only [go_sem]
  try dsimp only [go_sem]
  refine ⟨(by simp [vb] <;> omega), (by simp [vb] <;> omega), ?_⟩
  rw [hb0]
  refine evA ?_
  dsimp only [go_sem]
  refine ⟨fun h => by simp at h <;> omega, fun _ => ?_⟩
  refine evA ?_
  dsimp only [go_sem]
  try dsimp only [go_sem]
  refine ⟨(by simp [vb] <;> omega), (by simp [vb] <;> omega), ?_⟩
  rw [hb1]
  refine evA ?_
  dsimp only [go_sem]
  refine ⟨fun h => by simp at h <;> omega, fun _ => ?_⟩
  refine evA ?_
  dsimp only [go_sem]
  try dsimp only [go_sem]
  refine ⟨(by simp [vb] <;> omega), (by simp [vb] <;> omega), ?_⟩
  rw [hb2]
  refine evA ?_
  dsimp only [go_sem]
  refine ⟨fun h => by simp at h <;> omega, fun _ => ?_⟩
  refine evA ?_
  dsimp only [go_sem]
  try dsimp only [go_sem]
  refine ⟨(by simp [vb] <;> omega), (by simp [vb] <;> omega), ?_⟩
  rw [hb3]
  refine evA ?_
  dsimp only [go_sem]
  refine ⟨fun h => by simp at h <;> omega, fun _ => ?_⟩
  refine evA ?_
  dsimp only [go_sem]
  try dsimp only [go_sem]
  refine ⟨(by simp [vb] <;> omega), (by simp [vb] <;> omega), ?_⟩
  rw [hb4]
  refine evA ?_
  dsimp only [go_sem]
  refine ⟨fun h => by simp at h <;> omega, fun _ => ?_⟩
  refine evA ?_
  dsimp only [go_sem]
  try dsimp only [go_sem]
  refine ⟨(by simp [vb] <;> omega), (by simp [vb] <;> omega), ?_⟩
  rw [hb6]
  refine evH [(87, { val := some (.pv (.tup [])), mem := some [sBox x, strB (lineTo s1 x.voters)] })] ?_
  dsimp only [go_sem]
  refine ⟨fun _ => ?_, fun h => by simp at h <;> omega⟩
  refine evH [(87, { val := some (.pv (.tup [])), mem := some [sBox x, strB (lineTo s1 x.voters)] })] ?_
  dsimp only [go_sem]
  try dsimp only [go_sem]
  refine ⟨(by simp [vb] <;> omega), ?_, ?_⟩
  ·exact ⟨hs2, trivial⟩
  rw [hres, if_neg (by omega), if_neg (by omega), if_neg (by omega), if_neg (by omega), if_pos (by omega)]
  exact aw_frame [(1, .ptr 0 0 0), (5, .ptr 1 0 0)] ⟨rfl, rfl, trivial⟩ (written_fin x h.t _ (by have := lineTo_lenV x.voters h.vv s1; have := h.vn; simp at hs1l; omega) _)
end
section
open Sch
def c13 : ACode := (⟨_, by conv => (lhs; reduce; try simp only [lt1, Int.cast_ofNat_Int, Int.reduceNegSucc, UInt8.reduceOfNat])⟩ : {x // codeOf Tryz.prog 13 (fun _ => false) = some x}).1
theorem fn13 : fnOf Tryz.prog 13 (fun _ => false) = some (c13, [.t 2, .t 3], 78, true) := by kernel_rfl
def wReplicas : List UInt8 := [114, 101, 112, 108, 105, 99, 97, 115]
def wSessions : List UInt8 := [115, 101, 115, 115, 105, 111, 110, 115]
def wSectors : List UInt8 := [115, 101, 99, 116, 111, 114, 115]
def wTicks : List UInt8 := [116, 105, 99, 107, 115]
def wState : List UInt8 := [115, 116, 97, 116, 101]
def wFate : List UInt8 := [102, 97, 116, 101]
def wDrop : List UInt8 := [102, 97, 116, 101, 32, 100, 114, 111, 112, 10]
def lineP1 (w : List UInt8) (ns : List Int) : List UInt8 := lineTo w ns ++ [10]
def headText (s : Sched) : List UInt8 := lineP1 wReplicas [s.replicas] ++ lineP1 wSessions [s.sessions] ++ lineP1 wSectors [s.sectors] ++ lineP1 wTicks [s.ticks] ++ lineP1 wState s.state
def fateText (f : Fate) : List UInt8 := if f.drop then wDrop else if f.again = 0 then lineP1 wFate [f.delay] else lineP1 wFate [f.delay, f.again]
def fmtText (s : Sched) : List UInt8 := headText s ++ s.fates.flatMap fateText ++ s.steps.flatMap writtenP
def formatP (s : Sched) : List UInt8 × Int := if valid s then (if 65536 < (fmtText s).length then ([], 8) else (fmtText s, 0)) else ([], 1)
structure Fm (s : Sched) : Prop where
 a : i64 s.replicas
 b : i64 s.sessions
 c : i64 s.sectors
 d : i64 s.ticks
 sn : s.state.length ≤ 128
 st : ∀ n ∈ s.state, i64 n
 fn : s.fates.length ≤ 256
 f : ∀ x ∈ s.fates, i64 x.delay ∧ i64 x.again
 pn : s.steps.length ≤ 256
 p : ∀ x ∈ s.steps, Wr x
theorem lineP1_len (w : List UInt8) (ns : List Int) (h : ∀ n ∈ ns, i64 n) : (lineP1 w ns).length ≤ w.length + 22 * ns.length + 1 := by
 have := lineTo_lenV ns h w
 simp only [lineP1, List.length_append, List.length_cons, List.length_nil]
 omega
theorem lineP1_ok (w : List UInt8) (ns : List Int) (h : ∀ n ∈ ns, i64 n) (hn : ns.length ≤ 1000000) (hw : w.length ≤ 1000) : PureOK ctx 44 [.str w, intsP ns] (.str (lineP1 w ns)) :=
 line_ok w ns hn (fun k => by
  by_cases hk : k < ns.length
  ·exact h _ (getD_mem hk)
  ·rw [List.getD, List.getElem?_eq_none (by omega)]; exact ⟨by decide, by decide⟩) (by omega)
theorem fateText_len (f : Fate) (h : i64 f.delay ∧ i64 f.again) : (fateText f).length ≤ 100 := by
 unfold fateText
 split
 ·decide
 ·split
  ·have := lineP1_len wFate [f.delay] (by simpa using h.1)
   have hw : wFate.length = 4 := rfl
   simp only [List.length_cons, List.length_nil] at this
   omega
  ·have := lineP1_len wFate [f.delay, f.again] (by simpa using h)
   have hw : wFate.length = 4 := rfl
   simp only [List.length_cons, List.length_nil] at this
   omega
theorem writtenP_len (x : Step) (h : Wr x) : (writtenP x).length ≤ 100000000 := by
 have h1 := lineTo_lenV [x.tick] (by simpa using h.t) [97, 116]
 have hk : (kindWords.getD x.kind.toNat []).length ≤ 7 := by
  have : ∀ k : Nat, k ≤ 6 → (kindWords.getD k []).length ≤ 7 := by decide
  exact this _ (by have := h.k0; have := h.k1; omega)
 have h2 := lineTo_lenV [x.replica] (by simpa using h.r) (kindWords.getD x.kind.toNat [])
 have hW : (writtenW x).length ≤ 60000000 := by
  unfold writtenW
  generalize kindWords.getD x.kind.toNat [] = w0 at *
  generalize lineTo w0 [x.replica] = s1 at *
  simp only [List.length_cons, List.length_nil] at h2
  dsimp only
  have g1 := lineTo_lenV [x.session, x.action] (by simpa using ⟨h.s, h.a⟩) s1
  have g2 := lineTo_lenV [x.session] (by simpa using h.s) s1
  have g3 := qText_len x.queries (fun q hq => (h.q q hq).2.2) (lineTo s1 [x.session])
  have g4 := lineTo_lenV [x.other] (by simpa using h.o) s1
  have g5 := lineTo_lenV [x.after] (by simpa using h.f) s1
  have g6 := lineTo_lenV x.survive h.sv (lineTo s1 [x.after])
  have g7 := lineTo_lenV x.voters h.vv s1
  have := h.qn; have := h.sn; have := h.vn
  simp only [List.length_cons, List.length_nil] at g1 g2 g4 g5
  repeat' split
  all_goals omega
 unfold writtenP
 simp only [List.length_append, List.length_cons, List.length_nil] at h1 ⊢
 omega
theorem flat_len {α : Type} {g : α → List UInt8} {m : Nat} (l : List α) (h : ∀ x ∈ l, (g x).length ≤ m) : (l.flatMap g).length ≤ l.length * m := by
 induction l with
 | nil => simp
 | cons x r ih =>
  have h1 := h x List.mem_cons_self
  have h2 := ih fun y hy => h y (List.mem_cons_of_mem _ hy)
  rw [List.flatMap_cons, List.length_append, List.length_cons, Nat.succ_mul]
  omega
def sB7 (s : Sched) : Blk := ⟨[.pv (.int .i64 s.replicas), .pv (.int .i64 s.sessions), .pv (.int .i64 s.sectors), .pv (.int .i64 s.ticks), .pv (intsP s.state), .pv (fatesP s.fates), .pv (stepsP s.steps)], 0, 7, 27, false⟩
def fmM (s : Sched) (x : List UInt8) (j : Nat) : AM := [sB7 s, bldB (.ptr 1 0 0) (.ref 2 j 0 x.length) 0, rowB x j]
theorem fm_write (s : Sched) (x l : List UInt8) (j : Nat) (tl : AM) (htl : okMem (fmM s x j ++ tl) (fmM s x j ++ tl).length = true) (hl : x.length + l.length ≤ 140737488355328) :
  RefOK ctx 43 [.ptr 1 0 0, .pv (.str l)] (fmM s x j ++ tl) (.pv (.tup [.int .i64 l.length, .val .nilIface])) (fmM s (x ++ l) (j + 1) ++ tl) := by
 have := write_more htl (b := 1) (g := 0) (r := 2) (j := j) (old := x) (by decide) rfl rfl l hl
 simpa [fmM] using this
theorem fmM_ok (s : Sched) (x : List UInt8) (j : Nat) : okMem (fmM s x j) (fmM s x j).length = true := by
 simp [okMem, fmM, sB7, bldB, rowB, bnd, Nat.blt, byteA_bnd]
set_option maxHeartbeats 4000000 in
theorem format_no (s : Sched) (hv : PureOK ctx 12 [schedP s] (.bool false)) : PureOK ctx 13 [schedP s] (.tup [.str [], .int .i64 1]) := by
  refine pure_body' (C := ctx) (Fn.of fn13 rfl) rfl ?_
  unfold c13
  repeat' (first
    | ((with_reducible first | show VCs _ | show All _); (try dsimp only [go_sem]); first | (simp [vb, hv] <;> omega) | (simp only [vb, and_true, true_implies]; (repeat' (first | (with_reducible assumption) | (with_reducible apply And.intro) | intro _ | ((fail_if_success (with_reducible show (_ : Int) ≤ _)); assumption))) <;> first | omega | (simp only [ab, hv]; done) | (simp [hv] <;> omega)))
    | exact (rfl : some _ = _)
    | (fail_if_success refine awL ?_
       refine evT [(12, fun _ => some (.bool false))] ?_
       repeat1' dsimp only [c13, schedP, go_sem]
       first
       | refine aw4 ?_ ?_ rfl ?_
       | apply aw3
       | apply aw2
       | (refine awB (fun hc => ?_) fun hc => ?_ <;> first | (cases hc; done) | (exfalso; simp [hv] at hc <;> omega) | (try simp only [bn] at hc; try contradiction))
       | skip))
set_option maxHeartbeats 4000000 in
theorem format_yes (s : Sched) (h : Fm s) (hv : PureOK ctx 12 [schedP s] (.bool true)) : PureOK ctx 13 [schedP s] (.tup [.str (if 65536 < (fmtText s).length then [] else fmtText s), .int .i64 (if 65536 < (fmtText s).length then 8 else 0)]) := by
  have h1 := lineP1_ok wReplicas [s.replicas] (by simpa using h.a) (by simp) (by decide)
  have h2 := lineP1_ok wSessions [s.sessions] (by simpa using h.b) (by simp) (by decide)
  have h3 := lineP1_ok wSectors [s.sectors] (by simpa using h.c) (by simp) (by decide)
  have h4 := lineP1_ok wTicks [s.ticks] (by simpa using h.d) (by simp) (by decide)
  have h5 := lineP1_ok wState s.state h.st (by have := h.sn; omega) (by decide)
  have l1 := lineP1_len wReplicas [s.replicas] (by simpa using h.a)
  have l2 := lineP1_len wSessions [s.sessions] (by simpa using h.b)
  have l3 := lineP1_len wSectors [s.sectors] (by simpa using h.c)
  have l4 := lineP1_len wTicks [s.ticks] (by simpa using h.d)
  have l5 := lineP1_len wState s.state h.st
  have hsn := h.sn
  have p5 : 1 ≤ (lineP1 wState s.state).length := by simp [lineP1]
  have hHL : (headText s).length ≤ 5000 := by
    have e1 : wReplicas.length = 8 := rfl
    have e2 : wSessions.length = 8 := rfl
    have e3 : wSectors.length = 7 := rfl
    have e4 : wTicks.length = 5 := rfl
    have e5 : wState.length = 5 := rfl
    simp only [headText, List.length_append, List.length_cons, List.length_nil] at l1 l2 l3 l4 l5 ⊢
    omega
  have hHT : headText s = lineP1 wReplicas [s.replicas] ++ lineP1 wSessions [s.sessions] ++ lineP1 wSectors [s.sectors] ++ lineP1 wTicks [s.ticks] ++ lineP1 wState s.state := rfl
  simp only [wReplicas, wSessions, wSectors, wTicks, wState, List.length_cons, List.length_nil] at l1 l2 l3 l4 l5 h1 h2 h3 h4 h5 hHT p5
  generalize lineP1 [114, 101, 112, 108, 105, 99, 97, 115] [s.replicas] = L1 at *
  generalize lineP1 [115, 101, 115, 115, 105, 111, 110, 115] [s.sessions] = L2 at *
  generalize lineP1 [115, 101, 99, 116, 111, 114, 115] [s.sectors] = L3 at *
  generalize lineP1 [116, 105, 99, 107, 115] [s.ticks] = L4 at *
  generalize lineP1 [115, 116, 97, 116, 101] s.state = L5 at *
  have hw := write_first (μ := [sB7 s, bldB (.pv (.val (.pointer none))) (.pv .nilsl) 0]) (by simp [okMem, sB7, bldB, bnd]) (b := 1) (g := 0) rfl (L1 ++ L2 ++ L3 ++ L4 ++ L5) (by simp only [List.length_append]; omega) (by simp only [List.length_append]; omega)
  refine pure_body' (C := ctx) (Fn.of fn13 rfl) rfl ?_
  unfold c13
  refine evT [(12, fun _ => some (.bool true))] ?_
  dsimp only [schedP, go_sem]
  try dsimp only [schedP, go_sem]
  refine ⟨(by simp [vb, hv] <;> omega), (by simp [vb, hv] <;> omega), ?_⟩
  refine evT [(12, fun _ => some (.bool true))] ?_
  dsimp only [schedP, go_sem]
  try dsimp only [schedP, go_sem]
  refine ⟨(by first | exact True.intro | (simp only [vb, lb]; omega) | (simp only [vb, lb, hv]; and_intros <;> first | omega | (simp <;> omega)) | (simp [vb, hv] <;> omega)), (by first | exact True.intro | ((try dsimp only [go_sem]); first | (simp [vb, hv] <;> omega) | (simp only [vb, and_true, true_implies]; (repeat' (first | (with_reducible assumption) | (with_reducible apply And.intro) | intro _ | ((fail_if_success (with_reducible show (_ : Int) ≤ _)); assumption))) <;> first | omega | rfl | (simp only [ab, hv]; done) | (simp [Nat.mul_one, hv] <;> omega) | (simp_all; done)))), ?_⟩
  iterate 5 first
    | refine ⟨fun h => by simp at h <;> omega, fun _ => ?_⟩
    | refine ⟨by simp [vb] <;> omega, by simp [vb] <;> omega, ?_⟩
    | (refine evH [(15, { val := some (.pv (.str L1)) }), (19, { val := some (.pv (.str L2)) }), (24, { val := some (.pv (.str L3)) }), (29, { val := some (.pv (.str L4)) }), (33, { val := some (.pv (.str L5)) }), (35, { val := some (.pv (.tup [.int .i64 (L1 ++ L2 ++ L3 ++ L4 ++ L5).length, .val .nilIface])), mem := some (fmM s (headText s) 0) })] ?_; iterate 2 (try dsimp only [schedP, go_sem]))
  refine aw_seq (aw_regT (T := []) (H := [(15, { val := some (.pv (.str L1)) }), (19, { val := some (.pv (.str L2)) }), (24, { val := some (.pv (.str L3)) }), (29, { val := some (.pv (.str L4)) }), (33, { val := some (.pv (.str L5)) }), (35, { val := some (.pv (.tup [.int .i64 (L1 ++ L2 ++ L3 ++ L4 ++ L5).length, .val .nilIface])), mem := some (fmM s (headText s) 0) })]) (by rfl) ?_)
  dsimp only [evOpsTail, schedP, go_sem]
  try dsimp only [schedP, go_sem]
  refine ⟨(by simp [vb] <;> omega), ?_, ?_⟩
  · exact ⟨by rw [hHT]; exact hw, h5, h4, h3, h2, h1, trivial⟩
  clear h1 h2 h3 h4 h5 l1 l2 l3 l4 l5 hw hHT p5
  refine aw_frame [(1, .ptr 0 0 0), (4, .ptr 1 0 0)] (by (repeat' (first | exact trivial | refine And.intro (by first | rfl | (simp [get, Nat.beq]; done) | (simp [get, Nat.beq]; omega) | (dsimp only [get]; congr 1 <;> first | rfl | omega | (simp; done) | (simp; omega))) ?_))) ?_
  repeat' (first
    | ((with_reducible first | show VCs _ | show All _); simp [vb] <;> omega)
    | exact (rfl : some _ = _)
    | (fail_if_success refine awL ?_
       refine evA ?_
       repeat1' dsimp only [c13, fmM, sB7, bldB, rowB, fatesP, go_sem]
       first
       | refine aw4 ?_ ?_ rfl ?_
       | apply aw3
       | apply aw2
       | (refine awB (fun hc => ?_) fun hc => ?_ <;> first | (cases hc; done) | (exfalso; simp at hc <;> omega) | (try simp only [bn] at hc; try contradiction))
       | skip))
  refine aw_forJ s.fates.length (fun k => True) (fun k => [(1, .ptr 0 0 0), (4, .ptr 1 0 0), (37, .pv (fatesP s.fates)), (38, .pv (.int .i64 s.fates.length)), (39, .pv (.int .i64 k))]) (fun k => fmM s (headText s ++ (s.fates.take k).flatMap fateText) k) trivial (by (repeat' (first | exact trivial | refine And.intro (by first | rfl | (simp [get, Nat.beq]; done) | (simp [get, Nat.beq]; omega) | (dsimp only [get]; congr 1 <;> first | rfl | omega | (simp; done) | (simp; omega))) ?_))) ⟨[], by simp [fmM, sB7, bldB, rowB, fatesP]⟩ (fun k => ⟨Nat.zero_le _, rfl, fmM_ok s _ k⟩) fun k hk _ => ?_
  have hfl := h.fn
  by_cases hlt : k < s.fates.length
  · have e := fm_take fateC_len s.fates k ⟨false, 0, 0⟩ hlt
    have hs := take_succ_getD s.fates k ⟨false, 0, 0⟩ hlt
    have hff := h.f _ (getD_mem (d := ⟨false, 0, 0⟩) hlt)
    have hft := fateText_len _ hff
    have hfc := flatMap_length fateC_len s.fates
    have hXl : (headText s ++ (s.fates.take k).flatMap fateText).length ≤ 5000 + 256 * 100 := by
      have := flat_len (m := 100) (s.fates.take k) fun x hx => fateText_len x (h.f x (List.mem_of_mem_take hx))
      have h4 : (s.fates.take k).length ≤ 256 := by simp; omega
      rw [List.length_append]
      have := Nat.mul_le_mul_right 100 h4
      omega
    have hX : headText s ++ (s.fates.take (k + 1)).flatMap fateText = (headText s ++ (s.fates.take k).flatMap fateText) ++ fateText (s.fates.getD k ⟨false, 0, 0⟩) := by
      rw [hs, List.flatMap_append, List.append_assoc]
      simp
    rw [hX]
    clear hX hs
    generalize headText s ++ (s.fates.take k).flatMap fateText = X at *
    generalize s.fates.getD k ⟨false, 0, 0⟩ = q at *
    obtain ⟨b, d, g⟩ := q
    dsimp only at hff
    cases b with
    | true =>
      have hw := fm_write s X wDrop k [⟨[.pv (.bool true), .pv (.int .i64 d), .pv (.int .i64 g)], 0, 3, 53, false⟩] (by simp [okMem, fmM, sB7, bldB, rowB, bnd, Nat.blt, byteA_bnd]) (by simp [wDrop]; omega)
      repeat' (first
        | ((with_reducible first | show VCs _ | show All _); (try dsimp only [go_sem]); first | (simp [vb, e, hlt, hfc, hw, fateC] <;> omega) | (simp only [vb, and_true, true_implies]; (repeat' (first | (with_reducible assumption) | (with_reducible apply And.intro) | intro _ | ((fail_if_success (with_reducible show (_ : Int) ≤ _)); assumption))) <;> first | omega | (simp only [ab, e, hlt, hfc, hw, fateC]; done) | (simp [e, hlt, hfc, hw, fateC] <;> omega)))
        | exact (rfl : some _ = _)
        | (fail_if_success refine awL ?_
           refine evH [(42, { val := some (.pv (.agg [.bool true, .int .i64 d, .int .i64 g])) }), (53, { val := some (.pv (.tup [.int .i64 (wDrop).length, .val .nilIface])), mem := some (fmM s (X ++ wDrop) (k + 1) ++ [⟨[.pv (.bool true), .pv (.int .i64 d), .pv (.int .i64 g)], 0, 3, 53, false⟩]) })] ?_
           repeat1' dsimp only [c13, fmM, sB7, bldB, rowB, fatesP, go_sem]
           first
           | refine aw4 ?_ ?_ rfl ?_
           | apply aw3
           | apply aw2
           | (refine awB (fun hc => ?_) fun hc => ?_ <;> first | (cases hc; done) | (exfalso; simp [e, hlt, hfc, hw, fateC] at hc <;> omega) | (try simp only [bn] at hc; try contradiction))
           | skip))
      exact ⟨hlt, trivial, by (repeat' (first | exact trivial | refine And.intro (by first | rfl | (simp [get, Nat.beq]; done) | (simp [get, Nat.beq]; omega) | (dsimp only [get]; congr 1 <;> first | rfl | omega | (simp; done) | (simp; omega))) ?_)), _, rfl⟩
    | false =>
      by_cases hg : g = 0
      · subst hg
        have hl := lineP1_ok wFate [d] (by simpa using hff.1) (by simp) (by decide)
        have hft' : fateText ⟨false, d, 0⟩ = lineP1 wFate [d] := rfl
        rw [hft'] at hft ⊢
        have hw := fm_write s X (lineP1 wFate [d]) k [⟨[.pv (.bool false), .pv (.int .i64 d), .pv (.int .i64 0)], 0, 3, 53, false⟩] (by simp [okMem, fmM, sB7, bldB, rowB, bnd, Nat.blt, byteA_bnd]) (by omega)
        repeat' (first
          | ((with_reducible first | show VCs _ | show All _); (try dsimp only [go_sem]); first | (simp [vb, e, hlt, hfc, hw, hl, fateC] <;> omega) | (simp only [vb, and_true, true_implies]; (repeat' (first | (with_reducible assumption) | (with_reducible apply And.intro) | intro _ | ((fail_if_success (with_reducible show (_ : Int) ≤ _)); assumption))) <;> first | omega | (simp only [ab, e, hlt, hfc, hw, hl, fateC]; done) | (simp [e, hlt, hfc, hw, hl, fateC] <;> omega)))
          | exact (rfl : some _ = _)
          | (fail_if_success refine awL ?_
             refine evTH [(44, fun _ => some (.str (lineP1 wFate [d])))] [(42, { val := some (.pv (.agg [.bool false, .int .i64 d, .int .i64 0])) }), (62, { val := some (.pv (.tup [.int .i64 (lineP1 wFate [d]).length, .val .nilIface])), mem := some (fmM s (X ++ lineP1 wFate [d]) (k + 1) ++ [⟨[.pv (.bool false), .pv (.int .i64 d), .pv (.int .i64 0)], 0, 3, 53, false⟩]) })] ?_
             repeat1' dsimp only [c13, fmM, sB7, bldB, rowB, fatesP, go_sem]
             first
             | refine aw4 ?_ ?_ rfl ?_
             | apply aw3
             | apply aw2
             | (refine awB (fun hc => ?_) fun hc => ?_ <;> first | (cases hc; done) | (exfalso; simp [e, hlt, hfc, hw, hl, fateC] at hc <;> omega) | (try simp only [bn] at hc; try contradiction))
             | skip))
        exact ⟨hlt, trivial, by (repeat' (first | exact trivial | refine And.intro (by first | rfl | (simp [get, Nat.beq]; done) | (simp [get, Nat.beq]; omega) | (dsimp only [get]; congr 1 <;> first | rfl | omega | (simp; done) | (simp; omega))) ?_)), _, rfl⟩
      · have hl := lineP1_ok wFate [d, g] (by simpa using hff) (by simp) (by decide)
        have hft' : fateText ⟨false, d, g⟩ = lineP1 wFate [d, g] := by simp [fateText, hg]
        rw [hft'] at hft ⊢
        have hw := fm_write s X (lineP1 wFate [d, g]) k [⟨[.pv (.bool false), .pv (.int .i64 d), .pv (.int .i64 g)], 0, 3, 53, false⟩] (by simp [okMem, fmM, sB7, bldB, rowB, bnd, Nat.blt, byteA_bnd]) (by omega)
        repeat' (first
          | ((with_reducible first | show VCs _ | show All _); (try dsimp only [go_sem]); first | (simp [vb, e, hlt, hfc, hw, hl, hg, fateC] <;> omega) | (simp only [vb, and_true, true_implies]; (repeat' (first | (with_reducible assumption) | (with_reducible apply And.intro) | intro _ | ((fail_if_success (with_reducible show (_ : Int) ≤ _)); assumption))) <;> first | omega | (simp only [ab, e, hlt, hfc, hw, hl, hg, fateC]; done) | (simp [e, hlt, hfc, hw, hl, hg, fateC] <;> omega)))
          | exact (rfl : some _ = _)
          | (fail_if_success refine awL ?_
             refine evTH [(44, fun _ => some (.str (lineP1 wFate [d, g])))] [(42, { val := some (.pv (.agg [.bool false, .int .i64 d, .int .i64 g])) }), (49, { val := some (.pv (.tup [.int .i64 (lineP1 wFate [d, g]).length, .val .nilIface])), mem := some (fmM s (X ++ lineP1 wFate [d, g]) (k + 1) ++ [⟨[.pv (.bool false), .pv (.int .i64 d), .pv (.int .i64 g)], 0, 3, 53, false⟩]) })] ?_
             repeat1' dsimp only [c13, fmM, sB7, bldB, rowB, fatesP, go_sem]
             first
             | refine aw4 ?_ ?_ rfl ?_
             | apply aw3
             | apply aw2
             | (refine awB (fun hc => ?_) fun hc => ?_ <;> first | (cases hc; done) | (exfalso; simp [e, hlt, hfc, hw, hl, hg, fateC] at hc <;> omega) | (try simp only [bn] at hc; try contradiction))
             | skip))
        exact ⟨hlt, trivial, by (repeat' (first | exact trivial | refine And.intro (by first | rfl | (simp [get, Nat.beq]; done) | (simp [get, Nat.beq]; omega) | (dsimp only [get]; congr 1 <;> first | rfl | omega | (simp; done) | (simp; omega))) ?_)), _, rfl⟩
  · have hkl : k = s.fates.length := by omega
    subst hkl
    rw [List.take_length]
    have hX0 : (headText s ++ s.fates.flatMap fateText).length ≤ 5000 + 256 * 100 := by
      have := flat_len (m := 100) s.fates fun x hx => fateText_len x (h.f x hx)
      rw [List.length_append]
      have := Nat.mul_le_mul_right 100 hfl
      omega
    have hne0 : headText s ++ s.fates.flatMap fateText ≠ [] := by simp [headText, lineP1]
    have hfmt : fmtText s = headText s ++ s.fates.flatMap fateText ++ s.steps.flatMap writtenP := rfl
    rw [hfmt]
    clear hfmt
    generalize headText s ++ s.fates.flatMap fateText = X0 at *
    generalize s.fates.length = j0 at *
    repeat' (first
      | ((with_reducible first | show VCs _ | show All _); simp [vb] <;> omega)
      | exact (rfl : some _ = _)
      | (fail_if_success refine awL ?_
         refine evA ?_
         repeat1' dsimp only [c13, fmM, sB7, bldB, rowB, fatesP, stepsP, go_sem]
         first
         | refine aw4 ?_ ?_ rfl ?_
         | apply aw3
         | apply aw2
         | (refine awB (fun hc => ?_) fun hc => ?_ <;> first | (cases hc; done) | (exfalso; simp at hc <;> omega) | (try simp only [bn] at hc; try contradiction))
         | skip))
    refine aw_forJ s.steps.length (fun k => True) (fun k => [(1, .ptr 0 0 0), (4, .ptr 1 0 0), (65, .pv (stepsP s.steps)), (66, .pv (.int .i64 s.steps.length)), (67, .pv (.int .i64 k))]) (fun k => fmM s (X0 ++ (s.steps.take k).flatMap writtenP) (j0 + k)) trivial (by (repeat' (first | exact trivial | refine And.intro (by first | rfl | (simp [get, Nat.beq]; done) | (simp [get, Nat.beq]; omega) | (dsimp only [get]; congr 1 <;> first | rfl | omega | (simp; done) | (simp; omega))) ?_))) ⟨[], by simp [fmM, sB7, bldB, rowB, fatesP, stepsP]⟩ (fun k => ⟨Nat.zero_le _, rfl, fmM_ok s _ _⟩) fun k hk _ => ?_
    have hpl := h.pn
    have hXl : (X0 ++ (s.steps.take k).flatMap writtenP).length ≤ 100000 + 256 * 100000000 := by
      have := flat_len (m := 100000000) (s.steps.take k) fun x hx => writtenP_len x (h.p x (List.mem_of_mem_take hx))
      have h4 : (s.steps.take k).length ≤ 256 := by simp; omega
      rw [List.length_append]
      have := Nat.mul_le_mul_right 100000000 h4
      omega
    by_cases hlt : k < s.steps.length
    · have e := fm_take stepC_len s.steps k zeroStep hlt
      have hs := take_succ_getD s.steps k zeroStep hlt
      have hww := h.p _ (getD_mem (d := zeroStep) hlt)
      have hwl := writtenP_len _ hww
      have hwo := written_ok _ hww
      have hpc := flatMap_length stepC_len s.steps
      have hX : X0 ++ (s.steps.take (k + 1)).flatMap writtenP = (X0 ++ (s.steps.take k).flatMap writtenP) ++ writtenP (s.steps.getD k zeroStep) := by
        rw [hs, List.flatMap_append, List.append_assoc]
        simp
      rw [hX, ← Nat.add_assoc]
      clear hX hs
      generalize X0 ++ (s.steps.take k).flatMap writtenP = X at *
      generalize s.steps.getD k zeroStep = x at *
      generalize hj : j0 + k = j at *
      have hw := fm_write s X (writtenP x) j [⟨(stepC x).map .pv, 0, 10, 41, false⟩] (by simp [okMem, fmM, sB7, bldB, rowB, bnd, Nat.blt, byteA_bnd, stepC]) (by omega)
      repeat' (first
        | ((with_reducible show VCs _); first | exact True.intro | (simp only [vb, lb]; omega) | (simp only [vb, lb, e, hlt, hpc, hw, hwo]; and_intros <;> first | omega | (simp <;> omega)) | (simp [vb, e, hlt, hpc, hw, hwo] <;> omega))
        | ((with_reducible show All _); first | exact True.intro | ((try dsimp only [go_sem]); first | (simp [vb, e, hlt, hpc, hw, hwo] <;> omega) | (simp only [vb, and_true, true_implies]; (repeat' (first | (with_reducible assumption) | (with_reducible apply And.intro) | intro _ | ((fail_if_success (with_reducible show (_ : Int) ≤ _)); assumption))) <;> first | omega | rfl | (simp only [ab, e, hlt, hpc, hw, hwo]; done) | (simp [Nat.mul_one, e, hlt, hpc, hw, hwo] <;> omega) | (simp_all; done))))
        | exact (rfl : some _ = _)
        | (fail_if_success refine awL ?_
           refine evH [(70, { val := some (.pv (stepP x)) }), (71, { val := some (.pv (stepP x)) }), (72, { val := some (.pv (.str (writtenP x))) }), (73, { val := some (.pv (.tup [.int .i64 (writtenP x).length, .val .nilIface])), mem := some (fmM s (X ++ writtenP x) (j + 1) ++ [⟨(stepC x).map .pv, 0, 10, 41, false⟩]) })] ?_
           repeat1' dsimp only [c13, fmM, sB7, bldB, rowB, fatesP, stepsP, stepP, stepC, queriesP, intsP, go_sem]
           first
           | refine aw4 ?_ ?_ rfl ?_
           | apply aw3
           | apply aw2
           | (refine awB (fun hc => ?_) fun hc => ?_ <;> first | (cases hc; done) | (exfalso; first | (simp at hc <;> omega) | (simp [e, hlt, hpc, hw, hwo] at hc; done)) | (try simp only [bn] at hc; try contradiction))
           | skip))
      · exact ⟨congrArg (fun l => AV.pv (PV.agg l)) (by rw [Int.toNat_natCast, e]; rfl), trivial⟩
      · exact ⟨hlt, trivial, by (repeat' (first | exact trivial | refine And.intro (by first | rfl | (simp [get, Nat.beq]; done) | (simp [get, Nat.beq]; omega) | (dsimp only [get]; congr 1 <;> first | rfl | omega | (simp; done) | (simp; omega))) ?_)), _, rfl⟩
    · have hkl : k = s.steps.length := by omega
      subst hkl
      rw [List.take_length] at hXl ⊢
      have hne : X0 ++ s.steps.flatMap writtenP ≠ [] := by simp [hne0]
      generalize X0 ++ s.steps.flatMap writtenP = X at *
      generalize j0 + s.steps.length = j at *
      have hb1 := blen_ok (fmM_ok s X j) (b := 1) (g := 0) (r := 2) (j := j) (n := X.length) rfl
      have hb2 := bstring_ok (μ := fmM s X j) (b := 1) (g := 0) (r := 2) (j := j) hne rfl rfl
      by_cases hbig : 65536 < X.length
      · rw [if_pos hbig, if_pos hbig]
        repeat' (first
          | ((with_reducible first | show VCs _ | show All _); (try dsimp only [go_sem]); first | (simp [vb, hb1] <;> omega) | (simp only [vb, and_true, true_implies]; (repeat' (first | (with_reducible assumption) | (with_reducible apply And.intro) | intro _ | ((fail_if_success (with_reducible show (_ : Int) ≤ _)); assumption))) <;> first | omega | (simp only [ab, hb1]; done) | (simp [hb1] <;> omega)))
          | exact (rfl : some _ = _)
          | (fail_if_success refine awL ?_
             refine evH [(75, { val := some (.pv (.int .i64 X.length)), ro := true })] ?_
             repeat1' dsimp only [c13, fmM, sB7, bldB, rowB, fatesP, stepsP, go_sem]
             first
             | refine aw4 ?_ ?_ rfl ?_
             | apply aw3
             | apply aw2
             | (refine awB (fun hc => ?_) fun hc => ?_ <;> first | (cases hc; done) | (exfalso; simp [hb1] at hc <;> omega) | (try simp only [bn] at hc; try contradiction))
             | skip))
      · rw [if_neg hbig, if_neg hbig]
        repeat' (first
          | ((with_reducible first | show VCs _ | show All _); (try dsimp only [go_sem]); first | (simp [vb, hb1, hb2] <;> omega) | (simp only [vb, and_true, true_implies]; (repeat' (first | (with_reducible assumption) | (with_reducible apply And.intro) | intro _ | ((fail_if_success (with_reducible show (_ : Int) ≤ _)); assumption))) <;> first | omega | (simp only [ab, hb1, hb2]; done) | (simp [hb1, hb2] <;> omega)))
          | exact (rfl : some _ = _)
          | (fail_if_success refine awL ?_
             refine evH [(75, { val := some (.pv (.int .i64 X.length)), ro := true }), (77, { val := some (.pv (.str X)), mem := some ((fmM s X j).set 2 { rowB X j with frozen := true }) })] ?_
             repeat1' dsimp only [c13, fmM, sB7, bldB, rowB, fatesP, stepsP, go_sem]
             first
             | refine aw4 ?_ ?_ rfl ?_
             | apply aw3
             | apply aw2
             | (refine awB (fun hc => ?_) fun hc => ?_ <;> first | (cases hc; done) | (exfalso; simp [hb1, hb2] at hc <;> omega) | (try simp only [bn] at hc; try contradiction))
             | skip))
end
end Pur
end Go.Proofs.YteokbngllldmdaaGreatDoor
namespace Go.Proofs.YteokbngllldmdaaGreatDoor
namespace Pur
open Go.RowKit
section
open Sch
theorem all_mem {l : List Int} {lo hi : Int} (h : allIn l lo hi = true) (h0 : -1000000000 ≤ lo) (h1 : hi ≤ 1000000000) : ∀ n ∈ l, i64 n := fun n hn => by
 have := List.all_eq_true.mp h n hn
 simp only [between, Bool.and_eq_true, decide_eq_true_eq] at this
 unfold i64
 omega
theorem asc_len {hi : Int} : ∀ (l : List Int) (a : Int), ascending (a :: l) = true → (∀ x ∈ a :: l, x ≤ hi) → (l.length : Int) ≤ hi - a
 | [], a, _, h => by have := h a (by simp); simp; omega
 | b :: r, a, h, hb => by
  simp only [ascending, Bool.and_eq_true, decide_eq_true_eq] at h
  have := asc_len r b h.2 fun x hx => hb x (List.mem_cons_of_mem _ hx)
  simp only [List.length_cons]
  omega
theorem wr_of_possible {s : Sched} {x : Step} (h : head s = true) (hf : follows s x = true) : Wr x := by
 simp only [head, follows, possible, between, Bool.and_eq_true, decide_eq_true_eq] at h hf
 obtain ⟨⟨⟨-, ht⟩, -⟩, ⟨⟨hk, hsame⟩, hr⟩, hko⟩ := hf
 have hs := (sameStep_iff x (fieldsOf x)).1 hsame
 have hk7 : x.kind = 0 ∨ x.kind = 1 ∨ x.kind = 2 ∨ x.kind = 3 ∨ x.kind = 4 ∨ x.kind = 5 ∨ x.kind = 6 := by omega
 have e1 := congrArg Step.other hs
 have e2 := congrArg Step.session hs
 have e3 := congrArg Step.action hs
 have e4 := congrArg Step.after hs
 have e5 := congrArg Step.queries hs
 have e6 := congrArg Step.survive hs
 have e7 := congrArg Step.voters hs
 clear hs hsame
 rcases hk7 with hk' | hk' | hk' | hk' | hk' | hk' | hk' <;> simp [fieldsOf, Sch.kindOk, hk', zeroStep, between, allIn] at e1 e2 e3 e4 e5 e6 e7 hko
 all_goals refine ⟨by omega, by omega, by unfold i64; omega, by unfold i64; omega, by unfold i64; omega, by unfold i64; omega, by unfold i64; omega, by unfold i64; omega, ?_, ?_, ?_, ?_, ?_, ?_⟩
 all_goals first
  | (rw [e5]; simp; done)
  | (rw [e6]; simp; done)
  | (rw [e7]; simp; done)
  | omega
  | skip
 ·intro q hq
  have := hko.2 q.1 q.2 hq
  simp only [queryOk, between, Bool.and_eq_true, decide_eq_true_eq] at this
  unfold i64
  omega
 ·intro n hn
  have := hko.2 n hn
  unfold i64
  omega
 ·cases hv : x.voters with
  | nil => simp
  | cons a l =>
   rw [hv] at hko
   have := asc_len (hi := 5) l a hko.1.1 fun y hy => by have := hko.2 y hy; omega
   have := hko.2 a (by simp)
   simp only [List.length_cons]
   omega
 ·intro n hn
  have := hko.2 n hn
  unfold i64
  omega
theorem stepsOk_mem {s : Sched} {R : Sched → Step → Prop} : ∀ (l done : List Step), stepsOk s done l = true → (∀ d x, follows { s with steps := d } x = true → R s x) → ∀ x ∈ l, R s x
 | [], _, _, _, x, hx => by cases hx
 | y :: r, done, h, hR, x, hx => by
  simp only [stepsOk, Bool.and_eq_true] at h
  cases hx with
  | head => exact hR done _ h.1
  | tail _ hx => exact stepsOk_mem r _ h.2 hR x hx
theorem stepsOk_len {s : Sched} : ∀ (l done : List Step), stepsOk s done l = true → l ≠ [] → done.length + l.length ≤ 256
 | [], _, _, h => absurd rfl h
 | y :: r, done, h, _ => by
  simp only [stepsOk, Bool.and_eq_true] at h
  have h1 := h.1
  simp only [follows, Bool.and_eq_true, decide_eq_true_eq] at h1
  cases r with
  | nil => simp; omega
  | cons z r =>
   have := stepsOk_len (z :: r) _ h.2 (by simp)
   simp only [List.length_append, List.length_cons, List.length_nil] at this ⊢
   omega
theorem fm_of_valid {s : Sched} (h : valid s = true) : Fm s := by
 simp only [valid, Bool.and_eq_true, decide_eq_true_eq] at h
 obtain ⟨⟨⟨hh, hf⟩, hfa⟩, hs⟩ := h
 have hh' := hh
 simp only [head, between, Bool.and_eq_true, decide_eq_true_eq] at hh'
 refine ⟨by unfold i64; omega, by unfold i64; omega, by unfold i64; omega, by unfold i64; omega, by omega, all_mem hh'.2 (by decide) (by decide), hf, fun x hx => ?_, ?_, ?_⟩
 ·have := List.all_eq_true.mp hfa x hx
  unfold fateOk at this
  unfold i64
  split at this <;> simp [between] at this <;> omega
 ·by_cases hn : s.steps = []
  ·simp [hn]
  ·have := stepsOk_len s.steps [] hs hn
   simpa using this
 ·refine stepsOk_mem (R := fun _ x => Wr x) s.steps [] hs fun d x hx => ?_
  exact wr_of_possible (s := { s with steps := d }) hh hx
theorem format_ok (s : Sched) (hm1 : s.state.length ≤ 9223372036854775800) (hm2 : s.fates.length ≤ 9223372036854775800) (hm3 : s.steps.length ≤ 9223372036854775800) (hz : ∀ k, Sizes (s.steps.getD k zeroStep)) : PureOK ctx 13 [schedP s] (.tup [.str (formatP s).1, .int .i64 (formatP s).2]) := by
 have hv := Valid_ok s hm1 hm2 hm3 hz
 cases h : valid s with
 | false =>
  rw [h] at hv
  have := format_no s hv
  simpa [formatP, h] using this
 | true =>
  rw [h] at hv
  have := format_yes s (fm_of_valid h) hv
  unfold formatP
  rw [h]
  by_cases hb : 65536 < (fmtText s).length
  ·simpa [hb] using this
  ·simpa [hb] using this
end
end Pur
end Go.Proofs.YteokbngllldmdaaGreatDoor
namespace Go.Proofs.YteokbngllldmdaaGreatDoor
namespace Pur
open Go.RowKit
attribute [local go_sem] evOps evOp evOpV evRun evK argF List.map hintAt stripped get put tmpsOf tmpOf tmpO tmpL tmpP conds ev cond_true cond_false Nat.beq Nat.ble Nat.add quiet After thenR blockR IfD List.append_eq List.nil_append List.cons_append evInt exactI_a exactI_b exactI_c exactI_d exactI_e exactI_f evBin evStr evBool evUn guardC calm quiet.isCallK evPick List.getElem?_cons_zero List.getElem?_cons_succ fromCells fromPVs cellsOf List.all oneCell List.length_cons List.length_nil mkAgg plains List.drop List.take List.getD Option.getD_some bo1 bo2 ba1 ba2 bn1 bn2 kk_i64 kk_u8 kk_i32 kk_u64 setAt List.set Nat.reduceAdd Nat.reduceMul evCall safeCall refsOf refsIn scalarA scalar scalarL thawL mapAll thawArg thawRef after freeze RetD RetE evResult evRess evRes1 thaw_pv mkTup nilOf_a nilOf_b nilOf_bb nilOf_c nilOf_d nilOf_e nilOf_f nilOf_g nilOf_h nilOf_i nilOf_j nilOf_k nilOf_l nilOf_m eqLeaf_a eqLeaf_b eqLeaf_c eqOffs evMM bytesOf evOpsF AfterF footOf footRefs notIn indepF footAt freeOk still evParts fillA zeros intOfA boundA srcOf List.isEmpty appNil_0 appNil_1 appNil_2 Int.reduceToNat Nat.mul_one Nat.reduceSub evC evOpsT evOpsTF autoH tabHint look hintD strip guarded RetPD RetRD mpLen keysOk leafKA leafK bitI nilOf_n nilOf_o Bool.or_false Bool.or_true Bool.and_true Bool.and_false Nat.blt renF renM renB renV idxOf solF solM solA solV thawRef ev1
section
open Sch
theorem keys_shapes : keysOk .str (shapesL.map AV.pv) = true := by
 simp only [shapesL, List.map_cons, List.map_nil, keysOk, leafKA, leafK, Bool.and_self]
def badStep (known ok : Bool) (n : Nat) (lo hi : Int) : Bool := !known || !ok || decide ((n : Int) < lo) || (decide (0 ≤ hi) && decide (hi < n))
set_option maxHeartbeats 4000000 in
theorem step_pre (s : Sched) (st : PV) (w0 w1 w2 : List UInt8) (l : List (List UInt8)) (hm : (w0 :: w1 :: w2 :: l).length ≤ 1000000) (hw : ∀ x ∈ w0 :: w1 :: w2 :: l, x.length ≤ 281474976710656)
  (known : Bool) (lo hi : Int) (hg : mpGet (shapesL.map AV.pv) (.str w2) (.pv (.agg [.int .i64 0, .int .i64 0])) = .pv (.agg [.int .i64 lo, .int .i64 hi])) (hh : mpHas (shapesL.map AV.pv) (.str w2) = known)
  (r : Bool) (μ' : AM) (hl : (rdM s st 5).length ≤ μ'.length) (ho : okMem μ' μ'.length = true) (hno : badStep known (numOf w1).isSome l.length lo hi = true → r = false ∧ μ' = rdM s st 5)
  (hyes : badStep known (numOf w1).isSome l.length lo hi = false → ∀ own, Aw ctx own 188 (rdM s st 5).length step9 (RetRD [.t 4] (.pv (.bool r)) μ')
   [(0, .ptr 1 0 0), (1, .pv (.sl (l.length + 1 + 1 + 1) (.str w0 :: .str w1 :: .str w2 :: l.map .str))), (5, .pv (wordsP kindWords)), (6, .pv (wordsP queryWords)), (9, .pv (.int .i64 (numV w1))), (11, .pv (.sl l.length (l.map .str)))] (rdM s st 5)) :
  RefOK ctx 25 [.ptr 1 0 0, .pv (wordsP (w0 :: w1 :: w2 :: l))] (rdM s st 5) (.pv (.bool r)) μ' := by
 have hN := number_ok w1 (hw w1 (by simp))
 have hlen := rdM_len s st 5
 have hok := rdM_ok s st 5
 generalize hμ : rdM s st 5 = μ at *
 refine ref_body' (C := ctx) (Fn.of fn25 rfl) rfl hl rfl ho ?_
 refine aw_frame [(0, .ptr 1 0 0), (1, .pv (.sl (l.length + 1 + 1 + 1) (.str w0 :: .str w1 :: .str w2 :: l.map .str)))] ⟨rfl, rfl, trivial⟩ ?_
 unfold c25
 have e1 : ((l.length : Int) + 1 + 1 + 1 - 3).toNat = l.length := by omega
 have e2 : List.take l.length (l.map PV.str) = l.map .str := List.take_of_length_le (by simp)
 iterate 9 first
  | refine ⟨fun h => by simp at h <;> omega, fun _ => ?_⟩
  | refine ⟨by simp [vb, words_ok] <;> omega, by simp [vb, words_ok] <;> omega, ?_⟩
  | (refine evT [(64, fun _ => some (.tup [wordsP kindWords, wordsP queryWords]))] ?_; iterate 2 (try simp only [mem2_get, mem2_last, mem2_set0, mem2_set1, mem_last, mem_set, mem_len, go_sem]))
 refine evTH [(65, fun _ => some (.mp shapesL))] [(30, { val := some (.pv (.tup [.agg [.int .i64 lo, .int .i64 hi], .bool known])) })] ?_
 simp only [mem2_get, mem2_last, mem2_set0, mem2_set1, mem_last, mem_set, mem_len, go_sem]
 try simp only [mem2_get, mem2_last, mem2_set0, mem2_set1, mem_last, mem_set, mem_len, go_sem]
 refine ⟨(by simp [vb, keys_shapes] <;> omega), ?_, (by first | rfl | trivial), ?_⟩
 ·simp [All, VCs, hg, hh, shapes_ok, keys_shapes, mkTup, plains]
 refine evTH [(66, fun _ => some (.tup [.int .i64 (numV w1), .bool (numOf w1).isSome]))] [(41, { val := some (.pv (.sl l.length (l.map .str))) })] ?_
 simp only [mem2_get, mem2_last, mem2_set0, mem2_set1, mem_last, mem_set, mem_len, go_sem]
 try simp only [mem2_get, mem2_last, mem2_set0, mem2_set1, mem_last, mem_set, mem_len, go_sem]
 refine ⟨(by simp [vb, hN, e1, e2] <;> omega), (by simp [vb, hN, e1, e2] <;> omega), ?_⟩
 refine evTH [(66, fun _ => some (.tup [.int .i64 (numV w1), .bool (numOf w1).isSome]))] [(41, { val := some (.pv (.sl l.length (l.map .str))) })] ?_
 simp only [mem2_get, mem2_last, mem2_set0, mem2_set1, mem_last, mem_set, mem_len, go_sem]
 try simp only [mem2_get, mem2_last, mem2_set0, mem2_set1, mem_last, mem_set, mem_len, go_sem]
 refine ⟨(by simp [vb, hN, e1, e2] <;> omega), (by simp [vb, hN, e1, e2] <;> omega), ?_⟩
 refine evH [(66, { val := some (.pv (.bool (badStep known (numOf w1).isSome l.length lo hi))) })] ?_
 simp only [mem2_get, mem2_last, mem2_set0, mem2_set1, mem_last, mem_set, mem_len, go_sem]
 try simp only [mem2_get, mem2_last, mem2_set0, mem2_set1, mem_last, mem_set, mem_len, go_sem]
 refine ⟨(by simp [vb] <;> omega), ?_, ?_⟩
 ·simp only [badStep]
  clear hg hh hno hyes hN
  generalize (numOf w1).isSome = b1
  generalize decide ((l.length : Int) < lo) = b2
  generalize decide (0 ≤ hi) = b3
  generalize decide (hi < (l.length : Int)) = b4
  cases known <;> cases b1 <;> cases b2 <;> cases b3 <;> cases b4 <;> simp [All, VCs]
 cases hb : badStep known (numOf w1).isSome l.length lo hi with
 | true =>
  obtain ⟨rfl, rfl⟩ := hno hb
  iterate 5 first
   | refine ⟨fun _ => ?_, fun h => by simp at h <;> omega⟩
   | refine ⟨by simp [vb] <;> omega, by simp [vb] <;> omega, ?_⟩
   | (refine evA ?_; iterate 2 (try simp only [mem2_get, mem2_last, mem2_set0, mem2_set1, mem_last, mem_set, mem_len, go_sem]))
  exact ⟨⟨trivial, trivial⟩, _, rfl⟩
 | false =>
  refine evA ?_
  simp only [mem2_get, mem2_last, mem2_set0, mem2_set1, mem_last, mem_set, mem_len, go_sem]
  refine ⟨fun h => by simp at h <;> omega, fun _ => ?_⟩
  refine evA ?_
  simp only [mem2_get, mem2_last, mem2_set0, mem2_set1, mem_last, mem_set, mem_len, go_sem]
  refine aw_frame [(0, .ptr 1 0 0), (1, .pv (.sl (l.length + 1 + 1 + 1) (.str w0 :: .str w1 :: .str w2 :: l.map .str))), (5, .pv (wordsP kindWords)), (6, .pv (wordsP queryWords)), (9, .pv (.int .i64 (numV w1))), (11, .pv (.sl l.length (l.map .str)))] ⟨rfl, rfl, rfl, rfl, rfl, rfl, trivial⟩ ?_
  exact aw_drop (Nat.le_refl _) (by simp [okFrame, bnd, Nat.blt]; omega) hok (hyes hb _)
set_option maxHeartbeats 1000000 in
theorem step_nine (μ : AM) (R : Exit → AF → AM → Prop) (own : Nat → Bool) (w0 w1 w2 : List UInt8) (l : List (List UInt8)) (t : Int) (K : Nat) (hK : idxW kindWords w2 = K) (h1 : ((K : Int) == 1) = false)
  (h : Aw ctx own 188 μ.length step22 R [(0, .ptr 1 0 0), (11, .pv (wordsP l)), (12, .ptr μ.length 0 0)] (μ ++ [xBlk t K (.pv .nilsl)])) :
  Aw ctx own 188 μ.length step9 R
   [(0, .ptr 1 0 0), (1, .pv (.sl (l.length + 1 + 1 + 1) (.str w0 :: .str w1 :: .str w2 :: l.map .str))), (5, .pv (wordsP kindWords)), (6, .pv (wordsP queryWords)), (9, .pv (.int .i64 t)), (11, .pv (.sl l.length (l.map .str)))] μ := by
 have hI := index_ok kindWords w2 (by simp [kindWords])
 rw [hK] at hI
 unfold step9
 refine evT [(67, fun _ => some (.int .i64 K))] ?_
 simp only [mem2_get, mem2_last, mem2_set0, mem2_set1, mem_last, mem_set, mem_len, go_sem]
 try simp only [mem2_get, mem2_last, mem2_set0, mem2_set1, mem_last, mem_set, mem_len, go_sem]
 refine ⟨(by simp [vb, hI] <;> omega), (by simp [vb, hI] <;> omega), ?_⟩
 refine evA ?_
 simp only [mem2_get, mem2_last, mem2_set0, mem2_set1, mem_last, mem_set, mem_len, go_sem]
 try simp only [mem2_get, mem2_last, mem2_set0, mem2_set1, mem_last, mem_set, mem_len, go_sem]
 refine ⟨(by simp [vb] <;> omega), (by simp [vb] <;> omega), ?_⟩
 rw [h1]
 refine evA ?_
 simp only [mem2_get, mem2_last, mem2_set0, mem2_set1, mem_last, mem_set, mem_len, go_sem]
 refine ⟨fun h => by simp at h <;> omega, fun _ => ?_⟩
 refine evA ?_
 simp only [mem2_get, mem2_last, mem2_set0, mem2_set1, mem_last, mem_set, mem_len, go_sem]
 exact aw_frame [(0, .ptr 1 0 0), (11, .pv (wordsP l)), (12, .ptr μ.length 0 0)] ⟨rfl, rfl, rfl, trivial⟩ h
def queriesOf : List (List UInt8) → Option (List Query)
 | [] => some []
 | k :: c :: r => if idxW queryWords k < 0 then none else match numOf c, queriesOf r with
  | some n, some q => some ((idxW queryWords k, n) :: q)
  | _, _ => none
 | _ => none
def qA (μ : AM) : List Query → AV
 | [] => .pv .nilsl
 | _ :: r => .ref (μ.length + 1) r.length 0 (r.length + 1)
def qB : List Query → AM
 | [] => []
 | x :: r => [⟨((x :: r).flatMap queryC).map .pv, r.length, 2, 55, false⟩]
theorem qA_nil (μ : AM) : qA μ [] = .pv .nilsl := rfl
theorem qA_cons (μ : AM) (x : Query) (r : List Query) : qA μ (x :: r) = .ref (μ.length + 1) r.length 0 (r.length + 1) := rfl
theorem qB_nil : qB [] = [] := rfl
theorem qB_cons (x : Query) (r : List Query) : qB (x :: r) = [⟨((x :: r).flatMap queryC).map .pv, r.length, 2, 55, false⟩] := rfl
def loopInv (μ : AM) (t : Int) (a b : List UInt8) (l : List (List UInt8)) (k : Nat) (f : AF) (μ' : AM) : Prop :=
 ∃ todo done qs, l = done ++ todo ∧ k = todo.length ∧ done.length = 2 * qs.length ∧ (queriesOf l = (queriesOf todo).map (qs ++ ·)) ∧ μ' = μ ++ [xBlk t 1 (qA μ qs)] ++ qB qs ∧
  Sub [(0, .ptr 1 0 0), (6, .pv (wordsP queryWords)), (11, .pv (.sl (l.length + 1 + 1) (.str a :: .str b :: l.map .str))), (12, .ptr μ.length 0 0), (13, .pv (.int .i64 (done.length + 2)))] f
theorem word_at {l done r : List (List UInt8)} {c : List UInt8} (h : l = done ++ c :: r) : (l.map PV.str)[done.length]? = some (.str c) := by simp [h]
theorem word_at1 {l done r : List (List UInt8)} {c d : List UInt8} (h : l = done ++ c :: d :: r) : (l.map PV.str)[done.length + 1]? = some (.str d) := by
 rw [h, List.map_append, List.getElem?_append_right (by simp)]
 simp
set_option maxHeartbeats 4000000 in
theorem step_loop (μ : AM) (hμ : okMem μ μ.length = true) (R : Exit → AF → AM → Prop) (own : Nat → Bool) (t : Int) (a b : List UInt8) (l : List (List UInt8)) (hm : l.length ≤ 100000) (hw : ∀ x ∈ l, x.length ≤ 281474976710656)
  (hno : queriesOf l = none → ∀ f junk, get f 4 = .pv (.bool false) → R .ret f (μ ++ junk))
  (hyes : ∀ qs, queriesOf l = some qs → ∀ f, Sub [(0, .ptr 1 0 0), (6, .pv (wordsP queryWords)), (11, .pv (.sl (l.length + 1 + 1) (.str a :: .str b :: l.map .str))), (12, .ptr μ.length 0 0)] f → R (.exit 0) f (μ ++ [xBlk t 1 (qA μ qs)] ++ qB qs)) :
  Aw ctx own 188 μ.length stepLoop R [(0, .ptr 1 0 0), (6, .pv (wordsP queryWords)), (11, .pv (.sl (l.length + 1 + 1) (.str a :: .str b :: l.map .str))), (12, .ptr μ.length 0 0), (13, .pv (.int .i64 2))] (μ ++ [xBlk t 1 (.pv .nilsl)]) := by
 unfold stepLoop
 refine aw_loop (loopInv μ t a b l) ?_ l.length ?_
 ·rintro k f μ' ⟨todo, done, qs, hx, rfl, hd, hq, rfl, hs⟩
  refine aw_frame _ hs ?_
  have hxl : l.length = done.length + todo.length := by rw [hx, List.length_append]
  have ei : ((done.length : Int) + 2).toNat = done.length + 1 + 1 := by omega
  have ej : ((done.length : Int) + 2 + 1).toNat = done.length + 1 + 1 + 1 := by omega
  refine evA ?_
  simp only [mem2_get, mem2_last, mem2_set0, mem2_set1, mem_last, mem_set, mem_len, go_sem]
  try simp only [mem2_get, mem2_last, mem2_set0, mem2_set1, mem_last, mem_set, mem_len, go_sem]
  refine ⟨(by simp [vb] <;> omega), (by simp [vb] <;> omega), ?_⟩
  refine evA ?_
  simp only [mem2_get, mem2_last, mem2_set0, mem2_set1, mem_last, mem_set, mem_len, go_sem]
  refine ⟨fun hc => ?_, fun hc => ?_⟩
  ·match todo, hx, hxl, hq with
   | [], hx, hxl, hq => simp at hc hxl; omega
   | [c], hx, hxl, hq =>
    have hnone : queriesOf l = none := by rw [hq]; rfl
    have hI := index_ok queryWords c (by simp [queryWords])
    have hc2 := word_at hx
    simp only [List.length_cons, List.length_nil] at hxl
    refine evTH [(67, fun _ => some (.int .i64 (idxW queryWords c)))] [(87, { val := some (.pv (.str c)) })] ?_
    simp only [mem2_get, mem2_last, mem2_set0, mem2_set1, mem_last, mem_set, mem_len, go_sem]
    refine evTH [(67, fun _ => some (.int .i64 (idxW queryWords c)))] [(87, { val := some (.pv (.str c)) })] ?_
    simp only [mem2_get, mem2_last, mem2_set0, mem2_set1, mem_last, mem_set, mem_len, go_sem]
    try simp only [mem2_get, mem2_last, mem2_set0, mem2_set1, mem_last, mem_set, mem_len, go_sem]
    refine ⟨(by simp [vb, hI] <;> omega), ?_, ?_⟩
    ·refine ⟨hI, ?_, trivial⟩
     simp only [ei, Nat.mul_one, List.getElem?_cons_succ, hc2, Option.getD_some]
    refine evH [(97, { val := some (.pv (.bool true)) })] ?_
    simp only [mem2_get, mem2_last, mem2_set0, mem2_set1, mem_last, mem_set, mem_len, go_sem]
    try simp only [mem2_get, mem2_last, mem2_set0, mem2_set1, mem_last, mem_set, mem_len, go_sem]
    refine ⟨(by simp [vb] <;> omega), ?_, ?_⟩
    ·have : ((done.length : Int) + 2 + 1 == ((l.length + 1 + 1 : Nat) : Int)) = true := by simp; omega
     simp [All, VCs, minI, maxI, this]
     omega
    iterate 5 first
     | refine ⟨fun _ => ?_, fun h => by simp at h <;> omega⟩
     | refine ⟨by simp [vb] <;> omega, by simp [vb] <;> omega, ?_⟩
     | (refine evA ?_; iterate 2 (try simp only [mem2_get, mem2_last, mem2_set0, mem2_set1, mem_last, mem_set, mem_len, go_sem]))
    rw [List.append_assoc]
    exact hno hnone _ _ rfl
   | c :: d :: r, hx, hxl, hq =>
    have hI := index_ok queryWords c (by simp [queryWords])
    have hN := number_ok d (hw d (by simp [hx]))
    have hc2 := word_at hx
    have hd2 := word_at1 hx
    simp only [List.length_cons] at hxl
    refine evTH [(67, fun _ => some (.int .i64 (idxW queryWords c)))] [(87, { val := some (.pv (.str c)) })] ?_
    simp only [mem2_get, mem2_last, mem2_set0, mem2_set1, mem_last, mem_set, mem_len, go_sem]
    refine evTH [(67, fun _ => some (.int .i64 (idxW queryWords c)))] [(87, { val := some (.pv (.str c)) })] ?_
    simp only [mem2_get, mem2_last, mem2_set0, mem2_set1, mem_last, mem_set, mem_len, go_sem]
    try simp only [mem2_get, mem2_last, mem2_set0, mem2_set1, mem_last, mem_set, mem_len, go_sem]
    refine ⟨(by simp [vb, hI] <;> omega), ?_, ?_⟩
    ·refine ⟨hI, ?_, trivial⟩
     simp only [ei, Nat.mul_one, List.getElem?_cons_succ, hc2, Option.getD_some]
    have hne : ((done.length : Int) + 2 + 1 == ((l.length + 1 + 1 : Nat) : Int)) = false := by simp; omega
    by_cases hneg : idxW queryWords c < 0
    ·have hnone : queriesOf l = none := by rw [hq]; simp [queriesOf, hneg]
     refine evH [(97, { val := some (.pv (.bool true)) })] ?_
     simp only [mem2_get, mem2_last, mem2_set0, mem2_set1, mem_last, mem_set, mem_len, go_sem]
     try simp only [mem2_get, mem2_last, mem2_set0, mem2_set1, mem_last, mem_set, mem_len, go_sem]
     refine ⟨(by simp [vb] <;> omega), ?_, ?_⟩
     ·first | (simp [All, VCs, minI, maxI, hneg]; done) | (simp [All, VCs, minI, maxI, hneg]; omega)
     iterate 5 first
      | refine ⟨fun _ => ?_, fun h => by simp at h <;> omega⟩
      | refine ⟨by simp [vb] <;> omega, by simp [vb] <;> omega, ?_⟩
      | (refine evA ?_; iterate 2 (try simp only [mem2_get, mem2_last, mem2_set0, mem2_set1, mem_last, mem_set, mem_len, go_sem]))
     rw [List.append_assoc]
     exact hno hnone _ _ rfl
    ·refine evH [(97, { val := some (.pv (.bool false)) })] ?_
     simp only [mem2_get, mem2_last, mem2_set0, mem2_set1, mem_last, mem_set, mem_len, go_sem]
     try simp only [mem2_get, mem2_last, mem2_set0, mem2_set1, mem_last, mem_set, mem_len, go_sem]
     refine ⟨(by simp [vb] <;> omega), ?_, ?_⟩
     ·simp [All, VCs, minI, maxI, hneg, hne]
      omega
     refine evTH [(66, fun _ => some (.tup [.int .i64 (numV d), .bool (numOf d).isSome]))] [(103, { val := some (.pv (.str d)) })] ?_
     simp only [mem2_get, mem2_last, mem2_set0, mem2_set1, mem_last, mem_set, mem_len, go_sem]
     refine ⟨fun h => by simp at h <;> omega, fun _ => ?_⟩
     refine evTH [(66, fun _ => some (.tup [.int .i64 (numV d), .bool (numOf d).isSome]))] [(103, { val := some (.pv (.str d)) })] ?_
     simp only [mem2_get, mem2_last, mem2_set0, mem2_set1, mem_last, mem_set, mem_len, go_sem]
     refine evTH [(66, fun _ => some (.tup [.int .i64 (numV d), .bool (numOf d).isSome]))] [(103, { val := some (.pv (.str d)) })] ?_
     simp only [mem2_get, mem2_last, mem2_set0, mem2_set1, mem_last, mem_set, mem_len, go_sem]
     try simp only [mem2_get, mem2_last, mem2_set0, mem2_set1, mem_last, mem_set, mem_len, go_sem]
     refine ⟨(by simp [vb, hN] <;> omega), ?_, ?_⟩
     ·refine ⟨hN, ?_, trivial⟩
      simp only [ej, Nat.mul_one, List.getElem?_cons_succ, hd2, Option.getD_some]
     cases hnd : numOf d with
     | none =>
      have hnone : queriesOf l = none := by rw [hq]; simp [queriesOf, hneg, hnd]
      iterate 7 first
       | refine ⟨fun _ => ?_, fun h => by simp at h <;> omega⟩
       | refine ⟨by simp [vb] <;> omega, by simp [vb] <;> omega, ?_⟩
       | (refine evA ?_; iterate 2 (try simp only [mem2_get, mem2_last, mem2_set0, mem2_set1, mem_last, mem_set, mem_len, go_sem]))
      rw [List.append_assoc]
      exact hno hnone _ _ rfl
     | some v =>
      have hv := numOf_numV hnd
      have hq2 : queriesOf l = (queriesOf r).map ((qs ++ [(idxW queryWords c, v)]) ++ ·) := by
       rw [hq]
       simp only [queriesOf, hneg, if_false, hnd]
       cases queriesOf r <;> simp
      have hend : ∀ f μ', μ' = μ ++ [xBlk t 1 (qA μ (qs ++ [(idxW queryWords c, v)]))] ++ qB (qs ++ [(idxW queryWords c, v)]) → Sub [(0, .ptr 1 0 0), (6, .pv (wordsP queryWords)), (11, .pv (.sl (l.length + 1 + 1) (.str a :: .str b :: l.map .str))), (12, .ptr μ.length 0 0), (13, .pv (.int .i64 (done.length + 2 + 2)))] f →
        ∃ j, j < (c :: d :: r).length ∧ loopInv μ t a b l j f μ' := fun f μ' h1 h2 =>
       ⟨r.length, by first | (simp; done) | (simp; omega), r, done ++ [c, d], qs ++ [(idxW queryWords c, v)], by simp [hx], rfl, by first | (simp [hd]; done) | (simp; omega), hq2, h1, by
        have : (((done ++ [c, d]).length : Nat) : Int) + 2 = (done.length : Int) + 2 + 2 := by first | (simp; done) | (simp; omega)
        rw [this]
        exact h2⟩
      subst hv
      cases qs with
      | nil =>
       iterate 5 first
        | refine ⟨fun h => by simp at h <;> omega, fun _ => ?_⟩
        | refine ⟨by simp [vb] <;> omega, by simp [vb] <;> omega, ?_⟩
        | (refine evA ?_; iterate 2 (try simp only [qA_nil, qB_nil, xBlk, List.append_nil, mem2_get, mem2_last, mem2_set0, mem2_set1, mem_last, mem_set, mem_len, go_sem]))
       refine evA ?_
       simp only [qA_nil, qB_nil, xBlk, List.append_nil, mem2_get, mem2_last, mem2_set0, mem2_set1, mem_last, mem_set, mem_len, go_sem]
       try simp only [qA_nil, qB_nil, xBlk, List.append_nil, mem2_get, mem2_last, mem2_set0, mem2_set1, mem_last, mem_set, mem_len, go_sem]
       refine ⟨(by first | exact True.intro | (simp only [vb, lb]; omega) | (simp [vb] <;> omega)), (by first | exact True.intro | ((try dsimp only [go_sem]); first | (simp [vb] <;> omega) | (simp only [vb, and_true, true_implies]; (repeat' (first | (with_reducible assumption) | (with_reducible apply And.intro) | intro _ | ((fail_if_success (with_reducible show (_ : Int) ≤ _)); assumption))) <;> first | omega | rfl | (simp only [ab]; done) | (simp [Nat.mul_one] <;> omega) | (simp_all; done)))), ?_⟩
       refine evA ?_
       simp only [qA_nil, qB_nil, xBlk, List.append_nil, mem2_get, mem2_last, mem2_set0, mem2_set1, mem_last, mem_set, mem_len, go_sem]
       try simp only [qA_nil, qB_nil, xBlk, List.append_nil, mem2_get, mem2_last, mem2_set0, mem2_set1, mem_last, mem_set, mem_len, go_sem]
       refine ⟨(by simp [vb] <;> omega), (by simp [vb] <;> omega), ?_⟩
       refine hend _ _ ?_ ⟨rfl, rfl, rfl, rfl, rfl, trivial⟩
       simp [qA, qB, xBlk, queryC]
      | cons q0 qr =>
       simp only [List.length_cons] at hd
       iterate 5 first
        | refine ⟨fun h => by simp at h <;> omega, fun _ => ?_⟩
        | refine ⟨by simp [vb, flatMap_length queryC_len] <;> omega, by simp [vb, flatMap_length queryC_len] <;> omega, ?_⟩
        | (refine evA ?_; iterate 2 (try simp only [qA_cons, qB_cons, xBlk, mem2_get, mem2_last, mem2_set0, mem2_set1, mem_last, mem_set, mem_len, go_sem]))
       refine evA ?_
       simp only [qA_cons, qB_cons, xBlk, mem2_get, mem2_last, mem2_set0, mem2_set1, mem_last, mem_set, mem_len, go_sem]
       try simp only [qA_cons, qB_cons, xBlk, mem2_get, mem2_last, mem2_set0, mem2_set1, mem_last, mem_set, mem_len, go_sem]
       refine ⟨(by first | exact True.intro | (simp only [vb, lb]; omega) | (simp only [vb, lb, flatMap_length queryC_len]; and_intros <;> first | omega | (simp <;> omega)) | (simp [vb, flatMap_length queryC_len] <;> omega)), (by first | exact True.intro | ((try dsimp only [go_sem]); first | (simp [vb, flatMap_length queryC_len] <;> omega) | (simp only [vb, and_true, true_implies]; (repeat' (first | (with_reducible assumption) | (with_reducible apply And.intro) | intro _ | ((fail_if_success (with_reducible show (_ : Int) ≤ _)); assumption))) <;> first | omega | rfl | (simp only [ab, flatMap_length queryC_len]; done) | (simp [Nat.mul_one, flatMap_length queryC_len] <;> omega) | (simp_all; done)))), ?_⟩
       refine evA ?_
       simp only [qA_cons, qB_cons, xBlk, mem2_get, mem2_last, mem2_set0, mem2_set1, mem_last, mem_set, mem_len, go_sem]
       try simp only [qA_cons, qB_cons, xBlk, mem2_get, mem2_last, mem2_set0, mem2_set1, mem_last, mem_set, mem_len, go_sem]
       refine ⟨(by simp [vb, flatMap_length queryC_len] <;> omega), (by simp [vb, flatMap_length queryC_len] <;> omega), ?_⟩
       refine hend _ _ ?_ ⟨rfl, rfl, rfl, rfl, rfl, trivial⟩
       simp [qA, qB, xBlk, queryC]
  ·have ht : todo = [] := by
    have : ¬ ((done.length : Int) + 2 < ((l.length + 1 + 1 : Nat) : Int)) := by simpa using hc
    exact List.eq_nil_of_length_eq_zero (by omega)
   subst ht
   refine evA ?_
   simp only [mem2_get, mem2_last, mem2_set0, mem2_set1, mem_last, mem_set, mem_len, go_sem]
   exact hyes qs (by rw [hq]; simp [queriesOf]) _ ⟨rfl, rfl, rfl, rfl, trivial⟩
 ·exact ⟨l, [], [], rfl, rfl, rfl, by simp, by simp [qA_nil, qB_nil], rfl, rfl, rfl, rfl, rfl, trivial⟩
def queriesN : List Query → PV
 | [] => .nilsl
 | x :: r => .sl (r.length + 1) ((x :: r).flatMap queryC)
theorem queriesN_weak (qs : List Query) : CW (.pv (queriesN qs)) (.pv (queriesP qs)) := by
 cases qs with
 | nil => exact CW.nil
 | cons x r => exact CW.refl _
set_option maxHeartbeats 1000000 in
theorem step_nine_read (μ : AM) (hμ : okMem μ μ.length = true) (hlen : 3 ≤ μ.length) (R : Exit → AF → AM → Prop) (own : Nat → Bool) (w0 w1 w2 a b : List UInt8) (l : List (List UInt8)) (t : Int) (hK : idxW kindWords w2 = 1) (hm : l.length ≤ 100000) (hw : ∀ x ∈ l, x.length ≤ 281474976710656)
  (hno : queriesOf l = none → ∀ f junk, get f 4 = .pv (.bool false) → R .ret f (μ ++ junk))
  (hyes : ∀ qs, queriesOf l = some qs → Aw ctx own 188 μ.length step22 R [(0, .ptr 1 0 0), (11, .pv (wordsP [a, b])), (12, .ptr μ.length 0 0)] (μ ++ [xBlk t 1 (.pv (queriesN qs))])) :
  Aw ctx own 188 μ.length step9 R
   [(0, .ptr 1 0 0), (1, .pv (.sl (l.length + 1 + 1 + 1 + 1 + 1) (.str w0 :: .str w1 :: .str w2 :: .str a :: .str b :: l.map .str))), (5, .pv (wordsP kindWords)), (6, .pv (wordsP queryWords)), (9, .pv (.int .i64 t)), (11, .pv (.sl (l.length + 1 + 1) (.str a :: .str b :: l.map .str)))] μ := by
 have hI := index_ok kindWords w2 (by simp [kindWords])
 rw [hK] at hI
 unfold step9
 refine evT [(67, fun _ => some (.int .i64 1))] ?_
 simp only [mem2_get, mem2_last, mem2_set0, mem2_set1, mem_last, mem_set, mem_len, go_sem]
 try simp only [mem2_get, mem2_last, mem2_set0, mem2_set1, mem_last, mem_set, mem_len, go_sem]
 refine ⟨(by simp [vb, hI] <;> omega), (by simp [vb, hI] <;> omega), ?_⟩
 iterate 6 first
  | refine ⟨fun _ => ?_, fun h => by simp at h <;> omega⟩
  | refine ⟨by simp [vb] <;> omega, by simp [vb] <;> omega, ?_⟩
  | (refine evA ?_; iterate 2 (try simp only [mem2_get, mem2_last, mem2_set0, mem2_set1, mem_last, mem_set, mem_len, go_sem]))
 refine aw_block (aw_frame [(0, .ptr 1 0 0), (6, .pv (wordsP queryWords)), (11, .pv (.sl (l.length + 1 + 1) (.str a :: .str b :: l.map .str))), (12, .ptr μ.length 0 0), (13, .pv (.int .i64 2))] ⟨rfl, rfl, rfl, rfl, rfl, trivial⟩ ?_)
 refine step_loop μ hμ _ own t a b l hm hw hno fun qs hqs f hf => ?_
 have hy := hyes qs hqs
 refine aw_frame _ hf ?_
 refine aw_frame [(0, .ptr 1 0 0), (11, .pv (.sl (l.length + 1 + 1) (.str a :: .str b :: l.map .str))), (12, .ptr μ.length 0 0)] ⟨rfl, rfl, rfl, trivial⟩ ?_
 cases qs with
 | nil =>
  simp only [qA_nil, qB_nil, List.append_nil]
  refine evA ?_
  simp only [mem2_get, mem2_last, mem2_set0, mem2_set1, mem_last, mem_set, mem_len, go_sem]
  try simp only [mem2_get, mem2_last, mem2_set0, mem2_set1, mem_last, mem_set, mem_len, go_sem]
  refine ⟨(by simp [vb] <;> omega), (by simp [vb] <;> omega), ?_⟩
  exact aw_frame [(0, .ptr 1 0 0), (11, .pv (wordsP [a, b])), (12, .ptr μ.length 0 0)] ⟨rfl, by simp [get, wordsP], rfl, trivial⟩ hy
 | cons q0 qr =>
  refine aw_rowDone (c1 := [.int .i64 t, .int .i64 1, .int .i64 0, .int .i64 0, .int .i64 0, .int .i64 0, .int .i64 0]) (c2 := [.nilsl, .nilsl]) (ps := (q0 :: qr).flatMap queryC) (n := qr.length + 1) (sz := 2) hμ (Nat.le_refl _) (by simp) (by rw [flatMap_length queryC_len]; simp) (fun M => rfl) (by simp [okFrame, bnd, Nat.blt]; omega) ?_
  refine evA ?_
  simp only [mem2_get, mem2_last, mem2_set0, mem2_set1, mem_last, mem_set, mem_len, go_sem]
  try simp only [mem2_get, mem2_last, mem2_set0, mem2_set1, mem_last, mem_set, mem_len, go_sem]
  refine ⟨(by simp [vb] <;> omega), (by simp [vb] <;> omega), ?_⟩
  exact aw_frame [(0, .ptr 1 0 0), (11, .pv (wordsP [a, b])), (12, .ptr μ.length 0 0)] ⟨rfl, by simp [get, wordsP], rfl, trivial⟩ hy
end
section
open Sch
def shapeOf : Nat → Int × Int
 | 0 => (3, 3)
 | 1 => (4, -1)
 | 2 => (2, 2)
 | 3 => (2, 2)
 | 4 => (2, -1)
 | 5 => (1, 1)
 | _ => (2, -1)
theorem kind_cases (w : List UInt8) : (idxW kindWords w = -1 ∧ mpGet (shapesL.map AV.pv) (.str w) (.pv (.agg [.int .i64 0, .int .i64 0])) = .pv (.agg [.int .i64 0, .int .i64 0]) ∧ mpHas (shapesL.map AV.pv) (.str w) = false) ∨
  ∃ K : Nat, K ≤ 6 ∧ idxW kindWords w = K ∧ mpGet (shapesL.map AV.pv) (.str w) (.pv (.agg [.int .i64 0, .int .i64 0])) = .pv (.agg [.int .i64 (shapeOf K).1, .int .i64 (shapeOf K).2]) ∧ mpHas (shapesL.map AV.pv) (.str w) = true := by
 by_cases h0 : w = [115, 117, 98, 109, 105, 116]
 ·subst h0; exact .inr ⟨0, by omega, rfl, rfl, rfl⟩
 by_cases h1 : w = [114, 101, 97, 100]
 ·subst h1; exact .inr ⟨1, by omega, rfl, rfl, rfl⟩
 by_cases h2 : w = [99, 117, 116]
 ·subst h2; exact .inr ⟨2, by omega, rfl, rfl, rfl⟩
 by_cases h3 : w = [104, 101, 97, 108]
 ·subst h3; exact .inr ⟨3, by omega, rfl, rfl, rfl⟩
 by_cases h4 : w = [99, 114, 97, 115, 104]
 ·subst h4; exact .inr ⟨4, by omega, rfl, rfl, rfl⟩
 by_cases h5 : w = [114, 101, 115, 116, 97, 114, 116]
 ·subst h5; exact .inr ⟨5, by omega, rfl, rfl, rfl⟩
 by_cases h6 : w = [118, 111, 116, 101, 114, 115]
 ·subst h6; exact .inr ⟨6, by omega, rfl, rfl, rfl⟩
 have q0 := beq_eq_false_iff_ne.mpr h0
 have q1 := beq_eq_false_iff_ne.mpr h1
 have q2 := beq_eq_false_iff_ne.mpr h2
 have q3 := beq_eq_false_iff_ne.mpr h3
 have q4 := beq_eq_false_iff_ne.mpr h4
 have q5 := beq_eq_false_iff_ne.mpr h5
 have q6 := beq_eq_false_iff_ne.mpr h6
 refine .inl ⟨?_, ?_, ?_⟩
 ·simp [idxW, kindWords, List.findIdx?_cons, h0, h1, h2, h3, h4, h5, h6]
 ·simp [shapesL, mpGet, eqKey, q0, q1, q2, q3, q4, q5, q6]
 ·simp [shapesL, mpHas, eqKey, h0, h1, h2, h3, h4, h5, h6]
def stepOf : List (List UInt8) → Option Step
 | w1 :: w2 :: l =>
  if idxW kindWords w2 < 0 then none else
  if badStep true (numOf w1).isSome l.length (shapeOf (idxW kindWords w2).toNat).1 (shapeOf (idxW kindWords w2).toNat).2 then none else
  if idxW kindWords w2 = 1 then match queriesOf (l.drop 2), numsOf (l.take 2) with
   | some q, some n => some (buildStep 1 (numV w1) q n)
   | _, _ => none
  else match numsOf l with
   | some n => some (buildStep (idxW kindWords w2).toNat (numV w1) [] n)
   | none => none
 | _ => none
theorem buildStep_sizes (K : Nat) (t : Int) (qs : List Query) (n : List Int) (hq : qs.length ≤ 1000000) (hn : n.length ≤ 1000000) : Sizes (buildStep K t qs n) := by
 have hz : Sizes zeroStep := ⟨by simp [zeroStep], by simp [zeroStep], by simp [zeroStep]⟩
 unfold buildStep
 split <;> first | exact hz | exact ⟨by simp; omega, by simp at hn ⊢; try omega, by simp at hn ⊢; try omega⟩
theorem queriesOf_len : ∀ {l : List (List UInt8)} {q : List Query}, queriesOf l = some q → q.length ≤ l.length
 | [], q, h => by simp only [queriesOf, Option.some.injEq] at h; subst h; simp
 | [_], q, h => by simp [queriesOf] at h
 | a :: b :: r, q, h => by
  simp only [queriesOf] at h
  split at h
  ·cases h
  ·split at h
   ·rename_i n q' h1 h2
    injection h with h
    subst h
    have := queriesOf_len h2
    simp
    omega
   ·cases h
theorem lens_of {K : Nat} (hK : K ≤ 6) {ok : Bool} {n : Nat} (h : badStep true ok n (shapeOf K).1 (shapeOf K).2 = false) (h1 : K ≠ 1) : lensOk K n = true := by
 match K, hK, h1 with
 | 0, _, _ | 2, _, _ | 3, _, _ | 5, _, _ => simp [badStep, shapeOf] at h; simp [lensOk]; omega
 | 4, _, _ | 6, _, _ => simp [badStep, shapeOf] at h; simp [lensOk]; omega
 | 1, _, h => exact absurd rfl h
set_option maxHeartbeats 1000000 in
theorem step_all (s : Sched) (w0 : List UInt8) (l : List (List UInt8)) (hm : (w0 :: l).length ≤ 100000) (hw : ∀ x ∈ w0 :: l, x.length ≤ 281474976710656) (r : Bool) (μ' : AM) (hl : (rdM s (intsP s.state) 5).length ≤ μ'.length) (ho : okMem μ' μ'.length = true)
  (hno : stepOf l = none → r = false ∧ μ' = rdM s (intsP s.state) 5)
  (hyes : ∀ x, stepOf l = some x → ∀ own, Aw ctx own 188 (rdM s (intsP s.state) 5).length stepEnd (RetRD [.t 4] (.pv (.bool r)) μ') [(0, .ptr 1 0 0), (12, .ptr (rdM s (intsP s.state) 5).length 0 0)] (rdM s (intsP s.state) 5 ++ [stepBlk x])) :
  RefOK ctx 25 [.ptr 1 0 0, .pv (wordsP (w0 :: l))] (rdM s (intsP s.state) 5) (.pv (.bool r)) μ' := by
 match l, hm, hw, hno, hyes with
 | [], hm, hw, hno, hyes =>
  obtain ⟨rfl, rfl⟩ := hno rfl
  generalize rdM s (intsP s.state) 5 = μ at *
  refine ref_body' (C := ctx) (Fn.of fn25 rfl) rfl hl rfl ho ?_
  unfold c25
  iterate 9 first
   | refine ⟨fun _ => ?_, fun h => by simp at h <;> omega⟩
   | refine ⟨by simp [vb] <;> omega, by simp [vb] <;> omega, ?_⟩
   | (refine evA ?_; iterate 2 (try dsimp only [wordsP, go_sem]))
  exact ⟨⟨trivial, rfl⟩, [], (List.append_nil _).symm⟩
 | [w1], hm, hw, hno, hyes =>
  obtain ⟨rfl, rfl⟩ := hno rfl
  generalize rdM s (intsP s.state) 5 = μ at *
  refine ref_body' (C := ctx) (Fn.of fn25 rfl) rfl hl rfl ho ?_
  unfold c25
  iterate 9 first
   | refine ⟨fun _ => ?_, fun h => by simp at h <;> omega⟩
   | refine ⟨by simp [vb] <;> omega, by simp [vb] <;> omega, ?_⟩
   | (refine evA ?_; iterate 2 (try dsimp only [wordsP, go_sem]))
  exact ⟨⟨trivial, rfl⟩, [], (List.append_nil _).symm⟩
 | w1 :: w2 :: l, hm, hw, hno, hyes =>
  have hlen := rdM_len s (intsP s.state) 5
  have hok := rdM_ok s (intsP s.state) 5
  simp only [List.length_cons] at hm
  rcases kind_cases w2 with ⟨hi, hg, hh⟩ | ⟨K, hK, hi, hg, hh⟩
  ·refine step_pre s _ w0 w1 w2 l (by simp; omega) hw false 0 0 hg hh r μ' hl ho (fun _ => hno (by simp [stepOf, hi])) fun hb => ?_
   simp [badStep] at hb
  ·have hi0 : ¬ idxW kindWords w2 < 0 := by omega
   have hit : (idxW kindWords w2).toNat = K := by omega
   refine step_pre s _ w0 w1 w2 l (by simp; omega) hw true _ _ hg hh r μ' hl ho (fun hb => hno ?_) fun hb own => ?_
   ·simp only [stepOf, hi0, if_false, hit, hb, if_true]
   ·by_cases h1 : K = 1
    ·subst h1
     have h4 : 4 ≤ l.length := by
      simp [badStep, shapeOf] at hb
      omega
     match l, h4, hm, hw, hno, hyes, hb with
     | a :: b :: l, h4, hm, hw, hno, hyes, hb =>
      simp only [List.length_cons] at hm
      have hso : stepOf (w1 :: w2 :: a :: b :: l) = match queriesOf l, numsOf [a, b] with
       | some q, some n => some (buildStep 1 (numV w1) q n)
       | _, _ => none := by
       have hi1 : idxW kindWords w2 = 1 := by simpa using hi
       simp only [stepOf]
       rw [if_neg hi0, hit, if_neg (by rw [hb]; simp), if_pos hi1]
       rfl
      refine step_nine_read _ hok hlen _ own w0 w1 w2 a b l (numV w1) (by simpa using hi) (by omega) (fun x hx => hw x (by simp [hx])) (fun hq f junk hf => ?_) fun qs hqs => ?_
      ·obtain ⟨rfl, rfl⟩ := hno (by rw [hso, hq])
       exact ⟨⟨trivial, hf⟩, junk, rfl⟩
      ·refine step_mid _ hok 1 (numV w1) (.pv (queriesN qs)) (by cases qs <;> rfl) qs (queriesN_weak qs) w0 [a, b] (by simp) (fun x hx => hw x (by simp at hx ⊢; rcases hx with h | h | h <;> simp [h])) rfl r μ' own (fun hn => hno (by rw [hso, hqs, hn])) fun n hn => ?_
       exact hyes _ (by rw [hso, hqs, hn]) own
    ·have hso : stepOf (w1 :: w2 :: l) = match numsOf l with
      | some n => some (buildStep K (numV w1) [] n)
      | none => none := by
      have : ¬ idxW kindWords w2 = 1 := by omega
      simp only [stepOf, hi0, if_false, hit, hb, Bool.false_eq_true, this]
     refine step_nine _ _ own w0 w1 w2 l (numV w1) K hi (by simp; omega) ?_
     refine step_mid _ hok K (numV w1) (.pv .nilsl) rfl [] CW.nil w0 l (by simp; omega) (fun x hx => hw x (by simp at hx ⊢; rcases hx with h | h <;> simp [h])) (lens_of hK hb h1) r μ' own (fun hn => hno (by rw [hso, hn])) fun n hn => ?_
     exact hyes _ (by rw [hso, hn]) own
theorem stepOf_sizes {l : List (List UInt8)} {x : Step} (hm : l.length ≤ 1000000) (h : stepOf l = some x) : Sizes x := by
 match l, h with
 | w1 :: w2 :: l, h =>
  simp only [List.length_cons] at hm
  simp only [stepOf] at h
  split at h
  ·cases h
  ·split at h
   ·cases h
   ·split at h
    ·split at h
     ·rename_i q n h1 h2
      injection h with h
      subst h
      have := queriesOf_len h1
      have h3 := numsOf_len h2
      simp at this h3
      exact buildStep_sizes _ _ _ _ (by omega) (by omega)
     ·cases h
    ·split at h
     ·rename_i n h2
      injection h with h
      subst h
      have h3 := numsOf_len h2
      exact buildStep_sizes _ _ _ _ (by simp) (by omega)
     ·cases h
theorem rdM_app_len (s : Sched) (st : PV) (next : Int) (x : Step) : (rdM s st next).length ≤ (rdM { s with steps := s.steps ++ [x] } st next).length := by
 obtain ⟨a, b, c, d, e, fs, ss⟩ := s
 cases ss <;> simp [rdM, stepsB]
theorem step_ok (s : Sched) (w0 : List UInt8) (l : List (List UInt8)) (hm : (w0 :: l).length ≤ 100000) (hw : ∀ x ∈ w0 :: l, x.length ≤ 281474976710656) (hs : Mild s) (hn : s.steps.length ≤ 1000000) :
  match stepOf l with
  | some x => if follows s x then RefOK ctx 25 [.ptr 1 0 0, .pv (wordsP (w0 :: l))] (rdM s (intsP s.state) 5) (.pv (.bool true)) (rdM { s with steps := s.steps ++ [x] } (intsP s.state) 5)
   else RefOK ctx 25 [.ptr 1 0 0, .pv (wordsP (w0 :: l))] (rdM s (intsP s.state) 5) (.pv (.bool false)) (rdM s (intsP s.state) 5)
  | none => RefOK ctx 25 [.ptr 1 0 0, .pv (wordsP (w0 :: l))] (rdM s (intsP s.state) 5) (.pv (.bool false)) (rdM s (intsP s.state) 5) := by
 have hm2 := hm
 simp only [List.length_cons] at hm2
 cases ho : stepOf l with
 | none => exact step_all s w0 l hm hw false _ (Nat.le_refl _) (rdM_ok _ _ _) (fun _ => ⟨rfl, rfl⟩) fun x hx => by rw [ho] at hx; cases hx
 | some x =>
  have hz := stepOf_sizes (by omega) ho
  simp only
  split
  ·rename_i hf
   refine step_all s w0 l hm hw true _ (rdM_app_len _ _ _ _) (rdM_ok _ _ _) (fun h => by rw [ho] at h; cases h) fun y hy own => ?_
   rw [ho] at hy; injection hy with hy; subst hy
   exact step_end s x hs hz hn hf own _ rfl
  ·rename_i hf
   refine step_all s w0 l hm hw false _ (Nat.le_refl _) (rdM_ok _ _ _) (fun h => by rw [ho] at h; cases h) fun y hy own => ?_
   rw [ho] at hy; injection hy with hy; subst hy
   exact step_end_no s x hs hz hn (by simpa using hf) own
end
section
open Sch
def c29 : ACode := (⟨_, by conv => (lhs; reduce; try simp only [lt1, Int.cast_ofNat_Int, Int.reduceNegSucc, UInt8.reduceOfNat])⟩ : {x // codeOf Tryz.prog 29 (fun d => Nat.beq d 69) = some x}).1
theorem fn29 : fnOf Tryz.prog 29 (fun d => Nat.beq d 69) = some (c29, [.t 4], 128, true) := by kernel_rfl
def headName : Nat → List UInt8
 | 0 => [114, 101, 112, 108, 105, 99, 97, 115]
 | 1 => [115, 101, 115, 115, 105, 111, 110, 115]
 | 2 => [115, 101, 99, 116, 111, 114, 115]
 | 3 => [116, 105, 99, 107, 115]
 | _ => [115, 116, 97, 116, 101]
def headLo : Nat → Int
 | 0 => 1
 | 1 => 0
 | 2 => 8
 | _ => 0
def headHi : Nat → Int
 | 0 => 5
 | 1 => 8
 | 2 => 2048
 | _ => 1048576
def setHead (s : Sched) (k : Nat) (n : Int) : Sched := match k with
 | 0 => { s with replicas := n }
 | 1 => { s with sessions := n }
 | 2 => { s with sectors := n }
 | _ => { s with ticks := n }
def headOf (k : Nat) (w0 : List UInt8) (l : List (List UInt8)) : Option (List Int) := match numsOf l with
 | some ns => if w0 == headName k && (decide (4 ≤ k) || ns.length == 1) then some ns else none
 | none => none
set_option maxHeartbeats 4000000 in
theorem head_none (a b c d : Int) (st : PV) (k : Nat) (hk : k < 5) (w0 : List UInt8) (l : List (List UInt8)) (hm : (w0 :: l).length ≤ 1000000) (hw : ∀ x ∈ w0 :: l, x.length ≤ 281474976710656) (h : headOf k w0 l = none) :
  RefOK ctx 29 [.ptr 1 0 0, .pv (wordsP (w0 :: l))] (rdM ⟨a, b, c, d, [], [], []⟩ st k) (.pv (.bool false)) (rdM ⟨a, b, c, d, [], [], []⟩ st k) := by
 have hT := tail_ok l w0 hm hw
 have e1 : (((l.length + 1 : Nat) : Int) - 1).toNat = l.length := by omega
 have e2 : (l.map PV.str).take l.length = l.map .str := List.take_of_length_le (by simp)
 unfold wordsP at hT
 cases hN : numsOf l with
 | none =>
  rw [hN] at hT
  match k, hk with
  | 0, _ | 1, _ | 2, _ | 3, _ | 4, _ =>
   refine ref_body' (C := ctx) (Fn.of fn29 rfl) rfl (by simp) rfl (rdM_ok _ _ _) ?_
   unfold c29
   iterate 6 first
    | refine ⟨by simp [vb, hT, e1, e2] <;> omega, by simp [vb, hT, e1, e2] <;> omega, ?_⟩
    | (refine evTH [(63, fun _ => some (.tup [.sl 0 [], .bool false]))] [(12, { val := some (.pv (.sl l.length (l.map .str))) })] ?_; iterate 2 (try dsimp only [wordsP, rdM, resB, mapB, readerB, fatesA_nil, fatesB_nil, stepsA_nil, stepsB_nil, go_sem]))
   refine evH [(42, { val := some (.pv (.bool true)) })] ?_
   dsimp only [go_sem]
   try dsimp only [go_sem]
   refine ⟨(by first | exact True.intro | (simp only [vb, lb]; omega) | (simp [vb] <;> omega)), (by first | exact True.intro | ((try dsimp only [go_sem]); first | (simp [vb] <;> omega) | (simp only [vb, and_true, true_implies]; (repeat' (first | (with_reducible assumption) | (with_reducible apply And.intro) | intro _ | ((fail_if_success (with_reducible show (_ : Int) ≤ _)); assumption))) <;> first | omega | rfl | (simp only [ab]; done) | (simp [Nat.mul_one] <;> omega) | (simp_all; done)))), ?_⟩
   iterate 5 first
    | refine ⟨fun _ => ?_, fun h => by simp at h <;> omega⟩
    | refine ⟨by simp [vb] <;> omega, by simp [vb] <;> omega, ?_⟩
    | (refine evH [(42, { val := some (.pv (.bool true)) })] ?_; iterate 2 (try dsimp only [go_sem]))
   exact ⟨⟨trivial, rfl⟩, [], rfl⟩
 | some ns =>
  rw [hN] at hT
  simp only [intsP] at hT
  unfold headOf at h
  rw [hN] at h
  cases hq : w0 == headName k with
  | false =>
   match k, hk with
   | 0, _ | 1, _ | 2, _ | 3, _ | 4, _ =>
    simp only [headName] at hq
    refine ref_body' (C := ctx) (Fn.of fn29 rfl) rfl (by simp) rfl (rdM_ok _ _ _) ?_
    unfold c29
    iterate 6 first
     | refine ⟨by simp [vb, hT, e1, e2, intsP] <;> omega, by simp [vb, hT, e1, e2, intsP] <;> omega, ?_⟩
     | (refine evTH [(63, fun _ => some (.tup [.sl ns.length (ns.map (.int .i64)), .bool true]))] [(12, { val := some (.pv (.sl l.length (l.map .str))) })] ?_; iterate 2 (try dsimp only [wordsP, rdM, resB, mapB, readerB, fatesA_nil, fatesB_nil, stepsA_nil, stepsB_nil, go_sem]))
    refine evH [(42, { val := some (.pv (.bool true)) })] ?_
    dsimp only [go_sem]
    try dsimp only [go_sem]
    refine ⟨(by first | exact True.intro | (simp only [vb, lb]; omega) | (simp only [vb, lb, hq]; and_intros <;> first | omega | (simp <;> omega)) | (simp [vb, hq] <;> omega)), (by first | exact True.intro | ((try dsimp only [go_sem]); first | (simp [vb, hq] <;> omega) | (simp only [vb, and_true, true_implies]; (repeat' (first | (with_reducible assumption) | (with_reducible apply And.intro) | intro _ | ((fail_if_success (with_reducible show (_ : Int) ≤ _)); assumption))) <;> first | omega | rfl | (simp only [ab, hq]; done) | (simp [Nat.mul_one, hq] <;> omega) | (simp_all; done)))), ?_⟩
    iterate 5 first
     | refine ⟨fun _ => ?_, fun h => by simp at h <;> omega⟩
     | refine ⟨by simp [vb, hq] <;> omega, by simp [vb, hq] <;> omega, ?_⟩
     | (refine evH [(42, { val := some (.pv (.bool true)) })] ?_; iterate 2 (try dsimp only [go_sem]))
    exact ⟨⟨trivial, rfl⟩, [], rfl⟩
  | true =>
   rw [hq] at h
   have hl : (4 ≤ k) = False ∧ ns.length ≠ 1 := by
    simp at h
    exact ⟨by simp; omega, h.2⟩
   have hl2 : ((ns.length : Int) == 1) = false := by simp; omega
   match k, hk with
   | 0, _ | 1, _ | 2, _ | 3, _ =>
    simp only [headName] at hq
    refine ref_body' (C := ctx) (Fn.of fn29 rfl) rfl (by simp) rfl (rdM_ok _ _ _) ?_
    unfold c29
    iterate 6 first
     | refine ⟨by simp [vb, hT, e1, e2, intsP] <;> omega, by simp [vb, hT, e1, e2, intsP] <;> omega, ?_⟩
     | (refine evTH [(63, fun _ => some (.tup [.sl ns.length (ns.map (.int .i64)), .bool true]))] [(12, { val := some (.pv (.sl l.length (l.map .str))) })] ?_; iterate 2 (try dsimp only [wordsP, rdM, resB, mapB, readerB, fatesA_nil, fatesB_nil, stepsA_nil, stepsB_nil, go_sem]))
    refine evH [(42, { val := some (.pv (.bool true)) })] ?_
    dsimp only [go_sem]
    try dsimp only [go_sem]
    refine ⟨(by first | exact True.intro | (simp only [vb, lb]; omega) | (simp only [vb, lb, hq, hl2, hl.2]; and_intros <;> first | omega | (simp <;> omega)) | (simp [vb, hq, hl2, hl.2] <;> omega)), (by first | exact True.intro | ((try dsimp only [go_sem]); first | (simp [vb, hq, hl2, hl.2] <;> omega) | (simp only [vb, and_true, true_implies]; (repeat' (first | (with_reducible assumption) | (with_reducible apply And.intro) | intro _ | ((fail_if_success (with_reducible show (_ : Int) ≤ _)); assumption))) <;> first | omega | rfl | (simp only [ab, hq, hl2, hl.2]; done) | (simp [Nat.mul_one, hq, hl2, hl.2] <;> omega) | (simp_all; done)))), ?_⟩
    iterate 5 first
     | refine ⟨fun _ => ?_, fun h => by simp at h <;> omega⟩
     | refine ⟨by simp [vb, hq, hl2, hl.2] <;> omega, by simp [vb, hq, hl2, hl.2] <;> omega, ?_⟩
     | (refine evH [(42, { val := some (.pv (.bool true)) })] ?_; iterate 2 (try dsimp only [go_sem]))
    exact ⟨⟨trivial, rfl⟩, [], rfl⟩
   | 4, _ => simp at hl
end
section
open Sch
def betweenS : List PV → Option PV
 | [.int .i64 n, .int .i64 lo, .int .i64 hi] => some (.bool (between n lo hi))
 | _ => none
set_option maxHeartbeats 4000000 in
theorem head_num (a b c d : Int) (st : PV) (k : Nat) (hk : k < 4) (w0 : List UInt8) (l : List (List UInt8)) (hm : (w0 :: l).length ≤ 1000000) (hw : ∀ x ∈ w0 :: l, x.length ≤ 281474976710656) (n : Int) (h : headOf k w0 l = some [n]) :
  RefOK ctx 29 [.ptr 1 0 0, .pv (wordsP (w0 :: l))] (rdM ⟨a, b, c, d, [], [], []⟩ st k) (.pv (.bool (between n (headLo k) (headHi k)))) (rdM (setHead ⟨a, b, c, d, [], [], []⟩ k n) st (k + 1 : Nat)) := by
 have hT := tail_ok l w0 hm hw
 have e1 : (((l.length + 1 : Nat) : Int) - 1).toNat = l.length := by omega
 have e2 : (l.map PV.str).take l.length = l.map .str := List.take_of_length_le (by simp)
 unfold wordsP at hT
 have hB := between_ok n (headLo k) (headHi k)
 unfold headOf at h
 cases hN : numsOf l with
 | none => rw [hN] at h; cases h
 | some ns =>
  rw [hN] at hT h
  simp only at h
  split at h
  ·rename_i hq
   injection h with h
   subst h
   simp only [Bool.and_eq_true] at hq
   replace hq := hq.1
   simp only [intsP, List.length_cons, List.length_nil, List.map_cons, List.map_nil] at hT
   match k, hk with
   | 0, _ | 1, _ | 2, _ | 3, _ =>
    simp only [headName] at hq
    simp only [headLo, headHi] at hB
    refine ref_body' (C := ctx) (Fn.of fn29 rfl) rfl (by simp [rdM, setHead]) rfl (rdM_ok _ _ _) ?_
    unfold c29
    iterate 6 first
     | refine ⟨by simp [vb, hT, e1, e2, intsP] <;> omega, by simp [vb, hT, e1, e2, intsP] <;> omega, ?_⟩
     | (refine evTH [(63, fun _ => some (.tup [.sl 1 [.int .i64 n], .bool true]))] [(12, { val := some (.pv (.sl l.length (l.map .str))) })] ?_; iterate 2 (try dsimp only [wordsP, rdM, resB, mapB, readerB, fatesA_nil, fatesB_nil, stepsA_nil, stepsB_nil, go_sem]))
    refine evH [(42, { val := some (.pv (.bool false)) })] ?_
    dsimp only [go_sem]
    try dsimp only [go_sem]
    refine ⟨(by first | exact True.intro | (simp only [vb, lb]; omega) | (simp only [vb, lb, hq]; and_intros <;> first | omega | (simp <;> omega)) | (simp [vb, hq] <;> omega)), (by first | exact True.intro | ((try dsimp only [go_sem]); first | (simp [vb, hq] <;> omega) | (simp only [vb, and_true, true_implies]; (repeat' (first | (with_reducible assumption) | (with_reducible apply And.intro) | intro _ | ((fail_if_success (with_reducible show (_ : Int) ≤ _)); assumption))) <;> first | omega | rfl | (simp only [ab, hq]; done) | (simp [Nat.mul_one, hq] <;> omega) | (simp_all; done)))), ?_⟩
    iterate 7 first
     | refine ⟨fun h => by simp at h <;> omega, fun _ => ?_⟩
     | refine ⟨by simp [vb, hq] <;> omega, by simp [vb, hq] <;> omega, ?_⟩
     | (refine evH [(42, { val := some (.pv (.bool false)) })] ?_; iterate 2 (try dsimp only [go_sem]))
    refine evH [(42, { val := some (.pv (.bool false)) })] ?_
    dsimp only [go_sem]
    refine ⟨fun _ => ?_, fun h => by simp at h <;> omega⟩
    refine evA ?_
    dsimp only [go_sem]
    try dsimp only [go_sem]
    refine ⟨(by first | exact True.intro | (simp only [vb, lb]; omega) | (simp [vb] <;> omega)), (by first | exact True.intro | ((try dsimp only [go_sem]); first | (simp [vb] <;> omega) | (simp only [vb, and_true, true_implies]; (repeat' (first | (with_reducible assumption) | (with_reducible apply And.intro) | intro _ | ((fail_if_success (with_reducible show (_ : Int) ≤ _)); assumption))) <;> first | omega | rfl | (simp only [ab]; done) | (simp [Nat.mul_one] <;> omega) | (simp_all; done)))), (by first | rfl | trivial), ?_⟩
    refine evA ?_
    dsimp only [go_sem]
    try dsimp only [go_sem]
    refine ⟨(by simp [vb] <;> omega), (by simp [vb] <;> omega), ?_⟩
    refine evT [(69, betweenS)] ?_
    dsimp only [betweenS, go_sem]
    try dsimp only [betweenS, go_sem]
    refine ⟨(by simp [vb, hB] <;> omega), (by simp [vb, hB] <;> omega), ?_⟩
    refine evT [(69, betweenS)] ?_
    dsimp only [betweenS, go_sem]
    exact ⟨⟨trivial, rfl⟩, [⟨[.ptr 1 0 0, .ptr 1 0 1, .ptr 1 0 2, .ptr 1 0 3], 0, 1, 113, false⟩], rfl⟩
  ·cases h
set_option maxHeartbeats 4000000 in
theorem head_state (a b c d : Int) (st : PV) (w0 : List UInt8) (l : List (List UInt8)) (hm : (w0 :: l).length ≤ 1000000) (hw : ∀ x ∈ w0 :: l, x.length ≤ 281474976710656) (ns : List Int) (hns : ns.length ≤ 1000000) (h : headOf 4 w0 l = some ns) :
  RefOK ctx 29 [.ptr 1 0 0, .pv (wordsP (w0 :: l))] (rdM ⟨a, b, c, d, [], [], []⟩ st 4) (.pv (.bool (decide (ns.length ≤ 128) && allIn ns (-1000000) 1000000))) (rdM ⟨a, b, c, d, [], [], []⟩ (intsP ns) 5) := by
 have hT := tail_ok l w0 hm hw
 have e1 : (((l.length + 1 : Nat) : Int) - 1).toNat = l.length := by omega
 have e2 : (l.map PV.str).take l.length = l.map .str := List.take_of_length_le (by simp)
 unfold wordsP at hT
 have hA := all_ok ns (-1000000) 1000000 (by omega)
 unfold headOf at h
 cases hN : numsOf l with
 | none => rw [hN] at h; cases h
 | some ms =>
  rw [hN] at hT h
  simp only at h
  split at h
  ·rename_i hq
   injection h with h
   subst h
   simp only [Bool.and_eq_true] at hq
   replace hq := hq.1
   simp only [intsP] at hT hA
   simp only [headName] at hq
   refine ref_body' (C := ctx) (Fn.of fn29 rfl) rfl (by simp [rdM]) rfl (rdM_ok _ _ _) ?_
   unfold c29
   iterate 6 first
    | refine ⟨by simp [vb, hT, e1, e2] <;> omega, by simp [vb, hT, e1, e2] <;> omega, ?_⟩
    | (refine evTH [(63, fun _ => some (.tup [.sl ms.length (ms.map (.int .i64)), .bool true]))] [(12, { val := some (.pv (.sl l.length (l.map .str))) })] ?_; iterate 2 (try dsimp only [wordsP, rdM, resB, mapB, readerB, fatesA_nil, fatesB_nil, stepsA_nil, stepsB_nil, go_sem]))
   refine evH [(42, { val := some (.pv (.bool false)) })] ?_
   dsimp only [go_sem]
   try dsimp only [go_sem]
   refine ⟨(by first | exact True.intro | (simp only [vb, lb]; omega) | (simp only [vb, lb, hq]; and_intros <;> first | omega | (simp <;> omega)) | (simp [vb, hq] <;> omega)), (by first | exact True.intro | ((try dsimp only [go_sem]); first | (simp [vb, hq] <;> omega) | (simp only [vb, and_true, true_implies]; (repeat' (first | (with_reducible assumption) | (with_reducible apply And.intro) | intro _ | ((fail_if_success (with_reducible show (_ : Int) ≤ _)); assumption))) <;> first | omega | rfl | (simp only [ab, hq]; done) | (simp [Nat.mul_one, hq] <;> omega) | (simp_all; done)))), ?_⟩
   iterate 14 first
    | refine ⟨fun h => by simp at h <;> omega, fun _ => ?_⟩
    | refine ⟨by simp [vb, hq] <;> omega, by simp [vb, hq] <;> omega, ?_⟩
    | (refine evH [(42, { val := some (.pv (.bool false)) })] ?_; iterate 2 (try dsimp only [go_sem]))
   refine evT [(70, fun _ => some (.bool (allIn ms (-1000000) 1000000)))] ?_
   dsimp only [go_sem]
   try dsimp only [go_sem]
   refine ⟨(by simp [vb, hA] <;> omega), (by simp [vb, hA] <;> omega), ?_⟩
   refine evT [(70, fun _ => some (.bool (allIn ms (-1000000) 1000000)))] ?_
   dsimp only [go_sem]
   refine ⟨⟨trivial, ?_⟩, [], rfl⟩
   have : decide ((ms.length : Int) ≤ 128) = decide (ms.length ≤ 128) := decide_eq_decide.mpr (by omega)
   simp [this]
  ·cases h
end
end Pur
end Go.Proofs.YteokbngllldmdaaGreatDoor
namespace Go.Proofs.YteokbngllldmdaaGreatDoor
namespace Pl
def splitOn (c : UInt8) : List UInt8 → List (List UInt8)
 | [] => [[]]
 | x :: r => if x = c then [] :: splitOn c r else match splitOn c r with
  | h :: t => (x :: h) :: t
  | [] => [[x]]
theorem splitOn_ne (c : UInt8) : ∀ l, splitOn c l ≠ []
 | [] => by simp [splitOn]
 | x :: r => by
  simp only [splitOn]
  split
  ·simp
  ·split <;> simp
theorem splitOn_none {c : UInt8} : ∀ {l : List UInt8}, (∀ k : Nat, l[k]? ≠ some c) → splitOn c l = [l]
 | [], _ => rfl
 | x :: r, h => by
  have hx : x ≠ c := fun e => h 0 (by simp [e])
  have := splitOn_none (l := r) fun k => by have := h (k + 1); simpa using this
  simp only [splitOn, hx, if_false, this]
theorem splitOn_hit {c : UInt8} : ∀ {l : List UInt8} {i : Nat}, l[i]? = some c → (∀ k, k < i → l[k]? ≠ some c) → splitOn c l = l.take i :: splitOn c (l.drop (i + 1))
 | [], i, h, _ => by simp at h
 | x :: r, 0, h, _ => by
  simp at h
  simp [splitOn, h]
 | x :: r, i + 1, h, hn => by
  have hx : x ≠ c := fun e => hn 0 (by omega) (by simp [e])
  have := splitOn_hit (l := r) (i := i) (by simpa using h) fun k hk => by have := hn (k + 1) (by omega); simpa using this
  simp only [splitOn, hx, if_false, this, List.take_succ_cons, List.drop_succ_cons]
theorem indexB_byte (s : ByteArray) (c : UInt8) : Lib.indexB s ⟨#[c]⟩ = Lib.indexByte s.data.toList c := Lib.index_one s.data.toList c
theorem splitB_lists (c : UInt8) : ∀ (n : Nat) (s : ByteArray), s.size ≤ n → (Lib.splitB ⟨#[c]⟩ 0 (Lib.countB s ⟨#[c]⟩) s).map (·.data.toList) = splitOn c s.data.toList
 | n, s, hn => by
  have h1 : 1 ≤ (⟨#[c]⟩ : ByteArray).size := by simp [ByteArray.size]
  rcases Lib.indexB_cases s ⟨#[c]⟩ with hix | ⟨i, hix, hroom⟩
  ·rw [Lib.splitB_miss _ _ _ _ hix]
   rw [indexB_byte] at hix
   rw [splitOn_none (Lib.indexByte_none hix)]
   rfl
  ·have hc := Lib.countB_hit s ⟨#[c]⟩ i h1 hix
   have hsz : (⟨#[c]⟩ : ByteArray).size = 1 := rfl
   rw [hsz] at hroom hc
   have hcount : Lib.countB s ⟨#[c]⟩ = Lib.countB (s.extract (i + 1) s.size) ⟨#[c]⟩ + 1 := by omega
   rw [hcount, Lib.splitB_hit _ _ _ _ i hix, hsz]
   match n, hn with
   | 0, hn => omega
   | n + 1, hn =>
    have hlt : (s.extract (i + 1) s.size).size ≤ n := by rw [ByteArray.size_extract]; omega
    rw [List.map_cons, splitB_lists c n _ hlt]
    rw [indexB_byte] at hix
    obtain ⟨g1, g2⟩ := Lib.indexByte_some hix
    rw [splitOn_hit g1 g2, Lib.extract_from_zero, Lib.extract_to_end, Nat.add_zero]
def upTo (c : UInt8) (l : List UInt8) : List UInt8 := l.takeWhile fun x => x != c
theorem upTo_none {c : UInt8} : ∀ {l : List UInt8}, (∀ k : Nat, l[k]? ≠ some c) → upTo c l = l
 | [], _ => rfl
 | x :: r, h => by
  have hx : x ≠ c := fun e => h 0 (by simp [e])
  have := upTo_none (l := r) fun k => by have := h (k + 1); simpa using this
  unfold upTo at this ⊢
  rw [List.takeWhile_cons_of_pos (by simpa using hx), this]
theorem upTo_hit {c : UInt8} : ∀ {l : List UInt8} {i : Nat}, l[i]? = some c → (∀ k, k < i → l[k]? ≠ some c) → upTo c l = l.take i
 | [], i, h, _ => by simp at h
 | x :: r, 0, h, _ => by
  simp at h
  simp [upTo, h]
 | x :: r, i + 1, h, hn => by
  have hx : x ≠ c := fun e => hn 0 (by omega) (by simp [e])
  have := upTo_hit (l := r) (i := i) (by simpa using h) fun k hk => by have := hn (k + 1) (by omega); simpa using this
  unfold upTo at this ⊢
  rw [List.takeWhile_cons_of_pos (by simpa using hx), this, List.take_succ_cons]
theorem cut_one (l : List UInt8) (c : UInt8) : (Lib.cut l [c]).1 = upTo c l := by
 unfold Lib.cut
 rw [Lib.index_one]
 split
 ·rename_i h
  obtain ⟨i, hi⟩ : ∃ i : Nat, Lib.indexByte l c = i := ⟨(Lib.indexByte l c).toNat, by omega⟩
  obtain ⟨g1, g2⟩ := Lib.indexByte_some hi
  rw [upTo_hit g1 g2, hi]
  simp
 ·rename_i h
  have := Lib.indexByte_ge l c
  rw [upTo_none (Lib.indexByte_none (by omega))]
def wordsGo (c : UInt8) : List UInt8 → List UInt8 → List (List UInt8)
 | [], cur => if cur = [] then [] else [cur]
 | x :: r, cur => if x = c then (if cur = [] then wordsGo c r [] else cur :: wordsGo c r []) else wordsGo c r (cur ++ [x])
def wordsOn (c : UInt8) (l : List UInt8) : List (List UInt8) := wordsGo c l []
theorem wordsGo_skip {c : UInt8} : ∀ (a r cur : List UInt8), (∀ x ∈ a, x ≠ c) → wordsGo c (a ++ r) cur = wordsGo c r (cur ++ a)
 | [], r, cur, _ => by simp
 | x :: a, r, cur, h => by
  have hx : x ≠ c := h x (by simp)
  rw [List.cons_append, wordsGo, if_neg hx, wordsGo_skip a r _ fun y hy => h y (by simp [hy])]
  simp
theorem decode_blank (s : ByteArray) (i : Nat) (hi : i < s.size) : 1 ≤ (Utf8.decode s i).2 ∧ i + (Utf8.decode s i).2 ≤ s.size ∧ (((Utf8.decode s i).1 = 32 ∧ (Utf8.decode s i).2 = 1 ∧ s.get! i = 32) ∨ ((Utf8.decode s i).1 ≠ 32 ∧ ∀ k, k < (Utf8.decode s i).2 → s.get! (i + k) ≠ 32)) := by
 have ne : ∀ {x : UInt8}, x.toNat ≠ 32 → x ≠ 32 := fun h e => h (by rw [e]; rfl)
 have eq : ∀ {x : UInt8}, x.toNat = 32 → x = 32 := fun h => UInt8.toNat_inj.mp (by rw [h]; rfl)
 unfold Utf8.decode
 simp only [Nat.add_zero]
 split
 ·rename_i h0
  refine ⟨by simp, by simp; omega, ?_⟩
  by_cases h : (s.get! i).toNat = 32
  ·exact .inl ⟨h, rfl, eq h⟩
  ·exact .inr ⟨h, fun k hk => by
    have : k = 0 := by simp at hk; omega
    subst this
    exact ne h⟩
 ·rename_i h0
  have one : (Utf8.runeError : Nat) ≠ 32 ∧ ∀ k, k < 1 → s.get! (i + k) ≠ 32 := ⟨by decide, fun k hk => by
   have : k = 0 := by omega
   subst this
   exact ne (by simp only [Nat.add_zero]; omega)⟩
  split
  ·rename_i h1
   simp only [Bool.and_eq_true, decide_eq_true_eq, beq_iff_eq] at h1
   split
   ·rename_i h2
    refine ⟨by simp, by simp; omega, .inr ⟨by simp only; omega, fun k hk => ?_⟩⟩
    match k, hk with
    | 0, _ => exact ne (by simp only [Nat.add_zero]; omega)
    | 1, _ => exact ne (by omega)
   ·exact ⟨by simp, by simp; omega, .inr one⟩
  ·split
   ·rename_i h1
    simp only [Bool.and_eq_true, decide_eq_true_eq, beq_iff_eq] at h1
    split
    ·rename_i h2
     simp only [ge_iff_le, Bool.and_eq_true, decide_eq_true_eq] at h2
     refine ⟨by simp, by simp; omega, .inr ⟨by simp only; omega, fun k hk => ?_⟩⟩
     match k, hk with
     | 0, _ => exact ne (by simp only [Nat.add_zero]; omega)
     | 1, _ => exact ne (by omega)
     | 2, _ => exact ne (by omega)
    ·exact ⟨by simp, by simp; omega, .inr one⟩
   ·split
    ·rename_i h1
     simp only [Bool.and_eq_true, decide_eq_true_eq, beq_iff_eq] at h1
     split
     ·rename_i h2
      simp only [ge_iff_le, Bool.and_eq_true, decide_eq_true_eq] at h2
      refine ⟨by simp, by simp; omega, .inr ⟨by simp only; omega, fun k hk => ?_⟩⟩
      match k, hk with
      | 0, _ => exact ne (by simp only [Nat.add_zero]; omega)
      | 1, _ => exact ne (by omega)
      | 2, _ => exact ne (by omega)
      | 3, _ => exact ne (by omega)
     ·exact ⟨by simp, by simp; omega, .inr one⟩
    ·exact ⟨by simp, by simp; omega, .inr one⟩
theorem get!_list (s : ByteArray) (i : Nat) (hi : i < s.size) : s.data.toList[i]? = some (s.get! i) := by
 have h1 : i < s.data.size := hi
 have : s.get! i = s.data[i] := by
  show s.data[i]! = _
  rw [getElem!_pos s.data i h1]
 rw [this]
 simp [h1]
def piece (s : ByteArray) (a b : Nat) : List UInt8 := (s.data.toList.drop a).take (b - a)
theorem piece_extract (s : ByteArray) (a b : Nat) : (s.extract a b).data.toList = piece s a b := by
 rw [Lib.extract_data]
 simp [piece, List.extract_eq_take_drop, List.take_drop]
theorem piece_add (s : ByteArray) (a b n : Nat) (hab : a ≤ b) : piece s a (b + n) = piece s a b ++ piece s b (b + n) := by
 unfold piece
 rw [show b + n - a = (b - a) + n by omega, List.take_add, List.drop_drop, show a + (b - a) = b by omega, show b + n - b = n by omega]
theorem piece_ne (s : ByteArray) (a b : Nat) (hb : b ≤ s.size) (hab : a < b) : piece s a b ≠ [] := by
 intro h
 have hl : (piece s a b).length = b - a := by
  unfold piece
  rw [List.length_take, List.length_drop]
  have : s.data.toList.length = s.size := rfl
  omega
 rw [h] at hl
 simp at hl
 omega
theorem piece_clean (s : ByteArray) (i n : Nat) (h : ∀ k, k < n → s.get! (i + k) ≠ 32) (hr : i + n ≤ s.size) : ∀ x ∈ piece s i (i + n), x ≠ 32 := by
 intro x hx
 obtain ⟨k, hk⟩ := List.mem_iff_getElem?.mp hx
 unfold piece at hk
 rw [show i + n - i = n by omega, List.getElem?_take] at hk
 split at hk
 ·rename_i hkn
  rw [List.getElem?_drop, get!_list s _ (by omega)] at hk
  injection hk with hk
  rw [← hk]
  exact h k hkn
 ·cases hk
def curOf (s : ByteArray) (pos : Nat) : Option Nat → List UInt8
 | some a => piece s a pos
 | none => []
theorem spans_words (s : ByteArray) : ∀ (f pos : Nat) (st : Option Nat) (acc : List (Nat × Nat)), pos ≤ s.size → s.size - pos ≤ f → (∀ a, st = some a → a < pos) →
  (Lib.closeSpans s (Lib.spansFromP (fun x => x == 32) s f pos st acc)).map (fun x => piece s x.1 x.2) = acc.map (fun x => piece s x.1 x.2) ++ wordsGo 32 (s.data.toList.drop pos) (curOf s pos st) := by
 have close : ∀ (pos : Nat) (st : Option Nat) (acc : List (Nat × Nat)), pos = s.size → (∀ a, st = some a → a < pos) → (Lib.closeSpans s (acc, st)).map (fun x => piece s x.1 x.2) = acc.map (fun x => piece s x.1 x.2) ++ wordsGo 32 (s.data.toList.drop pos) (curOf s pos st) := by
  intro pos st acc hp ha
  subst hp
  have hd : s.data.toList.drop s.size = [] := List.drop_eq_nil_of_le (Nat.le_refl _)
  rw [hd]
  cases st with
  | none => simp [Lib.closeSpans, wordsGo, curOf]
  | some a =>
   have := piece_ne s a s.size (Nat.le_refl _) (ha a rfl)
   simp [Lib.closeSpans, wordsGo, curOf, this]
 intro f
 induction f with
 | zero =>
  intro pos st acc hp hf ha
  exact close pos st acc (by omega) ha
 | succ f ih =>
  intro pos st acc hp hf ha
  by_cases hlt : pos < s.size
  ·obtain ⟨h1, h2, h3⟩ := decode_blank s pos hlt
   unfold Lib.spansFromP
   rw [if_pos hlt]
   rcases h3 with ⟨hr, hn, hb⟩ | ⟨hr, hb⟩
   ·have hdrop : s.data.toList.drop pos = 32 :: s.data.toList.drop (pos + 1) := by
     have := get!_list s pos hlt
     rw [hb] at this
     rw [List.drop_eq_getElem_cons (by exact hlt)]
     congr 1
     exact (List.getElem?_eq_some_iff.mp this).2
    rw [if_pos (by simp [hr]), hn, hdrop]
    cases st with
    | none =>
     rw [ih (pos + 1) none acc (by omega) (by omega) (fun a h => by cases h)]
     simp [wordsGo, curOf]
    | some a =>
     have hne := piece_ne s a pos (by omega) (ha a rfl)
     rw [ih (pos + 1) none (acc ++ [(a, pos)]) (by omega) (by omega) (fun a h => by cases h)]
     simp [wordsGo, curOf, hne]
   ·rw [if_neg (by simp [hr])]
    generalize hnn : (Utf8.decode s pos).2 = n at *
    have hsplit : s.data.toList.drop pos = piece s pos (pos + n) ++ s.data.toList.drop (pos + n) := by
     unfold piece
     rw [show pos + n - pos = n by omega, ← List.drop_drop, List.take_append_drop]
    have hclean := piece_clean s pos n hb h2
    rw [hsplit, wordsGo_skip _ _ _ hclean]
    cases st with
    | none =>
     rw [ih (pos + n) (some pos) acc (by omega) (by omega) (fun a h => by injection h with h; omega)]
     simp [curOf]
    | some a =>
     have hap := ha a rfl
     rw [ih (pos + n) (some a) acc (by omega) (by omega) (fun b h => by injection h with h; omega)]
     simp only [curOf]
     rw [piece_add s a pos n (by omega)]
  ·unfold Lib.spansFromP
   rw [if_neg hlt]
   exact close pos st acc (by omega) ha
theorem fields_words (s : ByteArray) : (Lib.goFieldsP (fun x => x == 32) s).map (·.data.toList) = wordsOn 32 s.data.toList := by
 have := spans_words s s.size 0 none [] (by omega) (by omega) (fun a h => by cases h)
 simp only [List.map_nil, List.nil_append, List.drop_zero, curOf] at this
 unfold Lib.goFieldsP Lib.spansOfP wordsOn
 rw [List.map_map, ← this]
 refine List.map_congr_left fun x _ => ?_
 exact piece_extract s x.1 x.2
theorem splitOn_len (c : UInt8) : ∀ l : List UInt8, (splitOn c l).length ≤ l.length + 1
 | [] => by simp [splitOn]
 | x :: r => by
  have ih := splitOn_len c r
  simp only [splitOn]
  split
  ·simp; omega
  ·split
   ·rename_i h t hs
    rw [hs] at ih
    simp at ih ⊢
    omega
   ·simp
theorem splitOn_mem (c : UInt8) : ∀ (l x : List UInt8), x ∈ splitOn c l → x.length ≤ l.length
 | [], x, h => by
  simp [splitOn] at h
  simp [h]
 | y :: r, x, h => by
  have ih := splitOn_mem c r
  simp only [splitOn] at h
  split at h
  ·rcases List.mem_cons.mp h with h | h
   ·simp [h]
   ·have := ih x h; simp; omega
  ·split at h
   ·rename_i hd t hs
    rcases List.mem_cons.mp h with h | h
    ·subst h
     have := ih hd (by rw [hs]; simp)
     simp; omega
    ·have := ih x (by rw [hs]; simp [h])
     simp; omega
   ·rcases List.mem_cons.mp h with h | h
    ·subst h; simp
    ·cases h
theorem wordsGo_len (c : UInt8) : ∀ (l cur : List UInt8), (wordsGo c l cur).length ≤ l.length + 1 ∧ (cur = [] → (wordsGo c l cur).length ≤ l.length)
 | [], cur => by
  simp only [wordsGo]
  split
  ·simp
  ·rename_i h
   exact ⟨by simp, fun h2 => absurd h2 h⟩
 | x :: r, cur => by
  have h1 := wordsGo_len c r []
  have h2 := wordsGo_len c r (cur ++ [x])
  simp only [wordsGo]
  split
  ·split
   ·exact ⟨by simp; have := h1.1; omega, fun _ => by simp; exact h1.1⟩
   ·rename_i hc
    have := h1.2 rfl
    exact ⟨by simp; omega, fun h => absurd h hc⟩
  ·exact ⟨by simp; have := h2.1; omega, fun _ => by simp; exact h2.1⟩
theorem wordsGo_mem (c : UInt8) : ∀ (l cur x : List UInt8), x ∈ wordsGo c l cur → x.length ≤ l.length + cur.length
 | [], cur, x, h => by
  simp only [wordsGo] at h
  split at h
  ·cases h
  ·simp at h; simp [h]
 | y :: r, cur, x, h => by
  simp only [wordsGo] at h
  split at h
  ·split at h
   ·have := wordsGo_mem c r [] x h
    simp at this ⊢; omega
   ·rcases List.mem_cons.mp h with h | h
    ·simp [h]
    ·have := wordsGo_mem c r [] x h
     simp at this ⊢; omega
  ·have := wordsGo_mem c r _ x h
   simp at this ⊢; omega
theorem wordsOn_len (c : UInt8) (l : List UInt8) : (wordsOn c l).length ≤ l.length := (wordsGo_len c l []).2 rfl
theorem wordsOn_mem (c : UInt8) (l x : List UInt8) (h : x ∈ wordsOn c l) : x.length ≤ l.length := by simpa using wordsGo_mem c l [] x h
theorem upTo_len (c : UInt8) (l : List UInt8) : (upTo c l).length ≤ l.length := (List.takeWhile_sublist _).length_le
end Pl
end Go.Proofs.YteokbngllldmdaaGreatDoor
namespace Go.Proofs.YteokbngllldmdaaGreatDoor
namespace Pur
open Go.RowKit
attribute [local go_sem] evOps evOp evOpV evRun evK argF List.map hintAt stripped get put tmpsOf tmpOf tmpO tmpL tmpP conds ev cond_true cond_false Nat.beq Nat.ble Nat.add quiet After thenR blockR IfD List.append_eq List.nil_append List.cons_append evInt exactI_a exactI_b exactI_c exactI_d exactI_e exactI_f evBin evStr evBool evUn guardC calm quiet.isCallK evPick List.getElem?_cons_zero List.getElem?_cons_succ fromCells fromPVs cellsOf List.all oneCell List.length_cons List.length_nil mkAgg plains List.drop List.take List.getD Option.getD_some bo1 bo2 ba1 ba2 bn1 bn2 kk_i64 kk_u8 kk_i32 kk_u64 setAt List.set Nat.reduceAdd Nat.reduceMul evCall safeCall refsOf refsIn scalarA scalar scalarL thawL mapAll thawArg thawRef after freeze RetD RetE evResult evRess evRes1 thaw_pv mkTup nilOf_a nilOf_b nilOf_bb nilOf_c nilOf_d nilOf_e nilOf_f nilOf_g nilOf_h nilOf_i nilOf_j nilOf_k nilOf_l nilOf_m eqLeaf_a eqLeaf_b eqLeaf_c eqOffs evMM bytesOf evOpsF AfterF footOf footRefs notIn indepF footAt freeOk still evParts fillA zeros intOfA boundA srcOf List.isEmpty appNil_0 appNil_1 appNil_2 Int.reduceToNat Nat.mul_one Nat.reduceSub evC evOpsT evOpsTF autoH tabHint look hintD strip guarded RetPD RetRD mpLen keysOk leafKA leafK bitI nilOf_n nilOf_o Bool.or_false Bool.or_true Bool.and_true Bool.and_false Nat.blt renF renM renB renV idxOf solF solM solA solV thawRef ev1
section
open Sch
open Pl
open Go.Proofs (PredGrows below_drewNg)
theorem is_words {w : World} {S : Nat → Prop} {g cap : Nat} {xs : List ByteArray} (hS : S g) (hn : xs.length ≤ cap) (hm : cap ≤ maxLen) (hc : ∀ (i : Nat) x, xs[i]? = some x → w.cell? ⟨g, i, none⟩ = some (.string x)) :
  Is w S (wordsP (xs.map (·.data.toList))) (.slice (some ⟨g, 0, none⟩) xs.length cap) := by
 unfold wordsP
 rw [List.length_map, List.map_map]
 refine .sl xs.length _ g 0 cap (fun i => .string (xs.getD i ByteArray.empty)) hS hn hm (fun i p hp => ?_) (fun i p hp => rfl) (fun i p hp => ?_)
 ·rw [List.getElem?_map] at hp
  obtain ⟨x, hx, rfl⟩ := Option.map_eq_some_iff.mp hp
  rw [Nat.zero_add, hc i x hx]
  simp [List.getD, hx]
 ·rw [List.getElem?_map] at hp
  obtain ⟨x, hx, rfl⟩ := Option.map_eq_some_iff.mp hp
  simp only [List.getD, hx, Option.getD_some, Function.comp_apply]
  exact is_str w S x
theorem split_ok (s : List UInt8) (c : UInt8) (hs : s.length ≤ 4000000000) : PureOK ctx 20 [.str s, .str [c]] (wordsP (splitOn c s)) := by
 refine ⟨by kernel_rfl, fun w S vs hE hS hp => ?_⟩
 obtain ⟨v, u, rfl, hv, hu⟩ := pw2 hp
 have := is_str_inv hv
 subst this
 have := is_str_inv hu
 subst this
 obtain ⟨m, hm⟩ := hE.ml
 have hsz : (⟨s.toArray⟩ : ByteArray).size = s.length := by simp [ByteArray.size]
 have h1 : 1 ≤ (⟨[c].toArray⟩ : ByteArray).size := by simp [ByteArray.size]
 have hle := Lib.countB_le ⟨[c].toArray⟩ h1 s.length ⟨s.toArray⟩ (by omega)
 have hlen := Lib.splitB_all ⟨[c].toArray⟩ h1 0 _ ⟨s.toArray⟩ rfl
 have hlist : (Lib.splitB ⟨[c].toArray⟩ 0 (Lib.countB ⟨s.toArray⟩ ⟨[c].toArray⟩) ⟨s.toArray⟩).map (·.data.toList) = splitOn c s := splitB_lists c _ ⟨s.toArray⟩ (Nat.le_refl _)
 refine (Tryz.strings_Split ⟨s.toArray⟩ ⟨[c].toArray⟩ m w (by omega) hm h1).mono fun e w' ⟨he, hw⟩ => ⟨_, he, ?_, ?_⟩
 ·rw [hw]; exact (Below.refl _ _).alloc (Nat.le_refl _) _
 ·rw [← hlist]
  have hsl := is_words (w := w') (S := fun g => S g ∨ (w.heap.size ≤ g ∧ g < w'.heap.size)) (g := w.heap.size) (cap := Lib.countB ⟨s.toArray⟩ ⟨[c].toArray⟩ + 1) (xs := Lib.splitB ⟨[c].toArray⟩ 0 (Lib.countB ⟨s.toArray⟩ ⟨[c].toArray⟩) ⟨s.toArray⟩) (.inr ⟨Nat.le_refl _, by rw [hw]; simp⟩) (by omega) (by simp only [maxLen]; omega) (fun i x hx => by
   rw [hw, World.cell?, heap_alloc_new]
   simp [hx])
  rw [hlen] at hsl
  exact hsl
theorem cut_ok (s : List UInt8) (c : UInt8) (hs : s.length ≤ 4000000000) : PureOK ctx 26 [.str s, .str [c]] (.tup [.str (upTo c s), .str (Lib.cut s [c]).2.1, .bool (Lib.cut s [c]).2.2]) := by
 refine PureOK.of_calls (by kernel_rfl) fun w S vs hE hS hp => ?_
 obtain ⟨v, u, rfl, hv, hu⟩ := pw2 hp
 have := is_str_inv hv
 subst this
 have := is_str_inv hu
 subst this
 obtain ⟨m, hm⟩ := hE.ml
 have hsz : (⟨s.toArray⟩ : ByteArray).size = s.length := by simp [ByteArray.size]
 refine (Tryz.strings_Cut ⟨s.toArray⟩ ⟨[c].toArray⟩ m w (by omega) hm).mono fun e w' ⟨he, n, hw⟩ => ⟨_, he, ?_, fun _ _ => ?_⟩
 ·rw [hw]; exact below_drewNg w n
 ·rw [← cut_one]
  exact .tup _ [_, _, _] rfl fun i p v hp hv => by
   match i, hp, hv with
   | 0, hp, hv => simp at hp hv; subst hp hv; exact .str _
   | 1, hp, hv => simp at hp hv; subst hp hv; exact .str _
   | 2, hp, hv => simp at hp hv; subst hp hv; exact .bool _
def c28 : ACode := (⟨_, by conv => (lhs; reduce; try simp only [lt1, Int.cast_ofNat_Int, Int.reduceNegSucc, UInt8.reduceOfNat])⟩ : {x // codeOf Tryz.prog 28 (fun _ => false) = some x}).1
theorem fn28 : fnOf Tryz.prog 28 (fun _ => false) = some (c28, [.t 2], 5, true) := by kernel_rfl
theorem blank_ok (n : Int) : PureOK ctx 28 [.int .i32 n] (.bool (n == 32)) := by
 refine pure_body' (C := ctx) (Fn.of fn28 rfl) rfl ?_
 unfold c28
 iterate 5 first
  | refine ⟨by simp [vb] <;> omega, by simp [vb] <;> omega, ?_⟩
  | (refine evA ?_; iterate 2 (try dsimp only [go_sem]))
 exact ⟨trivial, rfl⟩
theorem ufields_ok (s : List UInt8) (hs : s.length ≤ 4000000000) : PureOK ctx 27 [.str s, .val (.func (.func 28) #[] #[])] (wordsP (wordsOn 32 s)) := by
 refine ⟨by kernel_rfl, fun w S vs hE hS hp => ?_⟩
 obtain ⟨v, u, rfl, hv, hu⟩ := pw2 hp
 have := is_str_inv hv
 subst this
 have hu' : u = .func (.func 28) #[] #[] := by cases hu; rfl
 subst hu'
 have hsz : (⟨s.toArray⟩ : ByteArray).size = s.length := by simp [ByteArray.size]
 have hpred : PredGrows Tryz.prog 28 #[] (fun x => x == 32) w := fun W x hx hb => by
  have hb2 := blank_ok (x : Int)
  have hEW : Env W := hE.below hb
  have hc := hb2.2 W (fun _ => False) [.int .i32 x] hEW (fun _ h => h.elim) ⟨rfl, fun i a b ha hb => by
   match i, ha, hb with
   | 0, ha, hb => simp at ha hb; subst ha hb; exact .int _ _⟩
  show Calls Tryz.prog 28 #[.int .i32 x] W _
  refine hc.mono ?_
  rintro e w' ⟨v, he, hB, hv⟩
  refine ⟨?_, hB⟩
  rw [he]
  cases hv
  congr 2
  rw [Bool.eq_iff_iff]
  simp
  omega
 refine (Tryz.strings_FieldsFunc_grows 28 #[] (fun args w => run_callFunc (C := ctx) (by kernel_rfl) args) (fun x => x == 32) ⟨s.toArray⟩ w (by omega) hpred).mono fun e w' ⟨A, he, hA, hrow, hb⟩ => ⟨_, he, hb, ?_⟩
 have hlist := fields_words ⟨s.toArray⟩
 rw [show (⟨s.toArray⟩ : ByteArray).data.toList = s from rfl] at hlist
 rw [← hlist]
 rcases hrow.2 with ⟨hv, h0⟩ | ⟨g, cap, cur, hv, hg, hw, h1, h2, h3, h4⟩
 ·cases hv
 ·injection hv with hv1 hv2 hv3
  injection hv1 with hv1
  injection hv1 with hv1
  subst hv1
  refine is_words (.inr ⟨hA, Whole.lt (t := 9) (cs := cur) hw⟩) (Nat.le_refl _) (by omega) fun i x hx => ?_
  have hlt : i < (Lib.goFieldsP (fun x => x == 32) ⟨s.toArray⟩).length := (List.getElem?_eq_some_iff.mp hx).1
  rw [Whole.cell (t := 9) (cs := cur) hw]
  have : cur.toList[i]? = (cur.toList.take ((Lib.goFieldsP (fun x => x == 32) ⟨s.toArray⟩).length * 1))[i]? := by rw [List.getElem?_take_of_lt (by omega)]
  rw [← Array.getElem?_toList, this, h4]
  simp [hx]
end
section
open Sch
open Pl
def c8 : ACode := (⟨_, by conv => (lhs; reduce; try simp only [lt1, Int.cast_ofNat_Int, Int.reduceNegSucc, UInt8.reduceOfNat])⟩ : {x // codeOf Tryz.prog 8 (fun _ => false) = some x}).1
theorem fn8 : fnOf Tryz.prog 8 (fun _ => false) = some (c8, [.cell 2 7 true, .t 3, .t 4], 91, true) := by kernel_rfl
def pLoop : ACode := (⟨_, by conv => (lhs; reduce; try simp only [lt1, Int.cast_ofNat_Int, Int.reduceNegSucc, UInt8.reduceOfNat])⟩ : {x // c8.sub [1, 1, 1, 1, 1, 0, 1, 0] = x}).1
def pRead : ACode := (⟨_, by conv => (lhs; reduce; try simp only [lt1, Int.cast_ofNat_Int, Int.reduceNegSucc, UInt8.reduceOfNat])⟩ : {x // c8.sub [1, 1, 1, 1, 1, 0, 1, 0, 0, 1, 1, 0, 0, 1, 1, 1, 1] = x}).1
def pBad : ACode := (⟨_, by conv => (lhs; reduce; try simp only [lt1, Int.cast_ofNat_Int, Int.reduceNegSucc, UInt8.reduceOfNat])⟩ : {x // c8.sub [1, 1, 1, 1, 1, 0, 1, 0, 0, 1, 1, 0, 0, 1, 1, 1, 1, 1, 1, 1, 0] = x}).1
def pAsk : ACode := (⟨_, by conv => (lhs; reduce; try simp only [lt1, Int.cast_ofNat_Int, Int.reduceNegSucc, UInt8.reduceOfNat])⟩ : {x // c8.sub [1, 1, 1, 1, 1, 0, 1, 0, 0, 1, 1, 0, 0, 1, 1, 1, 1, 1, 1] = x}).1
def fateW : List UInt8 := [102, 97, 116, 101]
def atW : List UInt8 := [97, 116]
def lineP (next : Nat) (s : Sched) (w0 : List UInt8) (r : List (List UInt8)) : Option (Nat × Sched) :=
 if next < 4 then match headOf next w0 r with
  | some [n] => if between n (headLo next) (headHi next) then some (next + 1, setHead s next n) else none
  | _ => none
 else if next = 4 then match headOf 4 w0 r with
  | some ns => if decide (ns.length ≤ 128) && allIn ns (-1000000) 1000000 then some (5, { s with state := ns }) else none
  | none => none
 else if w0 == fateW then match fateOf (w0 :: r) with
  | some f => if s.steps.isEmpty && (decide (s.fates.length + 1 ≤ 256) && fateOk f) then some (5, { s with fates := s.fates ++ [f] }) else none
  | none => none
 else if w0 == atW then match stepOf r with
  | some x => if follows s x then some (5, { s with steps := s.steps ++ [x] }) else none
  | none => none
 else none
def stOf (next : Nat) (s : Sched) : PV := if next < 5 then .nilsl else intsP s.state
structure PInv (next : Nat) (s : Sched) : Prop where
 n5 : next ≤ 5
 e1 : next < 5 → s.fates = [] ∧ s.steps = [] ∧ s.state = []
 r : 1 ≤ next → between s.replicas 1 5 = true
 q : 2 ≤ next → between s.sessions 0 8 = true
 c : 3 ≤ next → between s.sectors 8 2048 = true
 t : 4 ≤ next → between s.ticks 0 1048576 = true
 f : s.fates.length ≤ 256
 p : s.steps.length ≤ 65536
 a : s.state.length ≤ 128
theorem PInv.mild {s : Sched} (h : PInv 5 s) : Mild s := by
 have h1 := h.r (by omega)
 have h2 := h.q (by omega)
 have h3 := h.t (by omega)
 simp only [between, Bool.and_eq_true, decide_eq_true_eq] at h1 h2 h3
 exact ⟨by omega, by omega, by omega, by omega, by omega, by omega⟩
def errP (k : Int) : PV := .tup [.agg [.int .i64 0, .int .i64 0, .int .i64 0, .int .i64 0, .nilsl, .nilsl, .nilsl], .int .i64 k, .int .i64 3]
abbrev parseRes : List ARes := [.cell 2 7 true, .t 3, .t 4]
theorem bad_end (R : Exit → AF → AM → Prop) (own : Nat → Bool) (m i : Nat) (hi : i ≤ 1000000) (tl : AM) (h : ∀ f μ, RetD μ (errP (i + 1)) (evResult f μ parseRes) → R .ret f μ) :
  Aw ctx own 91 m pBad R [(2, .ptr 0 0 0), (8, .pv (.int .i64 i))] (resB :: tl) := by
 unfold pBad
 refine evA ?_
 dsimp only [resB, go_sem]
 try dsimp only [resB, go_sem]
 refine ⟨(by simp [vb] <;> omega), (by simp [vb] <;> omega), ?_⟩
 refine evA ?_
 dsimp only [go_sem]
 refine h _ _ ?_
 dsimp only [go_sem]
 exact ⟨(by first | exact True.intro | (simp only [vb, lb]; omega) | (simp [vb] <;> omega)), rfl⟩
theorem read_call (R : Exit → AF → AM → Prop) (own : Nat → Bool) (ls : List (List UInt8)) (m i : Nat) (hi : i ≤ 1000000) (ws : List (List UInt8)) (g : FuncId) (μ μ' : AM) (b : Bool) (hc : RefOK ctx g [.ptr 1 0 0, .pv (wordsP ws)] μ (.pv (.bool b)) μ') (hb : b = false → ∃ tl, μ' = resB :: tl)
  (hbad : b = false → ∀ f μ, RetD μ (errP (i + 1)) (evResult f μ parseRes) → R .ret f μ) (hgood : b = true → ∀ f, Sub [(2, .ptr 0 0 0), (5, .ptr 1 0 0), (6, .map 2 0), (7, .pv (wordsP ls)), (26, .pv (wordsP ls)), (27, .pv (.int .i64 ls.length)), (28, .pv (.int .i64 i))] f → R .normal f μ') :
  Aw ctx own 91 m pAsk R [(2, .ptr 0 0 0), (5, .ptr 1 0 0), (6, .map 2 0), (8, .pv (.int .i64 i)), (10, .pv (wordsP ws)), (11, .bm g [.ptr 1 0 0]), (7, .pv (wordsP ls)), (26, .pv (wordsP ls)), (27, .pv (.int .i64 ls.length)), (28, .pv (.int .i64 i))] μ := by
 refine aw_seq (aw_regX (T := []) (H := [(61, { val := some (.pv (.bool b)), mem := some μ' })]) ?_)
 dsimp only [go_sem]
 try dsimp only [go_sem]
 refine ⟨(by simp [vb, hc] <;> omega), (by simp [vb, hc] <;> omega), ?_⟩
 cases b with
 | true =>
  refine evA ?_
  dsimp only [go_sem]
  refine ⟨fun h => by simp at h <;> omega, fun _ => ?_⟩
  refine evA ?_
  dsimp only [go_sem]
  exact hgood rfl _ ⟨rfl, rfl, rfl, rfl, rfl, rfl, rfl, trivial⟩
 | false =>
  obtain ⟨tl, rfl⟩ := hb rfl
  refine evA ?_
  dsimp only [go_sem]
  refine ⟨fun _ => ?_, fun h => by simp at h <;> omega⟩
  exact aw_frame [(2, .ptr 0 0 0), (8, .pv (.int .i64 i))] ⟨rfl, rfl, trivial⟩ (bad_end R own m i hi tl (hbad rfl))
end
section
open Sch
open Pl
theorem headOf_one {k : Nat} {w0 : List UInt8} {l : List (List UInt8)} {ns : List Int} (h : headOf k w0 l = some ns) (hk : k < 4) : ∃ n, ns = [n] := by
 unfold headOf at h
 split at h
 ·split at h
  ·rename_i hq
   injection h with h
   subst h
   simp only [Bool.and_eq_true, Bool.or_eq_true, decide_eq_true_eq, beq_iff_eq] at hq
   exact len1 (by omega)
  ·cases h
 ·cases h
theorem headOf_len {k : Nat} {w0 : List UInt8} {l : List (List UInt8)} {ns : List Int} (h : headOf k w0 l = some ns) : ns.length = l.length := by
 unfold headOf at h
 split at h
 ·rename_i m hm
  split at h
  ·injection h with h
   subst h
   exact numsOf_len hm
  ·cases h
 ·cases h
abbrev lineF (ls : List (List UInt8)) (i : Nat) (ws : List (List UInt8)) : AF := [(2, .ptr 0 0 0), (5, .ptr 1 0 0), (6, .map 2 0), (8, .pv (.int .i64 i)), (10, .pv (wordsP ws)), (7, .pv (wordsP ls)), (26, .pv (wordsP ls)), (27, .pv (.int .i64 ls.length)), (28, .pv (.int .i64 i))]
set_option maxHeartbeats 4000000 in
theorem read_line (R : Exit → AF → AM → Prop) (own : Nat → Bool) (ls : List (List UInt8)) (m i : Nat) (hi : i ≤ 1000000) (next : Nat) (s : Sched) (hP : PInv next s) (w0 : List UInt8) (r : List (List UInt8)) (hm : (w0 :: r).length ≤ 100000) (hw : ∀ x ∈ w0 :: r, x.length ≤ 281474976710656)
  (hbad : lineP next s w0 r = none → ∀ f μ, RetD μ (errP (i + 1)) (evResult f μ parseRes) → R .ret f μ)
  (hgood : ∀ n' s', lineP next s w0 r = some (n', s') → ∀ f, Sub [(2, .ptr 0 0 0), (5, .ptr 1 0 0), (6, .map 2 0), (7, .pv (wordsP ls)), (26, .pv (wordsP ls)), (27, .pv (.int .i64 ls.length)), (28, .pv (.int .i64 i))] f → R .normal f (rdM s' (stOf n' s') n')) :
  Aw ctx own 91 m pRead R (lineF ls i (w0 :: r)) (rdM s (stOf next s) next) := by
 have hm2 := hm
 simp only [List.length_cons] at hm2
 unfold pRead
 by_cases h5 : next < 5
 ·obtain ⟨e1, e2, e3⟩ := hP.e1 h5
  obtain ⟨a, b, c, d, e, fs, ss⟩ := s
  simp only at e1 e2 e3
  subst e1 e2 e3
  have hst : ∀ x, stOf next x = .nilsl := fun x => by simp [stOf, h5]
  rw [hst]
  have hn5 : ((next : Int) == 5) = false := by simp; omega
  refine evA ?_
  dsimp only [rdM, readerB, go_sem]
  try dsimp only [rdM, readerB, go_sem]
  refine ⟨(by simp [vb] <;> omega), (by simp [vb] <;> omega), ?_⟩
  refine evA ?_
  dsimp only [rdM, readerB, go_sem]
  try dsimp only [rdM, readerB, go_sem]
  refine ⟨(by simp [vb] <;> omega), (by simp [vb] <;> omega), ?_⟩
  rw [hn5]
  refine evA ?_
  dsimp only [go_sem]
  refine ⟨fun h => by simp at h <;> omega, fun _ => ?_⟩
  refine evA ?_
  dsimp only [go_sem]
  refine aw_frame [(2, .ptr 0 0 0), (5, .ptr 1 0 0), (6, .map 2 0), (8, .pv (.int .i64 i)), (10, .pv (wordsP (w0 :: r))), (11, .bm 29 [.ptr 1 0 0]), (7, .pv (wordsP ls)), (26, .pv (wordsP ls)), (27, .pv (.int .i64 ls.length)), (28, .pv (.int .i64 i))] ⟨rfl, rfl, rfl, rfl, rfl, rfl, rfl, rfl, rfl, rfl, trivial⟩ ?_
  cases ho : headOf next w0 r with
  | none =>
   have hl : lineP next ⟨a, b, c, d, [], [], []⟩ w0 r = none := by
    by_cases h4 : next < 4
    ·simp [lineP, h4, ho]
    ·have : next = 4 := by omega
     subst this
     simp [lineP, ho]
   exact read_call R own ls m i hi (w0 :: r) _ _ _ false (head_none a b c d .nilsl next h5 w0 r (by omega) hw ho) (fun _ => ⟨_, rfl⟩) (fun _ => hbad hl) (fun h => by cases h)
  | some ns =>
   by_cases h4 : next < 4
   ·obtain ⟨n, rfl⟩ := headOf_one ho h4
    have hl : lineP next ⟨a, b, c, d, [], [], []⟩ w0 r = if between n (headLo next) (headHi next) then some (next + 1, setHead ⟨a, b, c, d, [], [], []⟩ next n) else none := by simp only [lineP, h4, if_true, ho]
    refine read_call R own ls m i hi (w0 :: r) _ _ _ _ (head_num a b c d .nilsl next h4 w0 r (by omega) hw n ho) (fun _ => ⟨_, rfl⟩) (fun hb => hbad (by rw [hl, hb]; rfl)) fun hb f hf => ?_
    have := hgood _ _ (by rw [hl, hb]; rfl) f hf
    have hs2 : stOf (next + 1) (setHead ⟨a, b, c, d, [], [], []⟩ next n) = .nilsl := by simp [stOf]; omega
    rw [hs2] at this
    exact this
   ·have : next = 4 := by omega
    subst this
    have hlen := headOf_len ho
    have hl : lineP 4 ⟨a, b, c, d, [], [], []⟩ w0 r = if (decide (ns.length ≤ 128) && allIn ns (-1000000) 1000000) = true then some (5, ⟨a, b, c, d, ns, [], []⟩) else none := by simp [lineP, ho]
    refine read_call R own ls m i hi (w0 :: r) _ _ _ _ (head_state a b c d .nilsl w0 r (by omega) hw ns (by omega) ho) (fun _ => ⟨_, rfl⟩) (fun hb => hbad (by rw [hl, hb]; rfl)) fun hb f hf => ?_
    exact hgood _ _ (by rw [hl, hb]; rfl) f hf
 ·have : next = 5 := by have := hP.n5; omega
  subst this
  have hst : ∀ x : Sched, stOf 5 x = intsP x.state := fun x => rfl
  rw [hst]
  cases hq : w0 == fateW with
  | true =>
   have hq2 := hq
   simp only [fateW] at hq2
   refine evA ?_
   dsimp only [rdM, readerB, go_sem]
   try dsimp only [rdM, readerB, go_sem]
   refine ⟨(by simp [vb] <;> omega), (by simp [vb] <;> omega), ?_⟩
   refine evA ?_
   dsimp only [rdM, readerB, go_sem]
   try dsimp only [rdM, readerB, go_sem]
   refine ⟨(by simp [vb] <;> omega), (by simp [vb] <;> omega), ?_⟩
   refine evH [(54, { val := some (.pv (.str w0)) }), (55, { val := some (.bm 24 [.ptr 1 0 0]) })] ?_
   dsimp only [wordsP, mapB, go_sem]
   refine ⟨fun _ => ?_, fun h => by simp at h <;> omega⟩
   refine evH [(54, { val := some (.pv (.str w0)) }), (55, { val := some (.bm 24 [.ptr 1 0 0]) })] ?_
   dsimp only [wordsP, mapB, go_sem]
   try dsimp only [wordsP, mapB, go_sem]
   refine ⟨(by simp [vb, mpGet, eqKey, hq2] <;> omega), (by simp [vb, mpGet, eqKey, hq2] <;> omega), ?_⟩
   refine aw_frame [(2, .ptr 0 0 0), (5, .ptr 1 0 0), (6, .map 2 0), (8, .pv (.int .i64 i)), (10, .pv (wordsP (w0 :: r))), (11, .bm 24 [.ptr 1 0 0]), (7, .pv (wordsP ls)), (26, .pv (wordsP ls)), (27, .pv (.int .i64 ls.length)), (28, .pv (.int .i64 i))] ⟨rfl, rfl, rfl, rfl, rfl, rfl, rfl, rfl, rfl, rfl, trivial⟩ ?_
   have hl : lineP 5 s w0 r = match fateOf (w0 :: r) with
    | some f => if (s.steps.isEmpty && (decide (s.fates.length + 1 ≤ 256) && fateOk f)) = true then some (5, { s with fates := s.fates ++ [f] }) else none
    | none => none := by
    unfold lineP
    rw [if_neg (by omega), if_neg (by omega), if_pos hq]
    all_goals (cases fateOf (w0 :: r) <;> rfl)
   have hfl := hP.f
   cases hf : fateOf (w0 :: r) with
   | none =>
    rw [hf] at hl
    exact read_call R own ls m i hi (w0 :: r) _ _ _ false (fate_ok s (intsP s.state) 5 w0 r (by omega) hw (by omega) false _ (rdM_ok _ _ _) (Nat.le_refl _) (fun _ => ⟨rfl, rfl⟩) fun f h => by rw [hf] at h; cases h) (fun _ => ⟨_, rfl⟩) (fun _ => hbad hl) (fun h => by cases h)
   | some f =>
    rw [hf] at hl
    simp only at hl
    by_cases hss : s.steps = []
    ·have hse : s.steps.isEmpty = true := by simp [hss]
     rw [hse, Bool.true_and] at hl
     refine read_call R own ls m i hi (w0 :: r) _ _ _ _ (fate_ok s (intsP s.state) 5 w0 r (by omega) hw (by omega) (decide (s.fates.length + 1 ≤ 256) && fateOk f) _ (rdM_ok { s with fates := s.fates ++ [f] } (intsP s.state) 5) ?_ (fun h => by rw [hf] at h; cases h) fun f' h own' => ?_) (fun _ => ⟨_, rfl⟩) (fun hb => hbad (by rw [hl, hb]; rfl)) fun hb f' hf' => ?_
     ·obtain ⟨a, b, c, d, e, fs, ss⟩ := s
      cases fs <;> simp [rdM, fatesB]
     ·rw [hf] at h; injection h with h; subst h
      exact fate_tail s (intsP s.state) 5 f (by omega) hss own' _ rfl
     ·exact hgood _ _ (by rw [hl, hb]; rfl) f' hf'
    ·have hse : s.steps.isEmpty = false := by simp [hss]
     rw [hse, Bool.false_and] at hl
     simp only [Bool.false_eq_true, if_false] at hl
     obtain ⟨μ', ⟨tl, hμ⟩, h1, h2, h3⟩ := fate_tail_late s (intsP s.state) 5 f (by omega) hss
     refine read_call R own ls m i hi (w0 :: r) _ _ μ' false (fate_ok s (intsP s.state) 5 w0 r (by omega) hw (by omega) false μ' h1 h2 (fun h => by rw [hf] at h; cases h) fun f' h own' => ?_) (fun _ => ⟨tl, hμ⟩) (fun _ => hbad hl) (fun h => by cases h)
     rw [hf] at h; injection h with h; subst h
     exact h3 own'
  | false =>
   cases hq1 : w0 == atW with
   | true =>
    have hq2 := hq
    have hq3 := hq1
    simp only [fateW] at hq2
    simp only [atW] at hq3
    refine evA ?_
    dsimp only [rdM, readerB, go_sem]
    try dsimp only [rdM, readerB, go_sem]
    refine ⟨(by simp [vb] <;> omega), (by simp [vb] <;> omega), ?_⟩
    refine evA ?_
    dsimp only [rdM, readerB, go_sem]
    try dsimp only [rdM, readerB, go_sem]
    refine ⟨(by simp [vb] <;> omega), (by simp [vb] <;> omega), ?_⟩
    refine evH [(54, { val := some (.pv (.str w0)) }), (55, { val := some (.bm 25 [.ptr 1 0 0]) })] ?_
    dsimp only [wordsP, mapB, go_sem]
    refine ⟨fun _ => ?_, fun h => by simp at h <;> omega⟩
    refine evH [(54, { val := some (.pv (.str w0)) }), (55, { val := some (.bm 25 [.ptr 1 0 0]) })] ?_
    dsimp only [wordsP, mapB, go_sem]
    try dsimp only [wordsP, mapB, go_sem]
    refine ⟨(by simp [vb, mpGet, eqKey, hq2, hq3] <;> omega), (by simp [vb, mpGet, eqKey, hq2, hq3] <;> omega), ?_⟩
    refine aw_frame [(2, .ptr 0 0 0), (5, .ptr 1 0 0), (6, .map 2 0), (8, .pv (.int .i64 i)), (10, .pv (wordsP (w0 :: r))), (11, .bm 25 [.ptr 1 0 0]), (7, .pv (wordsP ls)), (26, .pv (wordsP ls)), (27, .pv (.int .i64 ls.length)), (28, .pv (.int .i64 i))] ⟨rfl, rfl, rfl, rfl, rfl, rfl, rfl, rfl, rfl, rfl, trivial⟩ ?_
    have hl : lineP 5 s w0 r = match stepOf r with
     | some x => if follows s x = true then some (5, { s with steps := s.steps ++ [x] }) else none
     | none => none := by
     unfold lineP
     rw [if_neg (by omega), if_neg (by omega), if_neg (by rw [hq]; simp), if_pos hq1]
     all_goals (cases stepOf r <;> rfl)
    have hS := step_ok s w0 r hm hw hP.mild (by have := hP.p; omega)
    cases hx : stepOf r with
    | none =>
     rw [hx] at hl hS
     exact read_call R own ls m i hi (w0 :: r) _ _ _ false hS (fun _ => ⟨_, rfl⟩) (fun _ => hbad hl) (fun h => by cases h)
    | some x =>
     rw [hx] at hl hS
     simp only at hl hS
     by_cases hf : follows s x = true
     ·rw [if_pos hf] at hl hS
      exact read_call R own ls m i hi (w0 :: r) _ _ _ true hS (fun h => by cases h) (fun h => by cases h) fun _ f' hf' => hgood _ _ hl f' hf'
     ·rw [if_neg hf] at hl hS
      exact read_call R own ls m i hi (w0 :: r) _ _ _ false hS (fun _ => ⟨_, rfl⟩) (fun _ => hbad hl) (fun h => by cases h)
   | false =>
    have hq2 := hq
    have hq3 := hq1
    simp only [fateW] at hq2
    simp only [atW] at hq3
    have hl : lineP 5 s w0 r = none := by simp [lineP, hq, hq1]
    refine evA ?_
    dsimp only [rdM, readerB, go_sem]
    try dsimp only [rdM, readerB, go_sem]
    refine ⟨(by simp [vb] <;> omega), (by simp [vb] <;> omega), ?_⟩
    refine evA ?_
    dsimp only [rdM, readerB, go_sem]
    try dsimp only [rdM, readerB, go_sem]
    refine ⟨(by simp [vb] <;> omega), (by simp [vb] <;> omega), ?_⟩
    refine evH [(54, { val := some (.pv (.str w0)) }), (55, { val := some (.pv (.val .nilFunc)) })] ?_
    dsimp only [wordsP, mapB, go_sem]
    refine ⟨fun _ => ?_, fun h => by simp at h <;> omega⟩
    refine evH [(54, { val := some (.pv (.str w0)) }), (55, { val := some (.pv (.val .nilFunc)) })] ?_
    dsimp only [wordsP, mapB, go_sem]
    try dsimp only [wordsP, mapB, go_sem]
    refine ⟨(by simp [vb, mpGet, eqKey, hq2, hq3] <;> omega), (by simp [vb, mpGet, eqKey, hq2, hq3] <;> omega), ?_⟩
    refine aw_seq (aw_regX (T := []) (H := []) ?_)
    dsimp only [go_sem]
    try dsimp only [go_sem]
    refine ⟨(by simp [vb] <;> omega), (by simp [vb] <;> omega), ?_⟩
    refine evA ?_
    dsimp only [go_sem]
    refine ⟨fun _ => ?_, fun h => by simp at h <;> omega⟩
    exact aw_frame [(2, .ptr 0 0 0), (8, .pv (.int .i64 i))] ⟨rfl, rfl, trivial⟩ (bad_end R own m i hi _ (hbad hl))
end
section
open Sch
open Pl
def parseGo : List (List UInt8) → Nat → Nat → Sched → Sum Nat (Nat × Sched)
 | [], _, next, s => .inr (next, s)
 | ln :: r, i, next, s => match wordsOn 32 (upTo 35 ln) with
  | [] => parseGo r (i + 1) next s
  | w0 :: ws => match lineP next s w0 ws with
   | none => .inl (i + 1)
   | some (n', s') => parseGo r (i + 1) n' s'
theorem lineP_inv {next n' : Nat} {s s' : Sched} {w0 : List UInt8} {r : List (List UInt8)} (hP : PInv next s) (h : lineP next s w0 r = some (n', s')) : PInv n' s' := by
 unfold lineP at h
 split at h
 ·rename_i h4
  split at h
  ·rename_i n hn
   split at h
   ·rename_i hb
    injection h with h
    injection h with h1 h2
    subst h1 h2
    obtain ⟨e1, e2, e3⟩ := hP.e1 (by omega)
    match next, h4 with
    | 0, _ => exact ⟨by omega, fun _ => ⟨e1, e2, e3⟩, fun _ => hb, fun h => by omega, fun h => by omega, fun h => by omega, hP.f, hP.p, hP.a⟩
    | 1, _ => exact ⟨by omega, fun _ => ⟨e1, e2, e3⟩, fun _ => hP.r (by omega), fun _ => hb, fun h => by omega, fun h => by omega, hP.f, hP.p, hP.a⟩
    | 2, _ => exact ⟨by omega, fun _ => ⟨e1, e2, e3⟩, fun _ => hP.r (by omega), fun _ => hP.q (by omega), fun _ => hb, fun h => by omega, hP.f, hP.p, hP.a⟩
    | 3, _ => exact ⟨by omega, fun _ => ⟨e1, e2, e3⟩, fun _ => hP.r (by omega), fun _ => hP.q (by omega), fun _ => hP.c (by omega), fun _ => hb, hP.f, hP.p, hP.a⟩
   ·cases h
  ·cases h
 ·split at h
  ·rename_i h4 h5
   subst h5
   split at h
   ·rename_i ns hn
    split at h
    ·rename_i hb
     injection h with h
     injection h with h1 h2
     subst h1 h2
     simp only [Bool.and_eq_true, decide_eq_true_eq] at hb
     exact ⟨by omega, fun h => by omega, fun _ => hP.r (by omega), fun _ => hP.q (by omega), fun _ => hP.c (by omega), fun _ => hP.t (by omega), hP.f, hP.p, hb.1⟩
    ·cases h
   ·cases h
  ·rename_i h4 h5
   have : next = 5 := by have := hP.n5; omega
   subst this
   split at h
   ·split at h
    ·rename_i f hf
     split at h
     ·rename_i hb
      injection h with h
      injection h with h1 h2
      subst h1 h2
      simp only [Bool.and_eq_true, decide_eq_true_eq] at hb
      exact ⟨by omega, fun h => by omega, hP.r, hP.q, hP.c, hP.t, by simp; omega, hP.p, hP.a⟩
     ·cases h
    ·cases h
   ·split at h
    ·split at h
     ·rename_i x hx
      split at h
      ·rename_i hb
       injection h with h
       injection h with h1 h2
       subst h1 h2
       simp only [follows, Bool.and_eq_true, decide_eq_true_eq] at hb
       exact ⟨by omega, fun h => by omega, hP.r, hP.q, hP.c, hP.t, hP.f, by simp; omega, hP.a⟩
      ·cases h
     ·cases h
    ·cases h
theorem PInv.zero : PInv 0 zeroSched := ⟨by omega, fun _ => ⟨rfl, rfl, rfl⟩, fun h => by omega, fun h => by omega, fun h => by omega, fun h => by omega, by simp [zeroSched], by simp [zeroSched], by simp [zeroSched]⟩
def lineInv (ls : List (List UInt8)) (k : Nat) (f : AF) (μ' : AM) : Prop :=
 ∃ todo done next s, ls = done ++ todo ∧ k = todo.length ∧ PInv next s ∧ parseGo ls 0 0 zeroSched = parseGo todo done.length next s ∧ μ' = rdM s (stOf next s) next ∧
  Sub [(2, .ptr 0 0 0), (5, .ptr 1 0 0), (6, .map 2 0), (7, .pv (wordsP ls)), (26, .pv (wordsP ls)), (27, .pv (.int .i64 ls.length)), (28, .pv (.int .i64 done.length))] f
theorem line_at {l done r : List (List UInt8)} {c : List UInt8} (h : l = done ++ c :: r) : (l.map PV.str)[done.length]? = some (.str c) := by simp [h]
set_option maxHeartbeats 4000000 in
theorem parse_loop (R : Exit → AF → AM → Prop) (own : Nat → Bool) (m : Nat) (ls : List (List UInt8)) (hn : ls.length ≤ 100000) (hl : ∀ l ∈ ls, l.length ≤ 65536)
  (hbad : ∀ k, parseGo ls 0 0 zeroSched = .inl k → ∀ f μ, RetD μ (errP k) (evResult f μ parseRes) → R .ret f μ)
  (hgood : ∀ next s, parseGo ls 0 0 zeroSched = .inr (next, s) → PInv next s → ∀ f, Sub [(2, .ptr 0 0 0), (5, .ptr 1 0 0), (7, .pv (wordsP ls))] f → R (.exit 0) f (rdM s (stOf next s) next)) :
  Aw ctx own 91 m pLoop R [(2, .ptr 0 0 0), (5, .ptr 1 0 0), (6, .map 2 0), (7, .pv (wordsP ls)), (26, .pv (wordsP ls)), (27, .pv (.int .i64 ls.length)), (28, .pv (.int .i64 0))] (rdM zeroSched .nilsl 0) := by
 unfold pLoop
 refine aw_loop (lineInv ls) ?_ ls.length ⟨ls, [], 0, zeroSched, rfl, rfl, PInv.zero, rfl, rfl, rfl, rfl, rfl, rfl, rfl, rfl, rfl, trivial⟩
 rintro k f μ' ⟨todo, done, next, s, hx, rfl, hP, hgo, rfl, hs⟩
 refine aw_frame _ hs ?_
 clear hs
 have hxl : ls.length = done.length + todo.length := by rw [hx, List.length_append]
 generalize hM : rdM s (stOf next s) next = M
 refine evA ?_
 dsimp only [go_sem]
 try dsimp only [go_sem]
 refine ⟨(by simp [vb] <;> omega), (by simp [vb] <;> omega), ?_⟩
 refine evA ?_
 dsimp only [go_sem]
 refine ⟨fun hc => ?_, fun hc => ?_⟩
 ·match todo, hx, hxl, hgo with
  | [], hx, hxl, hgo => simp at hc hxl; omega
  | ln :: r, hx, hxl, hgo =>
   simp only [List.length_cons] at hxl
   have hlc := line_at hx
   have hll := hl ln (by simp [hx])
   have hC := cut_ok ln 35 (by omega)
   have hul := upTo_len 35 ln
   have hF := ufields_ok (upTo 35 ln) (by omega)
   have hwl := wordsOn_len 32 (upTo 35 ln)
   have hwm := wordsOn_mem 32 (upTo 35 ln)
   generalize hws : wordsOn 32 (upTo 35 ln) = ws at *
   unfold wordsP at hF
   have et : ((done.length : Int)).toNat = done.length := by omega
   refine evH [(32, { val := some (.pv (.str ln)) })] ?_
   dsimp only [wordsP, go_sem]
   refine evH [(32, { val := some (.pv (.str ln)) })] ?_
   dsimp only [wordsP, go_sem]
   try dsimp only [wordsP, go_sem]
   refine ⟨(by simp [vb] <;> omega), ?_, ?_⟩
   ·simp [All, VCs, hlc]
   refine evT [(26, fun _ => some (.tup [.str (upTo 35 ln), .str (Lib.cut ln [35]).2.1, .bool (Lib.cut ln [35]).2.2]))] ?_
   dsimp only [go_sem]
   try dsimp only [go_sem]
   refine ⟨(by simp [vb, hC] <;> omega), (by simp [vb, hC] <;> omega), ?_⟩
   refine evT [(27, fun _ => some (.sl ws.length (ws.map .str)))] ?_
   dsimp only [go_sem]
   try dsimp only [go_sem]
   refine ⟨(by simp [vb, hF] <;> omega), (by simp [vb, hF] <;> omega), ?_⟩
   refine evA ?_
   dsimp only [go_sem]
   try dsimp only [go_sem]
   refine ⟨(by simp [vb] <;> omega), (by simp [vb] <;> omega), ?_⟩
   have hnext : ∀ n' s', PInv n' s' → parseGo ls 0 0 zeroSched = parseGo r (done.length + 1) n' s' → ∀ f μ, μ = rdM s' (stOf n' s') n' → Sub [(2, .ptr 0 0 0), (5, .ptr 1 0 0), (6, .map 2 0), (7, .pv (wordsP ls)), (26, .pv (wordsP ls)), (27, .pv (.int .i64 ls.length)), (28, .pv (.int .i64 (done.length + 1)))] f → ∃ j, j < r.length + 1 ∧ lineInv ls j f μ :=
    fun n' s' hP' hg f μ hμ hf => ⟨r.length, by omega, r, done ++ [ln], n', s', by simp [hx], rfl, hP', by simpa using hg, hμ, by simpa using hf⟩
   cases ws with
   | nil =>
    have hg2 : parseGo ls 0 0 zeroSched = parseGo r (done.length + 1) next s := by
     rw [hgo]
     simp only [parseGo, hws]
    iterate 5 first
     | refine ⟨fun _ => ?_, fun h => by simp at h <;> omega⟩
     | refine ⟨by simp [vb] <;> omega, by simp [vb] <;> omega, ?_⟩
     | (refine evA ?_; iterate 2 (try dsimp only [go_sem]))
    exact hnext next s hP hg2 _ _ hM.symm ⟨rfl, rfl, rfl, rfl, rfl, rfl, rfl, trivial⟩
   | cons w0 wr =>
    have hg2 : parseGo ls 0 0 zeroSched = match lineP next s w0 wr with
     | none => .inl (done.length + 1)
     | some (n', s') => parseGo r (done.length + 1) n' s' := by
     rw [hgo]
     simp only [parseGo, hws]
    refine evA ?_
    dsimp only [go_sem]
    refine ⟨fun h => by simp at h <;> omega, fun _ => ?_⟩
    refine evA ?_
    dsimp only [go_sem]
    rw [← hM]
    refine aw_frame (lineF ls done.length (w0 :: wr)) ⟨rfl, rfl, rfl, rfl, rfl, rfl, rfl, rfl, rfl, trivial⟩ ?_
    refine read_line _ own ls m done.length (by omega) next s hP w0 wr (by omega) (fun x hx2 => by have := hwm x hx2; omega) (fun hlp f μ hret => ?_) fun n' s' hlp f hf => ?_
    ·refine hbad (done.length + 1) (by rw [hg2, hlp]) f μ ?_
     simpa using hret
    ·refine aw_frame _ hf ?_
     rw [hlp] at hg2
     generalize hM2 : rdM s' (stOf n' s') n' = M2
     refine evA ?_
     dsimp only [go_sem]
     try dsimp only [go_sem]
     refine ⟨(by simp [vb] <;> omega), (by simp [vb] <;> omega), ?_⟩
     exact hnext n' s' (lineP_inv hP hlp) hg2 _ _ hM2.symm ⟨rfl, rfl, rfl, rfl, rfl, rfl, rfl, trivial⟩
 ·have ht : todo = [] := by
   have : ¬ ((done.length : Int) < (ls.length : Int)) := by simpa using hc
   exact List.eq_nil_of_length_eq_zero (by omega)
  subst ht
  refine evA ?_
  dsimp only [go_sem]
  rw [← hM]
  exact hgood next s (by rw [hgo]; rfl) hP _ ⟨rfl, rfl, rfl, trivial⟩
end
end Pur
end Go.Proofs.YteokbngllldmdaaGreatDoor
