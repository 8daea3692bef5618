/-
  A part of the proof. (PtC PtD PtE PlWords PtF PtG PtH PtI PtJ PsI PsJ PsF PsFN)
-/
import Derived.Test.YteokbngllldmdaaGreatDoorP03
import Derived.Lib.Split
import Derived.Lib.SplitLaws
import Derived.Lib.FieldsP
import Derived.Lib.IndexBytes
import Derived.Lib.IndexLaws
import Derived.Lib.IndexMore
set_option maxRecDepth 10000
set_option linter.unusedSimpArgs false
set_option linter.unusedVariables false
namespace Go.Proofs.YteokbngllldmdaaGreatDoor
namespace Pur
open Go.RowKit
attribute [local go_sem] evOps evOp evOpV evRun evK argF List.map hintAt stripped get put tmpsOf tmpOf tmpO tmpL tmpP conds ev cond_true cond_false Nat.beq Nat.ble Nat.add quiet After thenR blockR IfD List.append_eq List.nil_append List.cons_append evInt exactI_a exactI_b exactI_c exactI_d exactI_e exactI_f evBin evStr evBool evUn guardC calm quiet.isCallK evPick List.getElem?_cons_zero List.getElem?_cons_succ fromCells fromPVs cellsOf List.all oneCell List.length_cons List.length_nil mkAgg plains List.drop List.take List.getD Option.getD_some bo1 bo2 ba1 ba2 bn1 bn2 kk_i64 kk_u8 kk_i32 kk_u64 setAt List.set Nat.reduceAdd Nat.reduceMul evCall safeCall refsOf refsIn scalarA scalar scalarL thawL mapAll thawArg thawRef after freeze RetD RetE evResult evRess evRes1 thaw_pv mkTup nilOf_a nilOf_b nilOf_bb nilOf_c nilOf_d nilOf_e nilOf_f nilOf_g nilOf_h nilOf_i nilOf_j nilOf_k nilOf_l nilOf_m eqLeaf_a eqLeaf_b eqLeaf_c eqOffs evMM bytesOf evOpsF AfterF footOf footRefs notIn indepF footAt freeOk still evParts fillA zeros intOfA boundA srcOf List.isEmpty appNil_0 appNil_1 appNil_2 Int.reduceToNat Nat.mul_one Nat.reduceSub evC evOpsT evOpsTF autoH tabHint look hintD strip guarded RetPD RetRD mpLen keysOk leafKA leafK bitI nilOf_n nilOf_o Bool.or_false Bool.or_true Bool.and_true Bool.and_false Nat.blt renF renM renB renV idxOf solF solM solA solV thawRef ev1
section
open Sch
def c76 : ACode := (⟨_, by conv => (lhs; reduce; try simp only [lt1, Int.cast_ofNat_Int, Int.reduceNegSucc, UInt8.reduceOfNat])⟩ : {x // codeOf Tryz.prog 76 (fun _ => false) = some x}).1
theorem fn76 : fnOf Tryz.prog 76 (fun _ => false) = some (c76, [.t 2], 52, true) := by kernel_rfl
def c77 : ACode := (⟨_, by conv => (lhs; reduce; try simp only [lt1, Int.cast_ofNat_Int, Int.reduceNegSucc, UInt8.reduceOfNat])⟩ : {x // codeOf Tryz.prog 77 (fun _ => false) = some x}).1
theorem fn77 : fnOf Tryz.prog 77 (fun _ => false) = some (c77, [.t 4], 186, true) := by kernel_rfl
theorem refHead_ok (s : Sched) (hl : s.state.length ≤ 1000000000000) : PureOK ctx 76 [schedP s] (.bool (head s)) := by
  have hw := within_ok s.state (-1000000) 1000000 hl
  generalize hr : head s = r
  unfold head between at hr
  refine pure_body' (C := ctx) (Fn.of fn76 rfl) rfl ?_
  unfold c76
  repeat' (first
    | ((with_reducible first | show VCs _ | show All _); (try dsimp only [go_sem]); first | (simp [vb, hw] <;> omega) | (simp only [vb, and_true, true_implies]; (repeat' (first | assumption | (with_reducible apply And.intro) | intro _)) <;> first | omega | (simp only [ab, hw]; done) | (simp [hw] <;> omega)))
    | exact (rfl : some _ = _)
    | (fail_if_success refine awL ?_
       refine evT [(98, fun _ => some (.bool (allIn s.state (-1000000) 1000000)))] ?_
       repeat1' dsimp only [c76, schedP, intsP, go_sem]
       first
       | refine aw4 ?_ ?_ rfl ?_
       | apply aw3
       | apply aw2
       | (refine awB (fun hc => ?_) fun hc => ?_ <;> first | (cases hc; done) | (exfalso; simp [hw] at hc <;> omega) | (try simp only [bn] at hc; try contradiction))
       | skip))
  rw [← hr]
  simp only [cond_and, Bool.and_assoc]
  rw [show decide ((s.state.length : Int) ≤ 128) = decide (s.state.length ≤ 128) from by simp only [decide_eq_decide]; omega]
structure Few (x : Step) : Prop where
 q : x.queries.length ≤ 2000000
 s : x.survive.length ≤ 2000000
 v : x.voters.length ≤ 2000000
def refStepB (s : Sched) (x : Step) : Bool :=
 between x.tick 0 (s.ticks - 1) && between x.replica 0 (s.replicas - 1) && decide (numsL x = numsL (fieldsOf x)) && (between x.kind 0 6 && Sch.kindOk s x)
theorem numsL_len (x : Step) : (numsL x).length = 10 + 2 * x.queries.length + x.survive.length + x.voters.length := by
 simp [numsL, numsTo_len x _ (Nat.le_refl _)]
 omega
set_option maxHeartbeats 4000000 in
theorem validStep_q (s : Sched) (x : Step) (h : Few x) (hk : x.kind = 1) : PureOK ctx 77 [schedP s, stepP x] (.bool (refStepB s x)) := by
  have hn1 := refNumbers_step_ok x h.q h.s h.v
  have hf : Few (fieldsOf x) := by
    have := h.q; have := h.s; have := h.v
    unfold fieldsOf zeroStep
    dsimp only
    refine ⟨?_, ?_, ?_⟩ <;> (repeat' split) <;> simp <;> assumption
  have ho := only_ok x
  have hn2 := refNumbers_step_ok (fieldsOf x) hf.q hf.s hf.v
  have hsm := same_ok (numsL x) (numsL (fieldsOf x)) (by rw [numsL_len]; have := h.q; have := h.s; have := h.v; omega) (by rw [numsL_len]; have := hf.q; have := hf.s; have := hf.v; omega)
  generalize hr : refStepB s x = r
  unfold refStepB at hr
  generalize fieldsOf x = y at *
  generalize numsL y = ny at *
  generalize numsL x = nx at *
  generalize decide (nx = ny) = b at *
  have hw1 := within_ok x.survive 0 64 (by have := h.s; omega)
  have hw2 := within_ok x.voters 0 (s.replicas - 1) (by have := h.v; omega)
  refine pure_body' (C := ctx) (Fn.of fn77 rfl) rfl ?_
  unfold c77
  repeat' (first
    | ((with_reducible show VCs _); first | exact True.intro | (simp only [vb, lb]; omega) | (simp only [vb, lb, hw1, hw2, hn1, hn2, ho, hsm]; and_intros <;> first | omega | (simp <;> omega)) | (simp [vb, hw1, hw2, hn1, hn2, ho, hsm] <;> omega))
    | ((with_reducible show All _); first | exact True.intro | ((try dsimp only [go_sem]); first | (simp [vb, hw1, hw2, hn1, hn2, ho, hsm] <;> omega) | (simp only [vb, and_true, true_implies]; (repeat' (first | assumption | (with_reducible apply And.intro) | intro _)) <;> first | omega | rfl | (simp only [ab, hw1, hw2, hn1, hn2, ho, hsm]; done) | (simp [Nat.mul_one, hw1, hw2, hn1, hn2, ho, hsm] <;> omega) | (simp_all; done))))
    | exact (rfl : some _ = _)
    | (fail_if_success refine awL ?_
       refine evTH [(99, fun _ => some (stepP y)), (36, fun _ => some (.bool b)), (98, fun ps => match ps with | [_, _, .int _ 64] => some (.bool (allIn x.survive 0 64)) | _ => some (.bool (allIn x.voters 0 (s.replicas - 1))))] [(33, { val := some (.pv (intsP nx)) }), (36, { val := some (.pv (intsP ny)) })] ?_
       repeat1' dsimp only [c77, schedP, stepP, stepC, go_sem]
       first
       | refine aw4 ?_ ?_ rfl ?_
       | apply aw3
       | apply aw2
       | (refine awB (fun hc => ?_) fun hc => ?_ <;> first | (cases hc; done) | (exfalso; first | (simp at hc <;> omega) | (simp [hw1, hw2, hn1, hn2, ho, hsm] at hc; done)) | (try simp only [bn] at hc; try contradiction))
       | skip))
  · rw [← hr]
    have : (between x.tick 0 (s.ticks - 1) && between x.replica 0 (s.replicas - 1) && b) = false := by
      cases b <;> simp [between] at hc ⊢
      omega
    rw [this, Bool.false_and]
  all_goals
    have h3 : (between x.tick 0 (s.ticks - 1) && between x.replica 0 (s.replicas - 1) && b) = true := by
      cases b <;> simp [between] at * <;> omega
    rw [h3, Bool.true_and] at hr
    rw [← hr]
    clear hr h3 hn1 hn2 hsm ho
  refine aw_forJ x.queries.length (fun k => (x.queries.take k).all queryOk = true) (fun k => [(2, .ptr 0 0 0), (3, .ptr 1 0 0), (5, .pv (.bool (bif decide (0 ≤ x.session) then decide (x.session < s.sessions) else false))), (6, .pv (.int .i64 k))]) (fun _ => vsM s x) rfl (by (repeat' (first | exact trivial | refine And.intro (by first | rfl | (simp [get, Nat.beq]; done) | (simp [get, Nat.beq]; omega) | (dsimp only [get]; congr 1 <;> first | rfl | omega | (simp; done) | (simp; omega))) ?_))) ⟨[], rfl⟩ (fun k => ⟨Nat.zero_le _, rfl, rfl⟩) fun k hk hP => ?_
  have hql := h.q
  by_cases hlt : k < x.queries.length
  · have e := fm_take queryC_len x.queries k (0, 0) hlt
    have hs := all_step queryOk x.queries k (0, 0) hlt
    have hno := all_no (p := queryOk) (l := x.queries) (k := k) (d := (0, 0)) hlt
    have hfl := flatMap_length queryC_len x.queries
    generalize x.queries.getD k (0, 0) = q at *
    repeat' (first
      | ((with_reducible first | show VCs _ | show All _); simp [vb, e, hlt, hfl, queryC] <;> omega)
      | exact (rfl : some _ = _)
      | (fail_if_success refine awL ?_
         refine evH [(78, { val := some (.pv (.agg [.int .i64 q.1, .int .i64 q.2])) })] ?_
         repeat1' dsimp only [c77, vsM, stepC, queriesP, go_sem]
         first
         | refine aw4 ?_ ?_ rfl ?_
         | apply aw3
         | apply aw2
         | (refine awB (fun hc => ?_) fun hc => ?_ <;> first | (cases hc; done) | (exfalso; simp [e, hlt, hfl, queryC] at hc <;> omega) | (try simp only [bn] at hc; try contradiction))
         | skip))
    · have hn : x.queries.all queryOk = false := hno (by rw [Bool.eq_false_iff]; simp [queryOk, between]; omega)
      have : Sch.kindOk s x = false := by
        unfold Sch.kindOk
        rw [if_neg (by omega), if_pos (by omega), hn, Bool.and_false]
      rw [this, Bool.and_false]
    · refine ⟨hlt, ?_, by (repeat' (first | exact trivial | refine And.intro (by first | rfl | (simp [get, Nat.beq]; done) | (simp [get, Nat.beq]; omega) | (dsimp only [get]; congr 1 <;> first | rfl | omega | (simp; done) | (simp; omega))) ?_)), _, rfl⟩
      rw [hs, hP]
      simp [queryOk, between]
      omega
  · have hkl : k = x.queries.length := by omega
    subst hkl
    rw [List.take_length] at hP
    repeat' (first
      | ((with_reducible first | show VCs _ | show All _); simp [vb] <;> omega)
      | exact (rfl : some _ = _)
      | (fail_if_success refine awL ?_
         refine evA ?_
         repeat1' dsimp only [c77, vsM, stepC, queriesP, go_sem]
         first
         | refine aw4 ?_ ?_ rfl ?_
         | apply aw3
         | apply aw2
         | (refine awB (fun hc => ?_) fun hc => ?_ <;> first | (cases hc; done) | (exfalso; simp at hc <;> omega) | (try simp only [bn] at hc; try contradiction))
         | skip))
    unfold Sch.kindOk
    rw [if_neg (by omega), if_pos (by omega), hP, show between x.kind 0 6 = true by simp [between]; omega]
    refine congrArg some (congrArg PV.bool ?_)
    rw [Bool.eq_iff_iff]
    simp [between, cond_and]
    omega
set_option maxHeartbeats 4000000 in
theorem validStep_v (s : Sched) (x : Step) (h : Few x) (hk : x.kind = 6) (hrep : 1 ≤ s.replicas) (hrep2 : s.replicas ≤ 1000) : PureOK ctx 77 [schedP s, stepP x] (.bool (refStepB s x)) := by
  have hn1 := refNumbers_step_ok x h.q h.s h.v
  have hf : Few (fieldsOf x) := by
    have := h.q; have := h.s; have := h.v
    unfold fieldsOf zeroStep
    dsimp only
    refine ⟨?_, ?_, ?_⟩ <;> (repeat' split) <;> simp <;> assumption
  have ho := only_ok x
  have hn2 := refNumbers_step_ok (fieldsOf x) hf.q hf.s hf.v
  have hsm := same_ok (numsL x) (numsL (fieldsOf x)) (by rw [numsL_len]; have := h.q; have := h.s; have := h.v; omega) (by rw [numsL_len]; have := hf.q; have := hf.s; have := hf.v; omega)
  generalize hr : refStepB s x = r
  unfold refStepB at hr
  generalize fieldsOf x = y at *
  generalize numsL y = ny at *
  generalize numsL x = nx at *
  generalize decide (nx = ny) = b at *
  have hw1 := within_ok x.survive 0 64 (by have := h.s; omega)
  have hw2 := within_ok x.voters 0 (s.replicas - 1) (by have := h.v; omega)
  refine pure_body' (C := ctx) (Fn.of fn77 rfl) rfl ?_
  unfold c77
  repeat' (first
    | ((with_reducible show VCs _); first | exact True.intro | (simp only [vb, lb]; omega) | (simp only [vb, lb, hw1, hw2, hn1, hn2, ho, hsm]; and_intros <;> first | omega | (simp <;> omega)) | (simp [vb, hw1, hw2, hn1, hn2, ho, hsm] <;> omega))
    | ((with_reducible show All _); first | exact True.intro | ((try dsimp only [go_sem]); first | (simp [vb, hw1, hw2, hn1, hn2, ho, hsm] <;> omega) | (simp only [vb, and_true, true_implies]; (repeat' (first | assumption | (with_reducible apply And.intro) | intro _)) <;> first | omega | rfl | (simp only [ab, hw1, hw2, hn1, hn2, ho, hsm]; done) | (simp [Nat.mul_one, hw1, hw2, hn1, hn2, ho, hsm] <;> omega) | (simp_all; done))))
    | exact (rfl : some _ = _)
    | (fail_if_success refine awL ?_
       refine evTH [(99, fun _ => some (stepP y)), (36, fun _ => some (.bool b)), (98, fun ps => match ps with | [_, _, .int _ 64] => some (.bool (allIn x.survive 0 64)) | _ => some (.bool (allIn x.voters 0 (s.replicas - 1))))] [(33, { val := some (.pv (intsP nx)) }), (36, { val := some (.pv (intsP ny)) })] ?_
       repeat1' dsimp only [c77, schedP, stepP, stepC, go_sem]
       first
       | refine aw4 ?_ ?_ rfl ?_
       | apply aw3
       | apply aw2
       | (refine awB (fun hc => ?_) fun hc => ?_ <;> first | (cases hc; done) | (exfalso; first | (simp at hc <;> omega) | (simp [hw1, hw2, hn1, hn2, ho, hsm] at hc; done)) | (try simp only [bn] at hc; try contradiction))
       | skip))
  · rw [← hr]
    have : (between x.tick 0 (s.ticks - 1) && between x.replica 0 (s.replicas - 1) && b) = false := by
      cases b <;> simp [between] at hc ⊢
      omega
    rw [this, Bool.false_and]
  all_goals
    have h3 : (between x.tick 0 (s.ticks - 1) && between x.replica 0 (s.replicas - 1) && b) = true := by
      cases b <;> simp [between] at * <;> omega
    rw [h3, Bool.true_and] at hr
    rw [← hr]
    clear hr h3 hn1 hn2 hsm ho
  refine aw_forJ x.voters.length (fun k => ascending (x.voters.take (k + 1)) = true) (fun k => [(2, .ptr 0 0 0), (3, .ptr 1 0 0), (8, .pv (.int .i64 ((k : Int) + 1)))]) (fun _ => vsM s x) (by cases x.voters <;> simp [ascending]) (by (repeat' (first | exact trivial | refine And.intro (by first | rfl | (simp [get, Nat.beq]; done) | (simp [get, Nat.beq]; omega) | (dsimp only [get]; congr 1 <;> first | rfl | omega | (simp; done) | (simp; omega))) ?_))) ⟨[], rfl⟩ (fun k => ⟨Nat.zero_le _, rfl, rfl⟩) fun k hk hP => ?_
  have hql := h.v
  by_cases hlt : k + 1 < x.voters.length
  · have e1 := getD_ints x.voters k (by omega)
    have e2 := getD_ints x.voters (k + 1) hlt
    have hs := asc_step x.voters k hlt
    have hno := asc_take x.voters (k + 2)
    have ht : ((k : Int) + 1).toNat = k + 1 := by omega
    have ht2 : ((k : Int) + 1 - 1).toNat = k := by omega
    generalize x.voters.getD k 0 = u at *
    generalize x.voters.getD (k + 1) 0 = w at *
    repeat' (first
      | ((with_reducible first | show VCs _ | show All _); (try dsimp only [go_sem]); first | (simp [vb, e1, e2, ht, ht2] <;> omega) | (simp only [vb, and_true, true_implies]; (repeat' (first | assumption | (with_reducible apply And.intro) | intro _)) <;> first | omega | (simp only [ab, e1, e2, ht, ht2]; done) | (simp [e1, e2, ht, ht2] <;> omega)))
      | exact (rfl : some _ = _)
      | (fail_if_success refine awL ?_
         refine evH [(166, { val := some (.pv (.int .i64 w)) }), (172, { val := some (.pv (.int .i64 u)) })] ?_
         repeat1' dsimp only [c77, vsM, stepC, intsP, go_sem]
         first
         | refine aw4 ?_ ?_ rfl ?_
         | apply aw3
         | apply aw2
         | (refine awB (fun hc => ?_) fun hc => ?_ <;> first | (cases hc; done) | (exfalso; simp [e1, e2, ht, ht2] at hc <;> omega) | (try simp only [bn] at hc; try contradiction))
         | skip))
    · have hn : ascending x.voters = false := by
        rw [Bool.eq_false_iff]
        intro ha
        rw [hno ha, hP] at hs
        simp at hs
        omega
      have : Sch.kindOk s x = false := by
        unfold Sch.kindOk
        rw [if_neg (by omega), if_neg (by omega), if_neg (by omega), if_neg (by omega), if_pos (by omega), hn, Bool.false_and, Bool.false_and]
      rw [this, Bool.and_false]
    · refine ⟨by omega, ?_, by (repeat' (first | exact trivial | refine And.intro (by first | rfl | (simp [get, Nat.beq]; done) | (simp [get, Nat.beq]; omega) | (dsimp only [get]; congr 1 <;> first | rfl | omega | (simp; done) | (simp; omega))) ?_)), _, rfl⟩
      rw [hs, hP]
      simp
      omega
  · rw [List.take_of_length_le (by omega)] at hP
    repeat' (first
      | ((with_reducible first | show VCs _ | show All _); (try dsimp only [go_sem]); first | (simp [vb, hw2] <;> omega) | (simp only [vb, and_true, true_implies]; (repeat' (first | assumption | (with_reducible apply And.intro) | intro _)) <;> first | omega | (simp only [ab, hw2]; done) | (simp [hw2] <;> omega)))
      | exact (rfl : some _ = _)
      | (fail_if_success refine awL ?_
         refine evT [(98, fun _ => some (.bool (allIn x.voters 0 (s.replicas - 1))))] ?_
         repeat1' dsimp only [c77, vsM, stepC, intsP, go_sem]
         first
         | refine aw4 ?_ ?_ rfl ?_
         | apply aw3
         | apply aw2
         | (refine awB (fun hc => ?_) fun hc => ?_ <;> first | (cases hc; done) | (exfalso; simp [hw2] at hc <;> omega) | (try simp only [bn] at hc; try contradiction))
         | skip))
    unfold Sch.kindOk
    rw [if_neg (by omega), if_neg (by omega), if_neg (by omega), if_neg (by omega), if_pos (by omega), hP, show between x.kind 0 6 = true by simp [between]; omega]
    refine congrArg some (congrArg PV.bool ?_)
    rw [Bool.eq_iff_iff]
    simp [between, cond_and]
    omega
set_option maxHeartbeats 4000000 in
theorem validStep_r (s : Sched) (x : Step) (h : Few x) (hk1 : x.kind ≠ 1) (hk6 : x.kind ≠ 6) : PureOK ctx 77 [schedP s, stepP x] (.bool (refStepB s x)) := by
  have hn1 := refNumbers_step_ok x h.q h.s h.v
  have hf : Few (fieldsOf x) := by
    have := h.q; have := h.s; have := h.v
    unfold fieldsOf zeroStep
    dsimp only
    refine ⟨?_, ?_, ?_⟩ <;> (repeat' split) <;> simp <;> assumption
  have ho := only_ok x
  have hn2 := refNumbers_step_ok (fieldsOf x) hf.q hf.s hf.v
  have hsm := same_ok (numsL x) (numsL (fieldsOf x)) (by rw [numsL_len]; have := h.q; have := h.s; have := h.v; omega) (by rw [numsL_len]; have := hf.q; have := hf.s; have := hf.v; omega)
  generalize hr : refStepB s x = r
  unfold refStepB at hr
  generalize fieldsOf x = y at *
  generalize numsL y = ny at *
  generalize numsL x = nx at *
  generalize decide (nx = ny) = b at *
  have hw1 := within_ok x.survive 0 64 (by have := h.s; omega)
  have hw2 := within_ok x.voters 0 (s.replicas - 1) (by have := h.v; omega)
  refine pure_body' (C := ctx) (Fn.of fn77 rfl) rfl ?_
  unfold c77
  repeat' (first
    | ((with_reducible show VCs _); first | exact True.intro | (simp only [vb, lb]; omega) | (simp only [vb, lb, hw1, hw2, hn1, hn2, ho, hsm]; and_intros <;> first | omega | (simp <;> omega)) | (simp [vb, hw1, hw2, hn1, hn2, ho, hsm] <;> omega))
    | ((with_reducible show All _); first | exact True.intro | ((try dsimp only [go_sem]); first | (simp [vb, hw1, hw2, hn1, hn2, ho, hsm] <;> omega) | (simp only [vb, and_true, true_implies]; (repeat' (first | assumption | (with_reducible apply And.intro) | intro _)) <;> first | omega | rfl | (simp only [ab, hw1, hw2, hn1, hn2, ho, hsm]; done) | (simp [Nat.mul_one, hw1, hw2, hn1, hn2, ho, hsm] <;> omega) | (simp_all; done))))
    | exact (rfl : some _ = _)
    | (fail_if_success refine awL ?_
       refine evTH [(99, fun _ => some (stepP y)), (36, fun _ => some (.bool b)), (98, fun ps => match ps with | [_, _, .int _ 64] => some (.bool (allIn x.survive 0 64)) | _ => some (.bool (allIn x.voters 0 (s.replicas - 1))))] [(33, { val := some (.pv (intsP nx)) }), (36, { val := some (.pv (intsP ny)) })] ?_
       repeat1' dsimp only [c77, schedP, stepP, stepC, go_sem]
       first
       | refine aw4 ?_ ?_ rfl ?_
       | apply aw3
       | apply aw2
       | (refine awB (fun hc => ?_) fun hc => ?_ <;> first | (cases hc; done) | (exfalso; first | (simp at hc <;> omega) | (simp [hw1, hw2, hn1, hn2, ho, hsm] at hc; done)) | (try simp only [bn] at hc; try contradiction))
       | skip))
  · rw [← hr]
    have : (between x.tick 0 (s.ticks - 1) && between x.replica 0 (s.replicas - 1) && b) = false := by
      cases b <;> simp [between] at hc ⊢
      omega
    rw [this, Bool.false_and]
  all_goals
    have h3 : (between x.tick 0 (s.ticks - 1) && between x.replica 0 (s.replicas - 1) && b) = true := by
      cases b <;> simp [between] at * <;> omega
    rw [h3, Bool.true_and] at hr
    rw [← hr]
    clear hr h3 hn1 hn2 hsm ho
  · simp [between, Sch.kindOk, cond_and, *]
    rw [Bool.eq_iff_iff]
    simp
    omega
  · simp [between, Sch.kindOk, cond_and, *]
    rw [Bool.eq_iff_iff]
    simp
    omega
  · simp [between, Sch.kindOk, cond_and, *]
    rw [Bool.eq_iff_iff]
    simp
    omega
  · simp [between, Sch.kindOk, cond_and, *]
    rw [Bool.eq_iff_iff]
    simp
    omega
  · simp [between, Sch.kindOk, cond_and, *]
  · simp [between, Sch.kindOk, cond_and, *]
    omega
theorem validStep_ok (s : Sched) (x : Step) (h : Few x) (hrep : 1 ≤ s.replicas) (hrep2 : s.replicas ≤ 1000) : PureOK ctx 77 [schedP s, stepP x] (.bool (refStepB s x)) := by
 by_cases h1 : x.kind = 1
 ·exact validStep_q s x h h1
 by_cases h6 : x.kind = 6
 ·exact validStep_v s x h h6 hrep hrep2
 exact validStep_r s x h h1 h6
end
section
open Sch
def c35 : ACode := (⟨_, by conv => (lhs; reduce; try simp only [lt1, Int.cast_ofNat_Int, Int.reduceNegSucc, UInt8.reduceOfNat])⟩ : {x // codeOf Tryz.prog 35 (fun _ => false) = some x}).1
theorem fn35 : fnOf Tryz.prog 35 (fun _ => false) = some (c35, [.t 2], 69, true) := by kernel_rfl
def c10r0 : List AOp := [
 ⟨(some 2), .box 27 (.t 0) 7, none⟩,
 ⟨(some 3), .box 27 (.t 1) 7, none⟩,
 ⟨(some 4), .mv (.c (.bool false)), none⟩]
def c10r1 : List AOp := [
 ⟨(some 7), .fieldAddr (.t 2) 0, none⟩,
 ⟨(some 8), .load (.t 7) 1 false, none⟩,
 ⟨(some 9), .fieldAddr (.t 3) 0, none⟩,
 ⟨(some 10), .load (.t 9) 1 false, none⟩,
 ⟨(some 11), .bin .neq (.t 8) (.t 10), none⟩,
 ⟨(some 12), .mv (.t 11), none⟩,
 ⟨(some 13), .fieldAddr (.t 2) 1, some (12, false)⟩,
 ⟨(some 14), .load (.t 13) 1 false, some (12, false)⟩,
 ⟨(some 15), .fieldAddr (.t 3) 1, some (12, false)⟩,
 ⟨(some 16), .load (.t 15) 1 false, some (12, false)⟩,
 ⟨(some 17), .bin .neq (.t 14) (.t 16), some (12, false)⟩,
 ⟨(some 18), .pick (.t 12) (.c (.bool true)) (.t 17), none⟩,
 ⟨(some 19), .mv (.t 18), none⟩,
 ⟨(some 20), .fieldAddr (.t 2) 2, some (19, false)⟩,
 ⟨(some 21), .load (.t 20) 1 false, some (19, false)⟩,
 ⟨(some 22), .fieldAddr (.t 3) 2, some (19, false)⟩,
 ⟨(some 23), .load (.t 22) 1 false, some (19, false)⟩,
 ⟨(some 24), .bin .neq (.t 21) (.t 23), some (19, false)⟩,
 ⟨(some 25), .pick (.t 19) (.c (.bool true)) (.t 24), none⟩,
 ⟨(some 26), .mv (.t 25), none⟩,
 ⟨(some 27), .fieldAddr (.t 2) 3, some (26, false)⟩,
 ⟨(some 28), .load (.t 27) 1 false, some (26, false)⟩,
 ⟨(some 29), .fieldAddr (.t 3) 3, some (26, false)⟩,
 ⟨(some 30), .load (.t 29) 1 false, some (26, false)⟩,
 ⟨(some 31), .bin .neq (.t 28) (.t 30), some (26, false)⟩,
 ⟨(some 32), .pick (.t 26) (.c (.bool true)) (.t 31), none⟩,
 ⟨(some 33), .mv (.t 32), none⟩,
 ⟨(some 34), .fieldAddr (.t 2) 4, some (33, false)⟩,
 ⟨(some 35), .load (.t 34) 1 false, some (33, false)⟩,
 ⟨(some 36), .fieldAddr (.t 3) 4, some (33, false)⟩,
 ⟨(some 37), .load (.t 36) 1 false, some (33, false)⟩,
 ⟨(some 38), .call 36 [(.t 35), (.t 37)], some (33, false)⟩,
 ⟨(some 39), .un .not (.t 38), some (33, false)⟩,
 ⟨(some 40), .pick (.t 33) (.c (.bool true)) (.t 39), none⟩,
 ⟨(some 41), .mv (.t 40), none⟩,
 ⟨(some 42), .fieldAddr (.t 2) 5, some (41, false)⟩,
 ⟨(some 43), .load (.t 42) 1 false, some (41, false)⟩,
 ⟨(some 44), .len (.t 43), some (41, false)⟩,
 ⟨(some 45), .fieldAddr (.t 3) 5, some (41, false)⟩,
 ⟨(some 46), .load (.t 45) 1 false, some (41, false)⟩,
 ⟨(some 47), .len (.t 46), some (41, false)⟩,
 ⟨(some 48), .bin .neq (.t 44) (.t 47), some (41, false)⟩,
 ⟨(some 49), .pick (.t 41) (.c (.bool true)) (.t 48), none⟩,
 ⟨(some 50), .mv (.t 49), none⟩,
 ⟨(some 51), .fieldAddr (.t 2) 6, some (50, false)⟩,
 ⟨(some 52), .load (.t 51) 1 false, some (50, false)⟩,
 ⟨(some 53), .len (.t 52), some (50, false)⟩,
 ⟨(some 54), .fieldAddr (.t 3) 6, some (50, false)⟩,
 ⟨(some 55), .load (.t 54) 1 false, some (50, false)⟩,
 ⟨(some 56), .len (.t 55), some (50, false)⟩,
 ⟨(some 57), .bin .neq (.t 53) (.t 56), some (50, false)⟩,
 ⟨(some 58), .pick (.t 50) (.c (.bool true)) (.t 57), none⟩]
def c10r2 : List AOp := [
 ⟨(some 4), .mv (.c (.bool false)), none⟩]
def c10r3 : List AOp := [
 ⟨(some 5), .mv (.c (.int .i64 0)), none⟩]
def c10r4 : List AOp := [
 ⟨(some 59), .mv (.t 5), none⟩,
 ⟨(some 60), .fieldAddr (.t 2) 5, none⟩,
 ⟨(some 61), .load (.t 60) 1 false, none⟩,
 ⟨(some 62), .len (.t 61), none⟩,
 ⟨(some 63), .bin .lss (.t 59) (.t 62), none⟩]
def c10r5 : List AOp := [
 ⟨(some 66), .fieldAddr (.t 2) 5, none⟩,
 ⟨(some 67), .load (.t 66) 1 false, none⟩,
 ⟨(some 68), .mv (.t 5), none⟩,
 ⟨(some 69), .indexSl (.t 67) (.t 68) 3, none⟩,
 ⟨(some 70), .load (.t 69) 3 true, none⟩,
 ⟨(some 71), .fieldAddr (.t 3) 5, none⟩,
 ⟨(some 72), .load (.t 71) 1 false, none⟩,
 ⟨(some 73), .mv (.t 5), none⟩,
 ⟨(some 74), .indexSl (.t 72) (.t 73) 3, none⟩,
 ⟨(some 75), .load (.t 74) 3 true, none⟩,
 ⟨(some 76), .eqA true [(0, 1), (1, 0), (2, 0)] (.t 70) (.t 75), none⟩]
def c10r6 : List AOp := [
 ⟨(some 4), .mv (.c (.bool false)), none⟩]
def c10r7 : List AOp := [
 ⟨(some 64), .mv (.t 5), none⟩,
 ⟨(some 65), .bin .add (.t 64) (.c (.int .i64 1)), none⟩,
 ⟨(some 5), .mv (.t 65), none⟩]
def c10r8 : List AOp := [
 ⟨(some 6), .mv (.c (.int .i64 0)), none⟩]
def c10r9 : List AOp := [
 ⟨(some 77), .mv (.t 6), none⟩,
 ⟨(some 78), .fieldAddr (.t 2) 6, none⟩,
 ⟨(some 79), .load (.t 78) 1 false, none⟩,
 ⟨(some 80), .len (.t 79), none⟩,
 ⟨(some 81), .bin .lss (.t 77) (.t 80), none⟩]
def c10r10 : List AOp := [
 ⟨(some 84), .fieldAddr (.t 2) 6, none⟩,
 ⟨(some 85), .load (.t 84) 1 false, none⟩,
 ⟨(some 86), .mv (.t 6), none⟩,
 ⟨(some 87), .indexSl (.t 85) (.t 86) 10, none⟩,
 ⟨(some 88), .load (.t 87) 10 true, none⟩,
 ⟨(some 89), .call 37 [(.t 88)], none⟩,
 ⟨(some 90), .fieldAddr (.t 3) 6, none⟩,
 ⟨(some 91), .load (.t 90) 1 false, none⟩,
 ⟨(some 92), .mv (.t 6), none⟩,
 ⟨(some 93), .indexSl (.t 91) (.t 92) 10, none⟩,
 ⟨(some 94), .load (.t 93) 10 true, none⟩,
 ⟨(some 95), .call 37 [(.t 94)], none⟩,
 ⟨(some 96), .call 36 [(.t 89), (.t 95)], none⟩,
 ⟨(some 97), .un .not (.t 96), none⟩]
def c10r11 : List AOp := [
 ⟨(some 4), .mv (.c (.bool false)), none⟩]
def c10r12 : List AOp := [
 ⟨(some 82), .mv (.t 6), none⟩,
 ⟨(some 83), .bin .add (.t 82) (.c (.int .i64 1)), none⟩,
 ⟨(some 6), .mv (.t 83), none⟩]
def c10r13 : List AOp := [
 ⟨(some 4), .mv (.c (.bool true)), none⟩]
def c10 : ACode := (.seq (.region false c10r0) (.seq (.seq (.region false c10r1) (.cond (.t 58) (.seq (.region false c10r2) .ret) .skip)) (.seq (.seq (.region false c10r3) (.block 0 (.loop (.seq (.seq (.region false c10r4) (.cond (.t 63) .skip (.exit 0))) (.seq (.block 1 (.seq (.region true c10r5) (.cond (.t 76) (.seq (.region false c10r6) .ret) .skip))) (.region false c10r7)))))) (.seq (.seq (.region false c10r8) (.block 2 (.loop (.seq (.seq (.region false c10r9) (.cond (.t 81) .skip (.exit 2))) (.seq (.block 3 (.seq (.region true c10r10) (.cond (.t 97) (.seq (.region false c10r11) .ret) .skip))) (.region false c10r12)))))) (.seq (.region false c10r13) .ret)))))
theorem fn10 : fnOf Tryz.prog 10 (fun _ => false) = some (c10, [.t 4], 98, true) := by kernel_rfl
def refStepsB (s : Sched) : Nat → Bool
 | 0 => true
 | k + 1 => refStepsB s k && (refStepB s (s.steps.getD k zeroStep) && (decide (k = 0) || decide ((s.steps.getD (k - 1) zeroStep).tick ≤ (s.steps.getD k zeroStep).tick)))
def refValidB (s : Sched) : Bool := head s && decide (s.fates.length ≤ 256) && decide (s.steps.length ≤ 256) && s.fates.all fateOk && refStepsB s s.steps.length
theorem refStepsB_no (s : Sched) (k : Nat) (h : refStepsB s k = false) : ∀ m, k ≤ m → refStepsB s m = false := by
 intro m hm
 induction m with
 | zero => simp at hm; subst hm; exact h
 | succ m ih =>
  by_cases hk : k = m + 1
  ·subst hk; exact h
  ·simp [refStepsB, ih (by omega)]
def schB (s : Sched) : Blk := ⟨[.pv (.int .i64 s.replicas), .pv (.int .i64 s.sessions), .pv (.int .i64 s.sectors), .pv (.int .i64 s.ticks), .pv (intsP s.state), .pv (fatesP s.fates), .pv (stepsP s.steps)], 0, 7, 27, false⟩
set_option maxHeartbeats 4000000 in
theorem refValid_ok (s : Sched) (h : ∀ x ∈ s.steps, Few x) (h1 : s.state.length ≤ 1000000) (h2 : s.fates.length ≤ 1000000) (h3 : s.steps.length ≤ 1000000) : PureOK ctx 35 [schedP s] (.bool (refValidB s)) := by
  have hh := refHead_ok s (by omega)
  generalize hr : refValidB s = r
  unfold refValidB at hr
  have hhead : head s = true → 1 ≤ s.replicas ∧ s.replicas ≤ 1000 := by
    intro h
    simp [head, between] at h
    omega
  generalize head s = b at *
  refine pure_body' (C := ctx) (Fn.of fn35 rfl) rfl ?_
  unfold c35
  repeat' (first
    | ((with_reducible show VCs _); first | exact True.intro | (simp only [vb, lb]; omega) | (simp only [vb, lb, hh]; and_intros <;> first | omega | (simp <;> omega)) | (simp [vb, hh] <;> omega))
    | ((with_reducible show All _); first | exact True.intro | ((try dsimp only [go_sem]); first | (simp [vb, hh] <;> omega) | (simp only [vb, and_true, true_implies]; (repeat' (first | assumption | (with_reducible apply And.intro) | intro _)) <;> first | omega | rfl | (simp only [ab, hh]; done) | (simp [Nat.mul_one, hh] <;> omega) | (simp_all; done))))
    | exact (rfl : some _ = _)
    | (fail_if_success refine awL ?_
       refine evT [(76, fun _ => some (.bool b))] ?_
       repeat1' dsimp only [c35, schedP, go_sem]
       first
       | refine aw4 ?_ ?_ rfl ?_
       | apply aw3
       | apply aw2
       | (refine awB (fun hc => ?_) fun hc => ?_ <;> first | (cases hc; done) | (exfalso; first | (simp at hc <;> omega) | (simp [hh] at hc; done)) | (try simp only [bn] at hc; try contradiction))
       | skip))
  · rw [← hr]
    refine congrArg some (congrArg PV.bool ?_)
    cases b
    · simp
    · rw [eq_comm, Bool.eq_false_iff]
      simp
      simp at hc
      omega
  have hc35 := hc
  refine aw_forJ s.fates.length (fun k => (s.fates.take k).all fateOk = true) (fun k => [(1, .ptr 0 0 0), (3, .pv (.int .i64 k))]) (fun _ => [schB s]) rfl (by (repeat' (first | exact trivial | refine And.intro (by first | rfl | (simp [get, Nat.beq]; done) | (simp [get, Nat.beq]; omega) | (dsimp only [get]; congr 1 <;> first | rfl | omega | (simp; done) | (simp; omega))) ?_))) ⟨[], rfl⟩ (fun k => ⟨Nat.zero_le _, rfl, rfl⟩) fun k hk hP => ?_
  by_cases hlt : k < s.fates.length
  · have e := fm_take fateC_len s.fates k ⟨false, 0, 0⟩ hlt
    have hs := all_step fateOk s.fates k ⟨false, 0, 0⟩ hlt
    have hno := all_no (p := fateOk) (l := s.fates) (k := k) (d := ⟨false, 0, 0⟩) hlt
    have hfl := flatMap_length fateC_len s.fates
    have hv := validFate_ok (s.fates.getD k ⟨false, 0, 0⟩)
    generalize s.fates.getD k ⟨false, 0, 0⟩ = q at *
    repeat' (first
      | ((with_reducible first | show VCs _ | show All _); simp [vb, e, hlt, hfl, hv] <;> omega)
      | exact (rfl : some _ = _)
      | (fail_if_success refine awL ?_
         refine evTH [(72, fun _ => some (.bool (fateOk q)))] [(31, { val := some (.pv (.agg (fateC q))) })] ?_
         repeat1' dsimp only [c35, schB, fatesP, stepsP, go_sem]
         first
         | refine aw4 ?_ ?_ rfl ?_
         | apply aw3
         | apply aw2
         | (refine awB (fun hc => ?_) fun hc => ?_ <;> first | (cases hc; done) | (exfalso; simp [e, hlt, hfl, hv] at hc <;> omega) | (try simp only [bn] at hc; try contradiction))
         | skip))
    · rw [← hr, hno hc]
      simp
    · refine ⟨hlt, ?_, by (repeat' (first | exact trivial | refine And.intro (by first | rfl | (simp [get, Nat.beq]; done) | (simp [get, Nat.beq]; omega) | (dsimp only [get]; congr 1 <;> first | rfl | omega | (simp; done) | (simp; omega))) ?_)), _, rfl⟩
      rw [hs, hP]
      simpa using hc
  · have hkl : k = s.fates.length := by omega
    subst hkl
    rw [List.take_length] at hP
    repeat' (first
      | ((with_reducible first | show VCs _ | show All _); simp [vb] <;> omega)
      | exact (rfl : some _ = _)
      | (fail_if_success refine awL ?_
         refine evA ?_
         repeat1' dsimp only [c35, schB, fatesP, stepsP, go_sem]
         first
         | refine aw4 ?_ ?_ rfl ?_
         | apply aw3
         | apply aw2
         | (refine awB (fun hc => ?_) fun hc => ?_ <;> first | (cases hc; done) | (exfalso; simp at hc <;> omega) | (try simp only [bn] at hc; try contradiction))
         | skip))
    refine aw_forJ s.steps.length (fun k => refStepsB s k = true) (fun k => [(1, .ptr 0 0 0), (4, .pv (.int .i64 k))]) (fun _ => [schB s]) rfl (by (repeat' (first | exact trivial | refine And.intro (by first | rfl | (simp [get, Nat.beq]; done) | (simp [get, Nat.beq]; omega) | (dsimp only [get]; congr 1 <;> first | rfl | omega | (simp; done) | (simp; omega))) ?_))) ⟨[], rfl⟩ (fun k => ⟨Nat.zero_le _, rfl, rfl⟩) fun k hk hP2 => ?_
    by_cases hlt : k < s.steps.length
    · have e := fm_take stepC_len s.steps k zeroStep hlt
      have e0 := fm_getD0 stepC_len s.steps k zeroStep hlt (by omega) default
      have e1 := fun hk1 : 0 < k => fm_getD0 stepC_len s.steps (k - 1) zeroStep (by omega) (by omega) default
      have hs : refStepsB s (k + 1) = (refStepsB s k && (refStepB s (s.steps.getD k zeroStep) && (decide (k = 0) || decide ((s.steps.getD (k - 1) zeroStep).tick ≤ (s.steps.getD k zeroStep).tick)))) := rfl
      have hfl := flatMap_length stepC_len s.steps
      have hv := validStep_ok s (s.steps.getD k zeroStep) (h _ (by rw [List.getD, List.getElem?_eq_getElem hlt]; exact List.getElem_mem hlt)) (hhead (by simp_all)).1 (hhead (by simp_all)).2
      generalize s.steps.getD k zeroStep = x at *
      generalize s.steps.getD (k - 1) zeroStep = x1 at *
      have ht : ((k : Int) - 1).toNat = k - 1 := by omega
      simp only [stepC, List.getD, List.getElem?_cons_zero, Option.getD_some] at e0 e1
      have hres : refStepsB s (k + 1) = false → r = false := fun hf => by
        rw [← hr, refStepsB_no s (k + 1) hf _ (by omega), Bool.and_false]
      by_cases hk0 : 0 < k
      · have e1 := e1 hk0
        repeat' (first
          | ((with_reducible show VCs _); first | exact True.intro | (simp only [vb, lb]; omega) | (simp only [vb, lb, e, e0, e1, ht, hlt, hfl]; and_intros <;> first | omega | (simp <;> omega)) | (simp [vb, e, e0, e1, ht, hlt, hfl] <;> omega))
          | ((with_reducible show All _); first | exact True.intro | ((try dsimp only [go_sem]); first | (simp [vb, e, e0, e1, ht, hlt, hfl] <;> omega) | (simp only [vb, and_true, true_implies]; (repeat' (first | assumption | (with_reducible apply And.intro) | intro _)) <;> first | omega | rfl | (simp only [ab, e, e0, e1, ht, hlt, hfl]; done) | (simp [Nat.mul_one, e, e0, e1, ht, hlt, hfl] <;> omega) | (simp_all; done))))
          | exact (rfl : some _ = _)
          | (fail_if_success refine awL ?_
             refine evTH [(77, fun _ => some (.bool (refStepB s x)))] [(46, { val := some (.pv (stepP x)) }), (58, { val := some (.pv (.int .i64 x.tick)) }), (65, { val := some (.pv (.int .i64 x1.tick)) })] ?_
             repeat1' dsimp only [c35, schB, fatesP, stepsP, stepP, go_sem]
             first
             | refine aw4 ?_ ?_ rfl ?_
             | apply aw3
             | apply aw2
             | (refine awB (fun hc => ?_) fun hc => ?_ <;> first | (cases hc; done) | (exfalso; first | (simp at hc <;> omega) | (simp [e, e0, e1, ht, hlt, hfl] at hc; done)) | (try simp only [bn] at hc; try contradiction))
             | skip))
        · rw [hres (by
            rw [hs, hP2]
            rcases hc with hc | hc
            · simp [hc]
            · rw [show decide (k = 0) = false by simp; omega, show decide (x1.tick ≤ x.tick) = false by simp; omega]
              simp)]
        · refine ⟨hlt, ?_, by (repeat' (first | exact trivial | refine And.intro (by first | rfl | (simp [get, Nat.beq]; done) | (simp [get, Nat.beq]; omega) | (dsimp only [get]; congr 1 <;> first | rfl | omega | (simp; done) | (simp; omega))) ?_)), _, rfl⟩
          rw [hs, hP2, hc.1]
          simp
          omega
      · repeat' (first
          | ((with_reducible show VCs _); first | exact True.intro | (simp only [vb, lb]; omega) | (simp only [vb, lb, e, e0, hk0, hlt, hfl]; and_intros <;> first | omega | (simp <;> omega)) | (simp [vb, e, e0, hk0, hlt, hfl] <;> omega))
          | ((with_reducible show All _); first | exact True.intro | ((try dsimp only [go_sem]); first | (simp [vb, e, e0, hk0, hlt, hfl] <;> omega) | (simp only [vb, and_true, true_implies]; (repeat' (first | assumption | (with_reducible apply And.intro) | intro _)) <;> first | omega | rfl | (simp only [ab, e, e0, hk0, hlt, hfl]; done) | (simp [Nat.mul_one, e, e0, hk0, hlt, hfl] <;> omega) | (simp_all; done))))
          | exact (rfl : some _ = _)
          | (fail_if_success refine awL ?_
             refine evTH [(77, fun _ => some (.bool (refStepB s x)))] [(46, { val := some (.pv (stepP x)) }), (58, { val := some (.pv (.int .i64 x.tick)) }), (65, { val := some (.pv (.int .i64 x1.tick)) })] ?_
             repeat1' dsimp only [c35, schB, fatesP, stepsP, stepP, go_sem]
             first
             | refine aw4 ?_ ?_ rfl ?_
             | apply aw3
             | apply aw2
             | (refine awB (fun hc => ?_) fun hc => ?_ <;> first | (cases hc; done) | (exfalso; first | (simp at hc <;> omega) | (simp [e, e0, hk0, hlt, hfl] at hc; done)) | (try simp only [bn] at hc; try contradiction))
             | skip))
        · rw [hres (by
            rw [hs, hP2]
            rcases hc with hc | hc
            · simp [hc]
            · rw [show decide (k = 0) = false by simp; omega, show decide (x1.tick ≤ x.tick) = false by simp; omega]
              simp)]
        · refine ⟨hlt, ?_, by (repeat' (first | exact trivial | refine And.intro (by first | rfl | (simp [get, Nat.beq]; done) | (simp [get, Nat.beq]; omega) | (dsimp only [get]; congr 1 <;> first | rfl | omega | (simp; done) | (simp; omega))) ?_)), _, rfl⟩
          rw [hs, hP2, hc.1]
          simp
          omega
    · have hkl : k = s.steps.length := by omega
      subst hkl
      repeat' (first
        | ((with_reducible first | show VCs _ | show All _); simp [vb] <;> omega)
        | exact (rfl : some _ = _)
        | (fail_if_success refine awL ?_
           refine evA ?_
           repeat1' dsimp only [c35, schB, fatesP, stepsP, go_sem]
           first
           | refine aw4 ?_ ?_ rfl ?_
           | apply aw3
           | apply aw2
           | (refine awB (fun hc => ?_) fun hc => ?_ <;> first | (cases hc; done) | (exfalso; simp at hc <;> omega) | (try simp only [bn] at hc; try contradiction))
           | skip))
      rw [← hr, hP2, hP, hc35.1.1]
      simp
      omega
def refEqB (a b : Sched) : Bool :=
 decide (a.replicas = b.replicas) && decide (a.sessions = b.sessions) && decide (a.sectors = b.sectors) && decide (a.ticks = b.ticks) && decide (a.state = b.state) && decide (a.fates = b.fates) && decide (a.steps.map numsL = b.steps.map numsL)
structure FewS (s : Sched) : Prop where
 x : ∀ x ∈ s.steps, Few x
 a : s.state.length ≤ 2000000
 f : s.fates.length ≤ 2000000
 s : s.steps.length ≤ 2000000
theorem getD_mem {α : Type} {l : List α} {k : Nat} {d : α} (h : k < l.length) : l.getD k d ∈ l := by
 rw [List.getD, List.getElem?_eq_getElem h]
 exact List.getElem_mem h
theorem FewS.at_ {s : Sched} (h : FewS s) {k : Nat} (hk : k < s.steps.length) : (numsL (s.steps.getD k zeroStep)).length ≤ 1000000000000 := by
 have := h.x _ (getD_mem (d := zeroStep) hk)
 have h1 := this.q; have h2 := this.s; have h3 := this.v
 rw [numsL_len]
 omega
theorem fate_ext (a b : Fate) : (a.drop = b.drop ∧ a.delay = b.delay ∧ a.again = b.again) ↔ a = b := by
 cases a; cases b; simp
set_option maxHeartbeats 4000000 in
theorem refEqual_ok (a b : Sched) (ha : FewS a) (hb : FewS b) : PureOK ctx 10 [schedP a, schedP b] (.bool (refEqB a b)) := by
  have hst := same_ok a.state b.state (by have := ha.a; omega) (by have := hb.a; omega)
  have haf := ha.f; have hbf := hb.f; have has := ha.s; have hbs := hb.s
  generalize hr : refEqB a b = r
  unfold refEqB at hr
  refine pure_body' (C := ctx) (Fn.of fn10 rfl) rfl ?_
  unfold c10
  repeat' (first
    | ((with_reducible first | show VCs _ | show All _); simp [vb, hst] <;> omega)
    | exact (rfl : some _ = _)
    | (fail_if_success refine awL ?_
       refine evT [(36, fun _ => some (.bool (decide (a.state = b.state))))] ?_
       repeat1' dsimp only [c10, c10r0, c10r1, c10r2, c10r3, c10r4, c10r5, c10r6, c10r7, c10r8, c10r9, c10r10, c10r11, c10r12, c10r13, schedP, fatesP, stepsP, go_sem]
       first
       | refine aw4 ?_ ?_ rfl ?_
       | apply aw3
       | apply aw2
       | (refine awB (fun hc => ?_) fun hc => ?_ <;> first | (cases hc; done) | (exfalso; simp [hst] at hc <;> omega) | (try simp only [bn] at hc; try contradiction))
       | skip))
  · have : r = false := by
      rw [← hr, Bool.eq_false_iff]
      simp only [ne_eq, Bool.and_eq_true, decide_eq_true_eq]
      rintro ⟨⟨⟨⟨⟨⟨h1, h2⟩, h3⟩, h4⟩, h5⟩, h6⟩, h7⟩
      have l7 := congrArg List.length h7
      simp at l7
      simp [h1, h2, h3, h4, h5, h6, l7] at hc
    rw [this]
  have hc0 := hc
  have hfn : a.fates.length = b.fates.length := by omega
  have hsn : a.steps.length = b.steps.length := by omega
  refine aw_forJ a.fates.length (fun k => a.fates.take k = b.fates.take k) (fun k => [(2, .ptr 0 0 0), (3, .ptr 1 0 0), (5, .pv (.int .i64 k))]) (fun _ => [schB a, schB b]) rfl (by (repeat' (first | exact trivial | refine And.intro (by first | rfl | (simp [get, Nat.beq]; done) | (simp [get, Nat.beq]; omega) | (dsimp only [get]; congr 1 <;> first | rfl | omega | (simp; done) | (simp; omega))) ?_))) ⟨[], rfl⟩ (fun k => ⟨Nat.zero_le _, rfl, rfl⟩) fun k hk hP => ?_
  by_cases hlt : k < a.fates.length
  · have e1 := fm_take fateC_len a.fates k ⟨false, 0, 0⟩ hlt
    have e2 := fm_take fateC_len b.fates k ⟨false, 0, 0⟩ (by omega)
    have f1 := flatMap_length fateC_len a.fates
    have f2 := flatMap_length fateC_len b.fates
    have s1 := take_succ_getD a.fates k ⟨false, 0, 0⟩ hlt
    have s2 := take_succ_getD b.fates k ⟨false, 0, 0⟩ (by omega)
    have hne : a.fates.getD k ⟨false, 0, 0⟩ ≠ b.fates.getD k ⟨false, 0, 0⟩ → a.fates ≠ b.fates := fun h1 h2 => h1 (by rw [h2])
    generalize a.fates.getD k ⟨false, 0, 0⟩ = p at *
    generalize b.fates.getD k ⟨false, 0, 0⟩ = q at *
    repeat' (first
      | ((with_reducible first | show VCs _ | show All _); simp [vb, e1, e2, f1, f2, hlt, hfn, fateC] <;> omega)
      | exact (rfl : some _ = _)
      | (fail_if_success refine awL ?_
         refine evH [(70, { val := some (.pv (.agg [.bool p.drop, .int .i64 p.delay, .int .i64 p.again])) }), (75, { val := some (.pv (.agg [.bool q.drop, .int .i64 q.delay, .int .i64 q.again])) })] ?_
         repeat1' dsimp only [c10, c10r0, c10r1, c10r2, c10r3, c10r4, c10r5, c10r6, c10r7, c10r8, c10r9, c10r10, c10r11, c10r12, c10r13, schB, fatesP, stepsP, go_sem]
         first
         | refine aw4 ?_ ?_ rfl ?_
         | apply aw3
         | apply aw2
         | (refine awB (fun hc => ?_) fun hc => ?_ <;> first | (cases hc; done) | (exfalso; simp [e1, e2, f1, f2, hlt, hfn, fateC] at hc <;> omega) | (try simp only [bn] at hc; try contradiction))
         | skip))
    · have := hne (by rintro rfl; simp at hc)
      rw [← hr]
      simp [this]
    · refine ⟨hlt, ?_, by (repeat' (first | exact trivial | refine And.intro (by first | rfl | (simp [get, Nat.beq]; done) | (simp [get, Nat.beq]; omega) | (dsimp only [get]; congr 1 <;> first | rfl | omega | (simp; done) | (simp; omega))) ?_)), _, rfl⟩
      rw [s1, s2, hP, (fate_ext p q).1 ⟨hc.1, hc.2.1, hc.2.2.1⟩]
  · have hkl : k = a.fates.length := by omega
    subst hkl
    rw [List.take_length, hfn, List.take_length] at hP
    repeat' (first
      | ((with_reducible first | show VCs _ | show All _); simp [vb] <;> omega)
      | exact (rfl : some _ = _)
      | (fail_if_success refine awL ?_
         refine evA ?_
         repeat1' dsimp only [c10, c10r0, c10r1, c10r2, c10r3, c10r4, c10r5, c10r6, c10r7, c10r8, c10r9, c10r10, c10r11, c10r12, c10r13, schB, fatesP, stepsP, go_sem]
         first
         | refine aw4 ?_ ?_ rfl ?_
         | apply aw3
         | apply aw2
         | (refine awB (fun hc => ?_) fun hc => ?_ <;> first | (cases hc; done) | (exfalso; simp at hc <;> omega) | (try simp only [bn] at hc; try contradiction))
         | skip))
    refine aw_forJ a.steps.length (fun k => (a.steps.take k).map numsL = (b.steps.take k).map numsL) (fun k => [(2, .ptr 0 0 0), (3, .ptr 1 0 0), (6, .pv (.int .i64 k))]) (fun _ => [schB a, schB b]) rfl (by (repeat' (first | exact trivial | refine And.intro (by first | rfl | (simp [get, Nat.beq]; done) | (simp [get, Nat.beq]; omega) | (dsimp only [get]; congr 1 <;> first | rfl | omega | (simp; done) | (simp; omega))) ?_))) ⟨[], rfl⟩ (fun k => ⟨Nat.zero_le _, rfl, rfl⟩) fun k hk hP2 => ?_
    by_cases hlt : k < a.steps.length
    · have e1 := fm_take stepC_len a.steps k zeroStep hlt
      have e2 := fm_take stepC_len b.steps k zeroStep (by omega)
      have f1 := flatMap_length stepC_len a.steps
      have f2 := flatMap_length stepC_len b.steps
      have s1 := take_succ_getD a.steps k zeroStep hlt
      have s2 := take_succ_getD b.steps k zeroStep (by omega)
      have hn1 := have h := ha.x _ (getD_mem (d := zeroStep) hlt); refNumbers_step_ok (a.steps.getD k zeroStep) h.q h.s h.v
      have hn2 := have h := hb.x _ (getD_mem (d := zeroStep) (show k < b.steps.length by omega)); refNumbers_step_ok (b.steps.getD k zeroStep) h.q h.s h.v
      have hsm := same_ok _ _ (ha.at_ hlt) (hb.at_ (show k < b.steps.length by omega))
      have hne : numsL (a.steps.getD k zeroStep) ≠ numsL (b.steps.getD k zeroStep) → a.steps.map numsL ≠ b.steps.map numsL := fun h1 h2 => h1 (by
        have := congrArg (fun l => l.getD k (numsL zeroStep)) h2
        simpa [List.getD, List.getElem?_eq_getElem hlt, List.getElem?_eq_getElem (show k < b.steps.length by omega)] using this)
      generalize a.steps.getD k zeroStep = x at *
      generalize b.steps.getD k zeroStep = y at *
      repeat' (first
        | ((with_reducible first | show VCs _ | show All _); (try dsimp only [go_sem]); first | (simp [vb, e1, e2, f1, f2, hlt, hsn, hn1, hn2, hsm] <;> omega) | (simp only [vb, and_true, true_implies]; (repeat' (first | assumption | (with_reducible apply And.intro) | intro _)) <;> first | omega | (simp only [ab, e1, e2, f1, f2, hlt, hsn, hn1, hn2, hsm]; done) | (simp [e1, e2, f1, f2, hlt, hsn, hn1, hn2, hsm] <;> omega)))
        | exact (rfl : some _ = _)
        | (fail_if_success refine awL ?_
           refine evTH [(36, fun _ => some (.bool (decide (numsL x = numsL y))))] [(88, { val := some (.pv (stepP x)) }), (94, { val := some (.pv (stepP y)) }), (89, { val := some (.pv (intsP (numsL x))) }), (95, { val := some (.pv (intsP (numsL y))) })] ?_
           repeat1' dsimp only [c10, c10r0, c10r1, c10r2, c10r3, c10r4, c10r5, c10r6, c10r7, c10r8, c10r9, c10r10, c10r11, c10r12, c10r13, schB, fatesP, stepsP, stepP, go_sem]
           first
           | refine aw4 ?_ ?_ rfl ?_
           | apply aw3
           | apply aw2
           | (refine awB (fun hc => ?_) fun hc => ?_ <;> first | (cases hc; done) | (exfalso; simp [e1, e2, f1, f2, hlt, hsn, hn1, hn2, hsm] at hc <;> omega) | (try simp only [bn] at hc; try contradiction))
           | skip))
      · rw [← hr]
        simp [hne hc]
      · refine ⟨hlt, ?_, by (repeat' (first | exact trivial | refine And.intro (by first | rfl | (simp [get, Nat.beq]; done) | (simp [get, Nat.beq]; omega) | (dsimp only [get]; congr 1 <;> first | rfl | omega | (simp; done) | (simp; omega))) ?_)), _, rfl⟩
        rw [s1, s2, List.map_append, List.map_append, hP2]
        simp [hc]
    · have hkl : k = a.steps.length := by omega
      subst hkl
      rw [List.take_length, hsn, List.take_length] at hP2
      repeat' (first
        | ((with_reducible first | show VCs _ | show All _); simp [vb] <;> omega)
        | exact (rfl : some _ = _)
        | (fail_if_success refine awL ?_
           refine evA ?_
           repeat1' dsimp only [c10, c10r0, c10r1, c10r2, c10r3, c10r4, c10r5, c10r6, c10r7, c10r8, c10r9, c10r10, c10r11, c10r12, c10r13, schB, fatesP, stepsP, go_sem]
           first
           | refine aw4 ?_ ?_ rfl ?_
           | apply aw3
           | apply aw2
           | (refine awB (fun hc => ?_) fun hc => ?_ <;> first | (cases hc; done) | (exfalso; simp at hc <;> omega) | (try simp only [bn] at hc; try contradiction))
           | skip))
      rw [← hr, hP, hP2]
      simp [hc0]
end
section
open Sch
def c71 : ACode := (⟨_, by conv => (lhs; reduce; try simp only [lt1, Int.cast_ofNat_Int, Int.reduceNegSucc, UInt8.reduceOfNat])⟩ : {x // codeOf Tryz.prog 71 (fun _ => false) = some x}).1
theorem fn71 : fnOf Tryz.prog 71 (fun _ => false) = some (c71, [.t 2, .t 3], 62, true) := by kernel_rfl
theorem decimalI_ok (n : Int) (h0 : -10000000000 ≤ n) (h1 : n ≤ 10000000000) : PureOK ctx 97 [.int .i64 n] (.str (Lib.itoa n)) := by
 refine PureOK.of_calls (by kernel_rfl) fun w S vs hE hS hp => ?_
 obtain ⟨v, rfl, hv⟩ := pw1 hp
 have := is_int_inv hv
 subst this
 exact (decimalInt_any n w h0 h1).mono fun e w' ⟨he, hb⟩ => ⟨_, he, hb, fun _ _ => .str _⟩
def refNumP (l : List UInt8) : Int × Bool :=
 if 1 ≤ (digitsOf l).length ∧ (digitsOf l).length ≤ 9 then match Lib.decFrom 0 (digitsOf l) with
  | some m => (signed l m, decide (Lib.itoa (signed l m) = l))
  | none => (0, false)
 else (0, false)
theorem refNumP_of (l : List UInt8) : refNumOf l = if (refNumP l).2 then some (refNumP l).1 else none := by
 unfold refNumOf refNumP
 split
 ·cases Lib.decFrom 0 (digitsOf l) with
  | none => rfl
  | some m =>
   dsimp only
   by_cases h : Lib.itoa (signed l m) = l
   ·simp [h]
   ·simp [h]
 ·rfl
def dv (l : List UInt8) : Nat := (Lib.decFrom 0 l).getD 0
theorem decFrom_append (a b : List UInt8) : ∀ acc, Lib.decFrom acc (a ++ b) = match Lib.decFrom acc a with
  | some n => Lib.decFrom n b
  | none => none := by
 induction a with
 | nil => intro acc; rfl
 | cons c r ih =>
  intro acc
  simp only [List.cons_append, Lib.decFrom]
  cases Lib.digitVal c with
  | none => rfl
  | some d => exact ih _
theorem dec_step (d : List UInt8) (k : Nat) (hk : k < d.length) {n : Nat} (h : Lib.decFrom 0 (d.take k) = some n) (h1 : 48 ≤ (d.getD k 0).toNat) (h2 : (d.getD k 0).toNat ≤ 57) :
  Lib.decFrom 0 (d.take (k + 1)) = some (n * 10 + ((d.getD k 0).toNat - 48)) ∧ dv (d.take (k + 1)) = n * 10 + ((d.getD k 0).toNat - 48) := by
 have : Lib.decFrom 0 (d.take (k + 1)) = some (n * 10 + ((d.getD k 0).toNat - 48)) := by
  rw [take_succ_getD d k 0 hk, decFrom_append, h]
  simp only [Lib.decFrom, Lib.digitVal]
  rw [if_pos ⟨h1, h2⟩]
 exact ⟨this, by rw [dv, this]; rfl⟩
theorem dec_bad (d : List UInt8) (k : Nat) (hk : k < d.length) {n : Nat} (h : Lib.decFrom 0 (d.take k) = some n) (h1 : ¬ (48 ≤ (d.getD k 0).toNat ∧ (d.getD k 0).toNat ≤ 57)) : Lib.decFrom 0 d = none := by
 refine decFrom_bad d k 0 n (d.getD k 0) h ?_ ?_
 ·rw [List.getD, List.getElem?_eq_getElem hk]; rfl
 ·rw [Lib.digitVal, if_neg h1]
set_option maxHeartbeats 4000000 in
theorem refNumber_neg (t : List UInt8) (hl : t.length ≤ 1000000000) : PureOK ctx 71 [.str (45 :: t)] (.tup [.int .i64 (refNumP (45 :: t)).1, .bool (refNumP (45 :: t)).2]) := by
  have hdl : digitsOf (45 :: t) = t := rfl
  generalize hr : PV.tup [.int .i64 (refNumP (45 :: t)).1, .bool (refNumP (45 :: t)).2] = r
  have ht : ((45 :: t : List UInt8).take ((t.length + 1 : Nat) : Int).toNat).drop 1 = t := by simp
  refine pure_body' (C := ctx) (Fn.of fn71 rfl) rfl ?_
  unfold c71
  by_cases hd : 1 ≤ t.length ∧ t.length ≤ 9
  · repeat' (first
      | ((with_reducible first | show VCs _ | show All _); simp [vb, ht] <;> omega)
      | exact (rfl : some _ = _)
      | (fail_if_success refine awL ?_
         refine evH [(17, { val := some (.pv (.str t)) })] ?_
         repeat1' dsimp only [c71, go_sem]
         first
         | refine aw4 ?_ ?_ rfl ?_
         | apply aw3
         | apply aw2
         | (refine awB (fun hc => ?_) fun hc => ?_ <;> first | (cases hc; done) | (exfalso; simp [ht] at hc <;> omega) | (try simp only [bn] at hc; try contradiction))
         | skip))
    refine aw_forJ t.length (fun k => Lib.decFrom 0 (t.take k) = some (dv (t.take k)) ∧ dv (t.take k) < 10 ^ k) (fun k => [(0, .pv (.str (45 :: t))), (4, .pv (.int .i64 (dv (t.take k)))), (5, .pv (.str t)), (6, .pv (.int .i64 k))]) (fun _ => []) ⟨rfl, by simp [dv, Lib.decFrom]⟩ (by (repeat' (first | exact trivial | refine And.intro (by first | rfl | (simp [get, Nat.beq]; done) | (simp [get, Nat.beq]; omega) | (dsimp only [get]; congr 1 <;> first | rfl | omega | (simp; done) | (simp; omega))) ?_))) ⟨[], rfl⟩ (fun k => ⟨Nat.zero_le _, rfl, rfl⟩) fun k hk hP => ?_
    by_cases hlt : k < t.length
    · have hs := dec_step t k hlt hP.1
      have hno := dec_bad t k hlt hP.1
      have hk9 : k ≤ 8 := by omega
      have h10 : 10 ^ k ≤ 10 ^ 8 := Nat.pow_le_pow_right (by decide) hk9
      have h11 : 10 ^ (k + 1) = 10 ^ k * 10 := Nat.pow_succ ..
      have hP2 := hP.2
      simp only [List.getD] at hs hno
      generalize hn : dv (t.take k) = n at *
      generalize hcc : t[k]?.getD 0 = c at *
      by_cases hd1 : 48 ≤ c.toNat
      · by_cases hd2 : c.toNat ≤ 57
        · have hw : IntKind.u8.wrap ((c.toNat : Int) - 48) = (c.toNat : Int) - 48 := IntWalk.u8_in _ (by omega)
          have hm1 : IntKind.i64.min = -9223372036854775808 := rfl
          have hm2 : IntKind.i64.max = 9223372036854775807 := rfl
          obtain ⟨hs1, hs2⟩ := hs hd1 hd2
          repeat' (first
            | ((with_reducible first | show VCs _ | show All _); (try dsimp only [go_sem]); first | (simp [vb, hlt, hw, hcc, hm1, hm2] <;> omega) | (simp only [vb, and_true, true_implies]; (repeat' (first | assumption | (with_reducible apply And.intro) | intro _)) <;> first | omega | (simp only [ab, hlt, hw, hcc, hm1, hm2]; done) | (simp [hlt, hw, hcc, hm1, hm2] <;> omega)))
            | exact (rfl : some _ = _)
            | (fail_if_success refine awL ?_
               refine evH [(34, { val := some (.pv (.int .u8 c.toNat)) }), (39, { val := some (.pv (.int .u8 c.toNat)) }), (46, { val := some (.pv (.int .u8 c.toNat)) }), (47, { val := some (.pv (.int .u8 ((c.toNat : Int) - 48))) })] ?_
               repeat1' dsimp only [c71, go_sem]
               first
               | refine aw4 ?_ ?_ rfl ?_
               | apply aw3
               | apply aw2
               | (refine awB (fun hc => ?_) fun hc => ?_ <;> first | (cases hc; done) | (exfalso; simp [hlt, hw, hcc, hm1, hm2] at hc <;> omega) | (try simp only [bn] at hc; try contradiction))
               | skip))
          refine ⟨hlt, ⟨by rw [hs2]; exact hs1, by rw [hs2]; omega⟩, by (repeat' (first | exact trivial | refine And.intro (by first | rfl | (simp [get, Nat.beq, hs2]; done) | (simp [get, Nat.beq, hs2]; omega) | (dsimp only [get]; congr 1 <;> first | rfl | omega | (simp; done) | (simp; omega))) ?_)), [], rfl⟩
        · repeat' (first
            | ((with_reducible first | show VCs _ | show All _); (try dsimp only [go_sem]); first | (simp [vb, hlt, hcc] <;> omega) | (simp only [vb, and_true, true_implies]; (repeat' (first | assumption | (with_reducible apply And.intro) | intro _)) <;> first | omega | (simp only [ab, hlt, hcc]; done) | (simp [hlt, hcc] <;> omega)))
            | exact (rfl : some _ = _)
            | (fail_if_success refine awL ?_
               refine evH [(34, { val := some (.pv (.int .u8 c.toNat)) }), (39, { val := some (.pv (.int .u8 c.toNat)) })] ?_
               repeat1' dsimp only [c71, go_sem]
               first
               | refine aw4 ?_ ?_ rfl ?_
               | apply aw3
               | apply aw2
               | (refine awB (fun hc => ?_) fun hc => ?_ <;> first | (cases hc; done) | (exfalso; simp [hlt, hcc] at hc <;> omega) | (try simp only [bn] at hc; try contradiction))
               | skip))
          rw [← hr]
          simp [refNumP, hdl, hno (fun h => hd2 h.2)]
      · repeat' (first
          | ((with_reducible show VCs _); first | exact True.intro | (simp only [vb, lb]; omega) | (simp only [vb, lb, hlt, hcc]; and_intros <;> first | omega | (simp <;> omega)) | (simp [vb, hlt, hcc] <;> omega))
          | ((with_reducible show All _); first | exact True.intro | ((try dsimp only [go_sem]); first | (simp [vb, hlt, hcc] <;> omega) | (simp only [vb, and_true, true_implies]; (repeat' (first | assumption | (with_reducible apply And.intro) | intro _)) <;> first | omega | rfl | (simp only [ab, hlt, hcc]; done) | (simp [Nat.mul_one, hlt, hcc] <;> omega) | (simp_all; done))))
          | exact (rfl : some _ = _)
          | (fail_if_success refine awL ?_
             refine evH [(34, { val := some (.pv (.int .u8 c.toNat)) }), (39, { val := some (.pv (.int .u8 c.toNat)) })] ?_
             repeat1' dsimp only [c71, go_sem]
             first
             | refine aw4 ?_ ?_ rfl ?_
             | apply aw3
             | apply aw2
             | (refine awB (fun hc => ?_) fun hc => ?_ <;> first | (cases hc; done) | (exfalso; first | (simp at hc <;> omega) | (simp [hlt, hcc] at hc; done)) | (try simp only [bn] at hc; try contradiction))
             | skip))
        rw [← hr]
        simp [refNumP, hdl, hno (fun h => hd1 h.1)]
    · have hkl : k = t.length := by omega
      subst hkl
      rw [List.take_length] at hP
      have h10 : 10 ^ t.length ≤ 10 ^ 9 := Nat.pow_le_pow_right (by decide) hd.2
      have hP2 := hP.2
      have hb : Lib.itoa (-(dv t : Int)) = (45 :: t) ∨ Lib.itoa (-(dv t : Int)) ≠ (45 :: t) := Classical.em _
      have hdec := decimalI_ok (-(dv t : Int)) (by omega) (by omega)
      repeat' (first
        | ((with_reducible first | show VCs _ | show All _); simp [vb, hlt, hdec] <;> omega)
        | exact (rfl : some _ = _)
        | (fail_if_success refine awL ?_
           refine evT [(97, fun _ => some (.str (Lib.itoa (-(dv t : Int)))))] ?_
           repeat1' dsimp only [c71, go_sem]
           first
           | refine aw4 ?_ ?_ rfl ?_
           | apply aw3
           | apply aw2
           | (refine awB (fun hc => ?_) fun hc => ?_ <;> first | (cases hc; done) | (exfalso; simp [hlt, hdec] at hc <;> omega) | (try simp only [bn] at hc; try contradiction))
           | skip))
      rw [← hr]
      simp [refNumP, hdl, hP.1, signed, hd, hdl, Bool.beq_eq_decide_eq]
  · repeat' (first
      | ((with_reducible first | show VCs _ | show All _); simp [vb, ht] <;> omega)
      | exact (rfl : some _ = _)
      | (fail_if_success refine awL ?_
         refine evH [(17, { val := some (.pv (.str t)) })] ?_
         repeat1' dsimp only [c71, go_sem]
         first
         | refine aw4 ?_ ?_ rfl ?_
         | apply aw3
         | apply aw2
         | (refine awB (fun hc => ?_) fun hc => ?_ <;> first | (cases hc; done) | (exfalso; simp [ht] at hc <;> omega) | (try simp only [bn] at hc; try contradiction))
         | skip))
    rw [← hr]
    simp [refNumP, hdl, hd]
set_option maxHeartbeats 4000000 in
theorem refNumber_pos2 (t : List UInt8) (hn : t.head? ≠ some 45) (hl : t.length ≤ 1000000000) : PureOK ctx 71 [.str t] (.tup [.int .i64 (refNumP t).1, .bool (refNumP t).2]) := by
  have hdl : digitsOf t = t := by unfold digitsOf; rw [if_neg hn]
  have hn2 : 0 < t.length → ¬ ((t[0]?.getD 0).toNat : Int) = 45 := by
    intro h h2
    cases t with
    | nil => simp at h
    | cons a r =>
      simp at h2 hn
      exact hn (UInt8.toNat_inj.mp (by simp; omega))
  generalize hr : PV.tup [.int .i64 (refNumP t).1, .bool (refNumP t).2] = r
  refine pure_body' (C := ctx) (Fn.of fn71 rfl) rfl ?_
  unfold c71
  by_cases hd : 1 ≤ t.length ∧ t.length ≤ 9
  · repeat' (first
      | ((with_reducible first | show VCs _ | show All _); simp [vb, hn2] <;> omega)
      | exact (rfl : some _ = _)
      | (fail_if_success refine awL ?_
         refine evA ?_
         repeat1' dsimp only [c71, go_sem]
         first
         | refine aw4 ?_ ?_ rfl ?_
         | apply aw3
         | apply aw2
         | (refine awB (fun hc => ?_) fun hc => ?_ <;> first | (cases hc; done) | (exfalso; simp [hn2] at hc <;> omega) | (try simp only [bn] at hc; try contradiction))
         | skip))
    refine aw_forJ t.length (fun k => Lib.decFrom 0 (t.take k) = some (dv (t.take k)) ∧ dv (t.take k) < 10 ^ k) (fun k => [(0, .pv (.str (t))), (4, .pv (.int .i64 (dv (t.take k)))), (5, .pv (.str t)), (6, .pv (.int .i64 k))]) (fun _ => []) ⟨rfl, by simp [dv, Lib.decFrom]⟩ (by (repeat' (first | exact trivial | refine And.intro (by first | rfl | (simp [get, Nat.beq]; done) | (simp [get, Nat.beq]; omega) | (dsimp only [get]; congr 1 <;> first | rfl | omega | (simp; done) | (simp; omega))) ?_))) ⟨[], rfl⟩ (fun k => ⟨Nat.zero_le _, rfl, rfl⟩) fun k hk hP => ?_
    by_cases hlt : k < t.length
    · have hs := dec_step t k hlt hP.1
      have hno := dec_bad t k hlt hP.1
      have hk9 : k ≤ 8 := by omega
      have h10 : 10 ^ k ≤ 10 ^ 8 := Nat.pow_le_pow_right (by decide) hk9
      have h11 : 10 ^ (k + 1) = 10 ^ k * 10 := Nat.pow_succ ..
      have hP2 := hP.2
      simp only [List.getD] at hs hno
      generalize hn : dv (t.take k) = n at *
      generalize hcc : t[k]?.getD 0 = c at *
      by_cases hd1 : 48 ≤ c.toNat
      · by_cases hd2 : c.toNat ≤ 57
        · have hw : IntKind.u8.wrap ((c.toNat : Int) - 48) = (c.toNat : Int) - 48 := IntWalk.u8_in _ (by omega)
          have hm1 : IntKind.i64.min = -9223372036854775808 := rfl
          have hm2 : IntKind.i64.max = 9223372036854775807 := rfl
          obtain ⟨hs1, hs2⟩ := hs hd1 hd2
          repeat' (first
            | ((with_reducible first | show VCs _ | show All _); (try dsimp only [go_sem]); first | (simp [vb, hlt, hw, hcc, hm1, hm2] <;> omega) | (simp only [vb, and_true, true_implies]; (repeat' (first | assumption | (with_reducible apply And.intro) | intro _)) <;> first | omega | (simp only [ab, hlt, hw, hcc, hm1, hm2]; done) | (simp [hlt, hw, hcc, hm1, hm2] <;> omega)))
            | exact (rfl : some _ = _)
            | (fail_if_success refine awL ?_
               refine evH [(34, { val := some (.pv (.int .u8 c.toNat)) }), (39, { val := some (.pv (.int .u8 c.toNat)) }), (46, { val := some (.pv (.int .u8 c.toNat)) }), (47, { val := some (.pv (.int .u8 ((c.toNat : Int) - 48))) })] ?_
               repeat1' dsimp only [c71, go_sem]
               first
               | refine aw4 ?_ ?_ rfl ?_
               | apply aw3
               | apply aw2
               | (refine awB (fun hc => ?_) fun hc => ?_ <;> first | (cases hc; done) | (exfalso; simp [hlt, hw, hcc, hm1, hm2] at hc <;> omega) | (try simp only [bn] at hc; try contradiction))
               | skip))
          refine ⟨hlt, ⟨by rw [hs2]; exact hs1, by rw [hs2]; omega⟩, by (repeat' (first | exact trivial | refine And.intro (by first | rfl | (simp [get, Nat.beq, hs2]; done) | (simp [get, Nat.beq, hs2]; omega) | (dsimp only [get]; congr 1 <;> first | rfl | omega | (simp; done) | (simp; omega))) ?_)), [], rfl⟩
        · repeat' (first
            | ((with_reducible first | show VCs _ | show All _); (try dsimp only [go_sem]); first | (simp [vb, hlt, hcc] <;> omega) | (simp only [vb, and_true, true_implies]; (repeat' (first | assumption | (with_reducible apply And.intro) | intro _)) <;> first | omega | (simp only [ab, hlt, hcc]; done) | (simp [hlt, hcc] <;> omega)))
            | exact (rfl : some _ = _)
            | (fail_if_success refine awL ?_
               refine evH [(34, { val := some (.pv (.int .u8 c.toNat)) }), (39, { val := some (.pv (.int .u8 c.toNat)) })] ?_
               repeat1' dsimp only [c71, go_sem]
               first
               | refine aw4 ?_ ?_ rfl ?_
               | apply aw3
               | apply aw2
               | (refine awB (fun hc => ?_) fun hc => ?_ <;> first | (cases hc; done) | (exfalso; simp [hlt, hcc] at hc <;> omega) | (try simp only [bn] at hc; try contradiction))
               | skip))
          rw [← hr]
          simp [refNumP, hdl, hno (fun h => hd2 h.2)]
      · repeat' (first
          | ((with_reducible show VCs _); first | exact True.intro | (simp only [vb, lb]; omega) | (simp only [vb, lb, hlt, hcc]; and_intros <;> first | omega | (simp <;> omega)) | (simp [vb, hlt, hcc] <;> omega))
          | ((with_reducible show All _); first | exact True.intro | ((try dsimp only [go_sem]); first | (simp [vb, hlt, hcc] <;> omega) | (simp only [vb, and_true, true_implies]; (repeat' (first | assumption | (with_reducible apply And.intro) | intro _)) <;> first | omega | rfl | (simp only [ab, hlt, hcc]; done) | (simp [Nat.mul_one, hlt, hcc] <;> omega) | (simp_all; done))))
          | exact (rfl : some _ = _)
          | (fail_if_success refine awL ?_
             refine evH [(34, { val := some (.pv (.int .u8 c.toNat)) }), (39, { val := some (.pv (.int .u8 c.toNat)) })] ?_
             repeat1' dsimp only [c71, go_sem]
             first
             | refine aw4 ?_ ?_ rfl ?_
             | apply aw3
             | apply aw2
             | (refine awB (fun hc => ?_) fun hc => ?_ <;> first | (cases hc; done) | (exfalso; first | (simp at hc <;> omega) | (simp [hlt, hcc] at hc; done)) | (try simp only [bn] at hc; try contradiction))
             | skip))
        rw [← hr]
        simp [refNumP, hdl, hno (fun h => hd1 h.1)]
    · have hkl : k = t.length := by omega
      subst hkl
      rw [List.take_length] at hP
      have h10 : 10 ^ t.length ≤ 10 ^ 9 := Nat.pow_le_pow_right (by decide) hd.2
      have hP2 := hP.2
      have hb : Lib.itoa (dv t : Int) = (t) ∨ Lib.itoa (dv t : Int) ≠ (t) := Classical.em _
      have hdec := decimalI_ok (dv t : Int) (by omega) (by omega)
      repeat' (first
        | ((with_reducible first | show VCs _ | show All _); simp [vb, hlt, hdec] <;> omega)
        | exact (rfl : some _ = _)
        | (fail_if_success refine awL ?_
           refine evT [(97, fun _ => some (.str (Lib.itoa (dv t : Int))))] ?_
           repeat1' dsimp only [c71, go_sem]
           first
           | refine aw4 ?_ ?_ rfl ?_
           | apply aw3
           | apply aw2
           | (refine awB (fun hc => ?_) fun hc => ?_ <;> first | (cases hc; done) | (exfalso; simp [hlt, hdec] at hc <;> omega) | (try simp only [bn] at hc; try contradiction))
           | skip))
      rw [← hr]
      simp [refNumP, hdl, hP.1, signed, hd, hn, Bool.beq_eq_decide_eq]
  · repeat' (first
      | ((with_reducible first | show VCs _ | show All _); simp [vb, hn2] <;> omega)
      | exact (rfl : some _ = _)
      | (fail_if_success refine awL ?_
         refine evA ?_
         repeat1' dsimp only [c71, go_sem]
         first
         | refine aw4 ?_ ?_ rfl ?_
         | apply aw3
         | apply aw2
         | (refine awB (fun hc => ?_) fun hc => ?_ <;> first | (cases hc; done) | (exfalso; simp [hn2] at hc <;> omega) | (try simp only [bn] at hc; try contradiction))
         | skip))
    rw [← hr]
    simp [refNumP, hdl, hd]
end
end Pur
end Go.Proofs.YteokbngllldmdaaGreatDoor
namespace Go.Proofs.YteokbngllldmdaaGreatDoor
namespace Pl
def splitOn (c : UInt8) : List UInt8 → List (List UInt8)
 | [] => [[]]
 | x :: r => if x = c then [] :: splitOn c r else match splitOn c r with
  | h :: t => (x :: h) :: t
  | [] => [[x]]
theorem splitOn_ne (c : UInt8) : ∀ l, splitOn c l ≠ []
 | [] => by simp [splitOn]
 | x :: r => by
  simp only [splitOn]
  split
  ·simp
  ·split <;> simp
theorem splitOn_none {c : UInt8} : ∀ {l : List UInt8}, (∀ k : Nat, l[k]? ≠ some c) → splitOn c l = [l]
 | [], _ => rfl
 | x :: r, h => by
  have hx : x ≠ c := fun e => h 0 (by simp [e])
  have := splitOn_none (l := r) fun k => by have := h (k + 1); simpa using this
  simp only [splitOn, hx, if_false, this]
theorem splitOn_hit {c : UInt8} : ∀ {l : List UInt8} {i : Nat}, l[i]? = some c → (∀ k, k < i → l[k]? ≠ some c) → splitOn c l = l.take i :: splitOn c (l.drop (i + 1))
 | [], i, h, _ => by simp at h
 | x :: r, 0, h, _ => by
  simp at h
  simp [splitOn, h]
 | x :: r, i + 1, h, hn => by
  have hx : x ≠ c := fun e => hn 0 (by omega) (by simp [e])
  have := splitOn_hit (l := r) (i := i) (by simpa using h) fun k hk => by have := hn (k + 1) (by omega); simpa using this
  simp only [splitOn, hx, if_false, this, List.take_succ_cons, List.drop_succ_cons]
theorem indexB_byte (s : ByteArray) (c : UInt8) : Lib.indexB s ⟨#[c]⟩ = Lib.indexByte s.data.toList c := Lib.index_one s.data.toList c
theorem splitB_lists (c : UInt8) : ∀ (n : Nat) (s : ByteArray), s.size ≤ n → (Lib.splitB ⟨#[c]⟩ 0 (Lib.countB s ⟨#[c]⟩) s).map (·.data.toList) = splitOn c s.data.toList
 | n, s, hn => by
  have h1 : 1 ≤ (⟨#[c]⟩ : ByteArray).size := by simp [ByteArray.size]
  rcases Lib.indexB_cases s ⟨#[c]⟩ with hix | ⟨i, hix, hroom⟩
  ·rw [Lib.splitB_miss _ _ _ _ hix]
   rw [indexB_byte] at hix
   rw [splitOn_none (Lib.indexByte_none hix)]
   rfl
  ·have hc := Lib.countB_hit s ⟨#[c]⟩ i h1 hix
   have hsz : (⟨#[c]⟩ : ByteArray).size = 1 := rfl
   rw [hsz] at hroom hc
   have hcount : Lib.countB s ⟨#[c]⟩ = Lib.countB (s.extract (i + 1) s.size) ⟨#[c]⟩ + 1 := by omega
   rw [hcount, Lib.splitB_hit _ _ _ _ i hix, hsz]
   match n, hn with
   | 0, hn => omega
   | n + 1, hn =>
    have hlt : (s.extract (i + 1) s.size).size ≤ n := by rw [ByteArray.size_extract]; omega
    rw [List.map_cons, splitB_lists c n _ hlt]
    rw [indexB_byte] at hix
    obtain ⟨g1, g2⟩ := Lib.indexByte_some hix
    rw [splitOn_hit g1 g2, Lib.extract_from_zero, Lib.extract_to_end, Nat.add_zero]
def upTo (c : UInt8) (l : List UInt8) : List UInt8 := l.takeWhile fun x => x != c
theorem upTo_none {c : UInt8} : ∀ {l : List UInt8}, (∀ k : Nat, l[k]? ≠ some c) → upTo c l = l
 | [], _ => rfl
 | x :: r, h => by
  have hx : x ≠ c := fun e => h 0 (by simp [e])
  have := upTo_none (l := r) fun k => by have := h (k + 1); simpa using this
  unfold upTo at this ⊢
  rw [List.takeWhile_cons_of_pos (by simpa using hx), this]
theorem upTo_hit {c : UInt8} : ∀ {l : List UInt8} {i : Nat}, l[i]? = some c → (∀ k, k < i → l[k]? ≠ some c) → upTo c l = l.take i
 | [], i, h, _ => by simp at h
 | x :: r, 0, h, _ => by
  simp at h
  simp [upTo, h]
 | x :: r, i + 1, h, hn => by
  have hx : x ≠ c := fun e => hn 0 (by omega) (by simp [e])
  have := upTo_hit (l := r) (i := i) (by simpa using h) fun k hk => by have := hn (k + 1) (by omega); simpa using this
  unfold upTo at this ⊢
  rw [List.takeWhile_cons_of_pos (by simpa using hx), this, List.take_succ_cons]
theorem cut_one (l : List UInt8) (c : UInt8) : (Lib.cut l [c]).1 = upTo c l := by
 unfold Lib.cut
 rw [Lib.index_one]
 split
 ·rename_i h
  obtain ⟨i, hi⟩ : ∃ i : Nat, Lib.indexByte l c = i := ⟨(Lib.indexByte l c).toNat, by omega⟩
  obtain ⟨g1, g2⟩ := Lib.indexByte_some hi
  rw [upTo_hit g1 g2, hi]
  simp
 ·rename_i h
  have := Lib.indexByte_ge l c
  rw [upTo_none (Lib.indexByte_none (by omega))]
def wordsGo (c : UInt8) : List UInt8 → List UInt8 → List (List UInt8)
 | [], cur => if cur = [] then [] else [cur]
 | x :: r, cur => if x = c then (if cur = [] then wordsGo c r [] else cur :: wordsGo c r []) else wordsGo c r (cur ++ [x])
def wordsOn (c : UInt8) (l : List UInt8) : List (List UInt8) := wordsGo c l []
theorem wordsGo_skip {c : UInt8} : ∀ (a r cur : List UInt8), (∀ x ∈ a, x ≠ c) → wordsGo c (a ++ r) cur = wordsGo c r (cur ++ a)
 | [], r, cur, _ => by simp
 | x :: a, r, cur, h => by
  have hx : x ≠ c := h x (by simp)
  rw [List.cons_append, wordsGo, if_neg hx, wordsGo_skip a r _ fun y hy => h y (by simp [hy])]
  simp
theorem decode_blank (s : ByteArray) (i : Nat) (hi : i < s.size) : 1 ≤ (Utf8.decode s i).2 ∧ i + (Utf8.decode s i).2 ≤ s.size ∧ (((Utf8.decode s i).1 = 32 ∧ (Utf8.decode s i).2 = 1 ∧ s.get! i = 32) ∨ ((Utf8.decode s i).1 ≠ 32 ∧ ∀ k, k < (Utf8.decode s i).2 → s.get! (i + k) ≠ 32)) := by
 have ne : ∀ {x : UInt8}, x.toNat ≠ 32 → x ≠ 32 := fun h e => h (by rw [e]; rfl)
 have eq : ∀ {x : UInt8}, x.toNat = 32 → x = 32 := fun h => UInt8.toNat_inj.mp (by rw [h]; rfl)
 unfold Utf8.decode
 simp only [Nat.add_zero]
 split
 ·rename_i h0
  refine ⟨by simp, by simp; omega, ?_⟩
  by_cases h : (s.get! i).toNat = 32
  ·exact .inl ⟨h, rfl, eq h⟩
  ·exact .inr ⟨h, fun k hk => by
    have : k = 0 := by simp at hk; omega
    subst this
    exact ne h⟩
 ·rename_i h0
  have one : (Utf8.runeError : Nat) ≠ 32 ∧ ∀ k, k < 1 → s.get! (i + k) ≠ 32 := ⟨by decide, fun k hk => by
   have : k = 0 := by omega
   subst this
   exact ne (by simp only [Nat.add_zero]; omega)⟩
  split
  ·rename_i h1
   simp only [Bool.and_eq_true, decide_eq_true_eq, beq_iff_eq] at h1
   split
   ·rename_i h2
    refine ⟨by simp, by simp; omega, .inr ⟨by simp only; omega, fun k hk => ?_⟩⟩
    match k, hk with
    | 0, _ => exact ne (by simp only [Nat.add_zero]; omega)
    | 1, _ => exact ne (by omega)
   ·exact ⟨by simp, by simp; omega, .inr one⟩
  ·split
   ·rename_i h1
    simp only [Bool.and_eq_true, decide_eq_true_eq, beq_iff_eq] at h1
    split
    ·rename_i h2
     simp only [ge_iff_le, Bool.and_eq_true, decide_eq_true_eq] at h2
     refine ⟨by simp, by simp; omega, .inr ⟨by simp only; omega, fun k hk => ?_⟩⟩
     match k, hk with
     | 0, _ => exact ne (by simp only [Nat.add_zero]; omega)
     | 1, _ => exact ne (by omega)
     | 2, _ => exact ne (by omega)
    ·exact ⟨by simp, by simp; omega, .inr one⟩
   ·split
    ·rename_i h1
     simp only [Bool.and_eq_true, decide_eq_true_eq, beq_iff_eq] at h1
     split
     ·rename_i h2
      simp only [ge_iff_le, Bool.and_eq_true, decide_eq_true_eq] at h2
      refine ⟨by simp, by simp; omega, .inr ⟨by simp only; omega, fun k hk => ?_⟩⟩
      match k, hk with
      | 0, _ => exact ne (by simp only [Nat.add_zero]; omega)
      | 1, _ => exact ne (by omega)
      | 2, _ => exact ne (by omega)
      | 3, _ => exact ne (by omega)
     ·exact ⟨by simp, by simp; omega, .inr one⟩
    ·exact ⟨by simp, by simp; omega, .inr one⟩
theorem get!_list (s : ByteArray) (i : Nat) (hi : i < s.size) : s.data.toList[i]? = some (s.get! i) := by
 have h1 : i < s.data.size := hi
 have : s.get! i = s.data[i] := by
  show s.data[i]! = _
  rw [getElem!_pos s.data i h1]
 rw [this]
 simp [h1]
def piece (s : ByteArray) (a b : Nat) : List UInt8 := (s.data.toList.drop a).take (b - a)
theorem piece_extract (s : ByteArray) (a b : Nat) : (s.extract a b).data.toList = piece s a b := by
 rw [Lib.extract_data]
 simp [piece, List.extract_eq_take_drop, List.take_drop]
theorem piece_add (s : ByteArray) (a b n : Nat) (hab : a ≤ b) : piece s a (b + n) = piece s a b ++ piece s b (b + n) := by
 unfold piece
 rw [show b + n - a = (b - a) + n by omega, List.take_add, List.drop_drop, show a + (b - a) = b by omega, show b + n - b = n by omega]
theorem piece_ne (s : ByteArray) (a b : Nat) (hb : b ≤ s.size) (hab : a < b) : piece s a b ≠ [] := by
 intro h
 have hl : (piece s a b).length = b - a := by
  unfold piece
  rw [List.length_take, List.length_drop]
  have : s.data.toList.length = s.size := rfl
  omega
 rw [h] at hl
 simp at hl
 omega
theorem piece_clean (s : ByteArray) (i n : Nat) (h : ∀ k, k < n → s.get! (i + k) ≠ 32) (hr : i + n ≤ s.size) : ∀ x ∈ piece s i (i + n), x ≠ 32 := by
 intro x hx
 obtain ⟨k, hk⟩ := List.mem_iff_getElem?.mp hx
 unfold piece at hk
 rw [show i + n - i = n by omega, List.getElem?_take] at hk
 split at hk
 ·rename_i hkn
  rw [List.getElem?_drop, get!_list s _ (by omega)] at hk
  injection hk with hk
  rw [← hk]
  exact h k hkn
 ·cases hk
def curOf (s : ByteArray) (pos : Nat) : Option Nat → List UInt8
 | some a => piece s a pos
 | none => []
theorem spans_words (s : ByteArray) : ∀ (f pos : Nat) (st : Option Nat) (acc : List (Nat × Nat)), pos ≤ s.size → s.size - pos ≤ f → (∀ a, st = some a → a < pos) →
  (Lib.closeSpans s (Lib.spansFromP (fun x => x == 32) s f pos st acc)).map (fun x => piece s x.1 x.2) = acc.map (fun x => piece s x.1 x.2) ++ wordsGo 32 (s.data.toList.drop pos) (curOf s pos st) := by
 have close : ∀ (pos : Nat) (st : Option Nat) (acc : List (Nat × Nat)), pos = s.size → (∀ a, st = some a → a < pos) → (Lib.closeSpans s (acc, st)).map (fun x => piece s x.1 x.2) = acc.map (fun x => piece s x.1 x.2) ++ wordsGo 32 (s.data.toList.drop pos) (curOf s pos st) := by
  intro pos st acc hp ha
  subst hp
  have hd : s.data.toList.drop s.size = [] := List.drop_eq_nil_of_le (Nat.le_refl _)
  rw [hd]
  cases st with
  | none => simp [Lib.closeSpans, wordsGo, curOf]
  | some a =>
   have := piece_ne s a s.size (Nat.le_refl _) (ha a rfl)
   simp [Lib.closeSpans, wordsGo, curOf, this]
 intro f
 induction f with
 | zero =>
  intro pos st acc hp hf ha
  exact close pos st acc (by omega) ha
 | succ f ih =>
  intro pos st acc hp hf ha
  by_cases hlt : pos < s.size
  ·obtain ⟨h1, h2, h3⟩ := decode_blank s pos hlt
   unfold Lib.spansFromP
   rw [if_pos hlt]
   rcases h3 with ⟨hr, hn, hb⟩ | ⟨hr, hb⟩
   ·have hdrop : s.data.toList.drop pos = 32 :: s.data.toList.drop (pos + 1) := by
     have := get!_list s pos hlt
     rw [hb] at this
     rw [List.drop_eq_getElem_cons (by exact hlt)]
     congr 1
     exact (List.getElem?_eq_some_iff.mp this).2
    rw [if_pos (by simp [hr]), hn, hdrop]
    cases st with
    | none =>
     rw [ih (pos + 1) none acc (by omega) (by omega) (fun a h => by cases h)]
     simp [wordsGo, curOf]
    | some a =>
     have hne := piece_ne s a pos (by omega) (ha a rfl)
     rw [ih (pos + 1) none (acc ++ [(a, pos)]) (by omega) (by omega) (fun a h => by cases h)]
     simp [wordsGo, curOf, hne]
   ·rw [if_neg (by simp [hr])]
    generalize hnn : (Utf8.decode s pos).2 = n at *
    have hsplit : s.data.toList.drop pos = piece s pos (pos + n) ++ s.data.toList.drop (pos + n) := by
     unfold piece
     rw [show pos + n - pos = n by omega, ← List.drop_drop, List.take_append_drop]
    have hclean := piece_clean s pos n hb h2
    rw [hsplit, wordsGo_skip _ _ _ hclean]
    cases st with
    | none =>
     rw [ih (pos + n) (some pos) acc (by omega) (by omega) (fun a h => by injection h with h; omega)]
     simp [curOf]
    | some a =>
     have hap := ha a rfl
     rw [ih (pos + n) (some a) acc (by omega) (by omega) (fun b h => by injection h with h; omega)]
     simp only [curOf]
     rw [piece_add s a pos n (by omega)]
  ·unfold Lib.spansFromP
   rw [if_neg hlt]
   exact close pos st acc (by omega) ha
theorem fields_words (s : ByteArray) : (Lib.goFieldsP (fun x => x == 32) s).map (·.data.toList) = wordsOn 32 s.data.toList := by
 have := spans_words s s.size 0 none [] (by omega) (by omega) (fun a h => by cases h)
 simp only [List.map_nil, List.nil_append, List.drop_zero, curOf] at this
 unfold Lib.goFieldsP Lib.spansOfP wordsOn
 rw [List.map_map, ← this]
 refine List.map_congr_left fun x _ => ?_
 exact piece_extract s x.1 x.2
theorem splitOn_len (c : UInt8) : ∀ l : List UInt8, (splitOn c l).length ≤ l.length + 1
 | [] => by simp [splitOn]
 | x :: r => by
  have ih := splitOn_len c r
  simp only [splitOn]
  split
  ·simp; omega
  ·split
   ·rename_i h t hs
    rw [hs] at ih
    simp at ih ⊢
    omega
   ·simp
theorem splitOn_mem (c : UInt8) : ∀ (l x : List UInt8), x ∈ splitOn c l → x.length ≤ l.length
 | [], x, h => by
  simp [splitOn] at h
  simp [h]
 | y :: r, x, h => by
  have ih := splitOn_mem c r
  simp only [splitOn] at h
  split at h
  ·rcases List.mem_cons.mp h with h | h
   ·simp [h]
   ·have := ih x h; simp; omega
  ·split at h
   ·rename_i hd t hs
    rcases List.mem_cons.mp h with h | h
    ·subst h
     have := ih hd (by rw [hs]; simp)
     simp; omega
    ·have := ih x (by rw [hs]; simp [h])
     simp; omega
   ·rcases List.mem_cons.mp h with h | h
    ·subst h; simp
    ·cases h
theorem wordsGo_len (c : UInt8) : ∀ (l cur : List UInt8), (wordsGo c l cur).length ≤ l.length + 1 ∧ (cur = [] → (wordsGo c l cur).length ≤ l.length)
 | [], cur => by
  simp only [wordsGo]
  split
  ·simp
  ·rename_i h
   exact ⟨by simp, fun h2 => absurd h2 h⟩
 | x :: r, cur => by
  have h1 := wordsGo_len c r []
  have h2 := wordsGo_len c r (cur ++ [x])
  simp only [wordsGo]
  split
  ·split
   ·exact ⟨by simp; have := h1.1; omega, fun _ => by simp; exact h1.1⟩
   ·rename_i hc
    have := h1.2 rfl
    exact ⟨by simp; omega, fun h => absurd h hc⟩
  ·exact ⟨by simp; have := h2.1; omega, fun _ => by simp; exact h2.1⟩
theorem wordsGo_mem (c : UInt8) : ∀ (l cur x : List UInt8), x ∈ wordsGo c l cur → x.length ≤ l.length + cur.length
 | [], cur, x, h => by
  simp only [wordsGo] at h
  split at h
  ·cases h
  ·simp at h; simp [h]
 | y :: r, cur, x, h => by
  simp only [wordsGo] at h
  split at h
  ·split at h
   ·have := wordsGo_mem c r [] x h
    simp at this ⊢; omega
   ·rcases List.mem_cons.mp h with h | h
    ·simp [h]
    ·have := wordsGo_mem c r [] x h
     simp at this ⊢; omega
  ·have := wordsGo_mem c r _ x h
   simp at this ⊢; omega
theorem wordsOn_len (c : UInt8) (l : List UInt8) : (wordsOn c l).length ≤ l.length := (wordsGo_len c l []).2 rfl
theorem wordsOn_mem (c : UInt8) (l x : List UInt8) (h : x ∈ wordsOn c l) : x.length ≤ l.length := by simpa using wordsGo_mem c l [] x h
theorem upTo_len (c : UInt8) (l : List UInt8) : (upTo c l).length ≤ l.length := (List.takeWhile_sublist _).length_le
end Pl
end Go.Proofs.YteokbngllldmdaaGreatDoor
namespace Go.Proofs.YteokbngllldmdaaGreatDoor
namespace Pur
open Go.RowKit
attribute [local go_sem] evOps evOp evOpV evRun evK argF List.map hintAt stripped get put tmpsOf tmpOf tmpO tmpL tmpP conds ev cond_true cond_false Nat.beq Nat.ble Nat.add quiet After thenR blockR IfD List.append_eq List.nil_append List.cons_append evInt exactI_a exactI_b exactI_c exactI_d exactI_e exactI_f evBin evStr evBool evUn guardC calm quiet.isCallK evPick List.getElem?_cons_zero List.getElem?_cons_succ fromCells fromPVs cellsOf List.all oneCell List.length_cons List.length_nil mkAgg plains List.drop List.take List.getD Option.getD_some bo1 bo2 ba1 ba2 bn1 bn2 kk_i64 kk_u8 kk_i32 kk_u64 setAt List.set Nat.reduceAdd Nat.reduceMul evCall safeCall refsOf refsIn scalarA scalar scalarL thawL mapAll thawArg thawRef after freeze RetD RetE evResult evRess evRes1 thaw_pv mkTup nilOf_a nilOf_b nilOf_bb nilOf_c nilOf_d nilOf_e nilOf_f nilOf_g nilOf_h nilOf_i nilOf_j nilOf_k nilOf_l nilOf_m eqLeaf_a eqLeaf_b eqLeaf_c eqOffs evMM bytesOf evOpsF AfterF footOf footRefs notIn indepF footAt freeOk still evParts fillA zeros intOfA boundA srcOf List.isEmpty appNil_0 appNil_1 appNil_2 Int.reduceToNat Nat.mul_one Nat.reduceSub evC evOpsT evOpsTF autoH tabHint look hintD strip guarded RetPD RetRD mpLen keysOk leafKA leafK bitI nilOf_n nilOf_o Bool.or_false Bool.or_true Bool.and_true Bool.and_false Nat.blt renF renM renB renV idxOf solF solM solA solV thawRef ev1
section
open Sch Pl
def c32 : ACode := (⟨_, by conv => (lhs; reduce; try simp only [lt1, Int.cast_ofNat_Int, Int.reduceNegSucc, UInt8.reduceOfNat])⟩ : {x // codeOf Tryz.prog 32 (fun _ => false) = some x}).1
theorem fn32 : fnOf Tryz.prog 32 (fun _ => false) = some (c32, [.t 2, .t 3], 29, true) := by kernel_rfl
def c30 : ACode := (⟨_, by conv => (lhs; reduce; try simp only [lt1, Int.cast_ofNat_Int, Int.reduceNegSucc, UInt8.reduceOfNat])⟩ : {x // codeOf Tryz.prog 30 (fun d => Nat.beq d 6) = some x}).1
theorem fn30 : fnOf Tryz.prog 30 (fun d => Nat.beq d 6) = some (c30, [.t 2], 37, true) := by kernel_rfl
def c31 : ACode := (⟨_, by conv => (lhs; reduce; try simp only [lt1, Int.cast_ofNat_Int, Int.reduceNegSucc, UInt8.reduceOfNat])⟩ : {x // codeOf Tryz.prog 31 (fun d => Nat.beq d 6) = some x}).1
theorem fn31 : fnOf Tryz.prog 31 (fun d => Nat.beq d 6) = some (c31, [.t 2], 43, true) := by kernel_rfl
theorem refNumber_ok (l : List UInt8) (hl : l.length ≤ 1000000000) : PureOK ctx 71 [.str l] (.tup [.int .i64 (refNumP l).1, .bool (refNumP l).2]) := by
 by_cases h : l.head? = some 45
 ·cases l with
  | nil => simp at h
  | cons a t =>
   simp at h
   subst h
   exact refNumber_neg t (by simp at hl; omega)
 ·exact refNumber_pos2 l h hl
theorem refVal_of {l : List UInt8} (h : (refNumP l).2 = true) : refNumOf l = some (refNumP l).1 := by rw [refNumP_of, if_pos h]
theorem refVal_no {l : List UInt8} (h : (refNumP l).2 = false) : refNumOf l = none := by rw [refNumP_of, if_neg (by simp [h])]
set_option maxHeartbeats 4000000 in
theorem refNumbers_raw (xs : List (List UInt8)) (hm : xs.length ≤ 1000000) (hl : ∀ w ∈ xs, w.length ≤ 1000000000) : PureOK ctx 32 [wordsP xs] (match refNumsOf xs with
      | some l => .tup [numsP l, .bool true]
      | none => .tup [.nilsl, .bool false]) := by
  generalize hr : (match refNumsOf xs with
      | some l => PV.tup [numsP l, .bool true]
      | none => .tup [.nilsl, .bool false]) = r
  have hvl : (refValsOf xs).length = xs.length := by simp [refValsOf]
  refine pure_body' (C := ctx) (Fn.of fn32 rfl) rfl ?_
  unfold c32
  repeat' (first
    | ((with_reducible first | show VCs _ | show All _); simp [vb] <;> omega)
    | exact (rfl : some _ = _)
    | (fail_if_success refine awL ?_
       refine evA ?_
       repeat1' dsimp only [c32, wordsP, go_sem]
       first
       | refine aw4 ?_ ?_ rfl ?_
       | apply aw3
       | apply aw2
       | (refine awB (fun hc => ?_) fun hc => ?_ <;> first | (cases hc; done) | (exfalso; simp at hc <;> omega) | (try simp only [bn] at hc; try contradiction))
       | skip))
  refine aw_forJ xs.length (fun k => ∀ j, j < k → (refNumOf (xs.getD j [])).isSome = true) (fun k => [(0, .pv (wordsP xs)), (4, rowV ((refValsOf xs).take k)), (5, .pv (.int .i64 k))]) (fun k => rowM ((refValsOf xs).take k)) (fun j hj => by omega) (by (repeat' (first | exact trivial | refine And.intro (by first | rfl | (simp [get, Nat.beq]; done) | (simp [get, Nat.beq]; omega) | (dsimp only [get]; congr 1 <;> first | rfl | omega | (simp; done) | (simp; omega))) ?_))) ⟨[], rfl⟩ (fun k => by cases (refValsOf xs).take k <;> refine ⟨Nat.zero_le _, ?_, ?_⟩ <;> simp [rowV, rowM, okFrame, okMem, bnd, wordsP, Nat.blt]) fun k hk hP => ?_
  by_cases hlt : k < xs.length
  · have e := getD_strs xs k hlt
    have hw := hl _ (getD_mem (d := []) hlt)
    have hn := refNumber_ok (xs.getD k []) hw
    have hs := refValsOf_take xs k hlt
    have hno := refNumsOf_none xs k hlt
    have hk2 : ((refValsOf xs).take k).length = k := by simp; omega
    have hP2 : (refNumOf (xs.getD k [])).isSome = true → ∀ j, j < k + 1 → (refNumOf (xs.getD j [])).isSome = true := fun h j hj => by
      by_cases hjk : j = k
      · rw [hjk]; exact h
      · exact hP j (by omega)
    generalize xs.getD k [] = w at *
    have hr1 := @refVal_of w
    have hr2 := @refVal_no w
    generalize refNumP w = q at *
    obtain ⟨v, b⟩ := q
    cases b
    · repeat' (first
        | ((with_reducible first | show VCs _ | show All _); (try dsimp only [go_sem]); first | (simp [vb, e, hn] <;> omega) | (simp only [vb, and_true, true_implies]; (repeat' (first | assumption | (with_reducible apply And.intro) | intro _)) <;> first | omega | (simp only [ab, e, hn]; done) | (simp [e, hn] <;> omega)))
        | exact (rfl : some _ = _)
        | (fail_if_success refine awL ?_
           refine evTH [(71, fun _ => some (.tup [.int .i64 v, .bool false]))] [(18, { val := some (.pv (.str w)) })] ?_
           repeat1' dsimp only [c32, wordsP, go_sem]
           first
           | refine aw4 ?_ ?_ rfl ?_
           | apply aw3
           | apply aw2
           | (refine awB (fun hc => ?_) fun hc => ?_ <;> first | (cases hc; done) | (exfalso; simp [e, hn] at hc <;> omega) | (try simp only [bn] at hc; try contradiction))
           | skip))
      rw [← hr, hno (hr2 rfl)]
    · rw [hr1 rfl] at hs hP2
      generalize hns : (refValsOf xs).take k = ns at *
      cases ns with
      | nil =>
        repeat' (first
          | ((with_reducible first | show VCs _ | show All _); (try dsimp only [go_sem]); first | (simp [vb, e, hn] <;> omega) | (simp only [vb, and_true, true_implies]; (repeat' (first | assumption | (with_reducible apply And.intro) | intro _)) <;> first | omega | (simp only [ab, e, hn]; done) | (simp [e, hn] <;> omega)))
          | exact (rfl : some _ = _)
          | (fail_if_success refine awL ?_
             refine evTH [(71, fun _ => some (.tup [.int .i64 v, .bool true]))] [(18, { val := some (.pv (.str w)) })] ?_
             repeat1' dsimp only [c32, wordsP, rowV_nil, rowM_nil, go_sem]
             first
             | refine aw4 ?_ ?_ rfl ?_
             | apply aw3
             | apply aw2
             | (refine awB (fun hc => ?_) fun hc => ?_ <;> first | (cases hc; done) | (exfalso; simp [e, hn] at hc <;> omega) | (try simp only [bn] at hc; try contradiction))
             | skip))
        refine ⟨hlt, hP2 rfl, ?_, [], ?_⟩
        · rw [hs]
          (repeat' (first | exact trivial | refine And.intro (by first | rfl | (simp [get, Nat.beq]; done) | (simp [get, Nat.beq]; omega) | (dsimp only [get]; congr 1 <;> first | rfl | omega | (simp; done) | (simp; omega))) ?_))
        · rw [hs]; rfl
      | cons n r =>
        simp only [List.length_cons] at hk2
        repeat' (first
          | ((with_reducible first | show VCs _ | show All _); (try dsimp only [go_sem]); first | (simp [vb, e, hn] <;> omega) | (simp only [vb, and_true, true_implies]; (repeat' (first | assumption | (with_reducible apply And.intro) | intro _)) <;> first | omega | (simp only [ab, e, hn]; done) | (simp [e, hn] <;> omega)))
          | exact (rfl : some _ = _)
          | (fail_if_success refine awL ?_
             refine evTH [(71, fun _ => some (.tup [.int .i64 v, .bool true]))] [(18, { val := some (.pv (.str w)) })] ?_
             repeat1' dsimp only [c32, wordsP, rowV_cons, rowM_cons, go_sem]
             first
             | refine aw4 ?_ ?_ rfl ?_
             | apply aw3
             | apply aw2
             | (refine awB (fun hc => ?_) fun hc => ?_ <;> first | (cases hc; done) | (exfalso; simp [e, hn] at hc <;> omega) | (try simp only [bn] at hc; try contradiction))
             | skip))
        refine ⟨hlt, hP2 rfl, ?_, [], ?_⟩
        · rw [hs]
          (repeat' (first | exact trivial | refine And.intro (by first | rfl | (simp [get, Nat.beq, rowV]; done) | (simp [get, Nat.beq, rowV]; omega) | (dsimp only [get]; congr 1 <;> first | rfl | omega | (simp; done) | (simp; omega))) ?_))
        · rw [hs]; simp [rowM]
  · have hkl : k = xs.length := by omega
    subst hkl
    have htk : (refValsOf xs).take xs.length = refValsOf xs := List.take_of_length_le (by omega)
    rw [htk]
    have hsome := refNumsOf_some xs hP
    rw [hsome] at hr
    dsimp only at hr
    clear hsome
    clear hvl htk
    generalize refValsOf xs = ns at *
    cases ns with
    | nil =>
      repeat' (first
        | ((with_reducible first | show VCs _ | show All _); simp [vb] <;> omega)
        | exact (rfl : some _ = _)
        | (fail_if_success refine awL ?_
           refine evA ?_
           repeat1' dsimp only [c32, wordsP, rowV_nil, rowM_nil, go_sem]
           first
           | refine aw4 ?_ ?_ rfl ?_
           | apply aw3
           | apply aw2
           | (refine awB (fun hc => ?_) fun hc => ?_ <;> first | (cases hc; done) | (exfalso; simp at hc <;> omega) | (try simp only [bn] at hc; try contradiction))
           | skip))
      rw [← hr]; rfl
    | cons n r =>
      repeat' (first
        | ((with_reducible first | show VCs _ | show All _); simp [vb] <;> omega)
        | exact (rfl : some _ = _)
        | (fail_if_success refine awL ?_
           refine evA ?_
           repeat1' dsimp only [c32, wordsP, rowV_cons, rowM_cons, go_sem]
           first
           | refine aw4 ?_ ?_ rfl ?_
           | apply aw3
           | apply aw2
           | (refine awB (fun hc => ?_) fun hc => ?_ <;> first | (cases hc; done) | (exfalso; simp at hc <;> omega) | (try simp only [bn] at hc; try contradiction))
           | skip))
      rw [← hr]
      refine thaw_tup2 (thaw_rowE rfl rfl rfl ?_ rfl ?_) rfl
      · simp [Function.comp_def]
      · simp
theorem refNumbers_ok (xs : List (List UInt8)) (hm : xs.length ≤ 1000000) (hl : ∀ w ∈ xs, w.length ≤ 1000000000) : PureOK ctx 32 [wordsP xs] (match refNumsOf xs with
      | some l => .tup [intsP l, .bool true]
      | none => .tup [.sl 0 [], .bool false]) := by
  have := (refNumbers_raw xs hm hl).canon_res 2
  cases h : refNumsOf xs with
  | none => rw [h] at this; exact this
  | some l =>
    rw [h] at this
    cases l with
    | nil => exact this
    | cons n r =>
      simp only [canon, numsP, List.map_cons, List.map_nil, List.map_map] at this
      have e : (fun n => canon 0 (PV.int .i64 n)) = PV.int .i64 := rfl
      simpa [intsP, canon, Function.comp_def] using this
def linesAt (t : List UInt8) : Nat → List (List UInt8) × Nat
 | 0 => ([], 0)
 | k + 1 => if t.getD k 0 = 10 then ((linesAt t k).1 ++ [(t.take k).drop (linesAt t k).2], k + 1) else linesAt t k
def linesP (t : List UInt8) : List (List UInt8) :=
 if (linesAt t t.length).2 < t.length then (linesAt t t.length).1 ++ [(t.take t.length).drop (linesAt t t.length).2] else (linesAt t t.length).1
theorem linesAt_le (t : List UInt8) : ∀ k, (linesAt t k).2 ≤ k ∧ (linesAt t k).1.length ≤ k
 | 0 => ⟨Nat.le_refl _, Nat.le_refl _⟩
 | k + 1 => by
  have := linesAt_le t k
  unfold linesAt
  split
  ·simp; omega
  ·omega
def strsA (l : List (List UInt8)) : List AV := l.map fun n => .pv (.str n)
theorem byte_eq {c : UInt8} {n : Nat} (hn : n < 256) : ((c.toNat : Int) = (n : Int)) ↔ c = UInt8.ofNat n := by
 constructor
 ·intro h
  exact UInt8.toNat_inj.mp (by rw [UInt8.toNat_ofNat_of_lt' (by omega)]; omega)
 ·rintro rfl
  rw [UInt8.toNat_ofNat_of_lt' (by omega)]
set_option maxHeartbeats 4000000 in
theorem lines_ok (t : List UInt8) (hl : t.length ≤ 1000000) : PureOK ctx 30 [.str t] (wordsP (linesP t)) := by
  generalize hr : wordsP (linesP t) = r
  refine pure_body' (C := ctx) (Fn.of fn30 rfl) rfl ?_
  unfold c30
  repeat' (first
    | ((with_reducible first | show VCs _ | show All _); simp [vb] <;> omega)
    | exact (rfl : some _ = _)
    | (fail_if_success refine awL ?_
       refine evA ?_
       repeat1' dsimp only [c30, go_sem]
       first
       | refine aw4 ?_ ?_ rfl ?_
       | apply aw3
       | apply aw2
       | (refine awB (fun hc => ?_) fun hc => ?_ <;> first | (cases hc; done) | (exfalso; simp at hc <;> omega) | (try simp only [bn] at hc; try contradiction))
       | skip))
  refine aw_forJ t.length (fun k => True) (fun k => [(0, .pv (.str t)), (3, .ref 0 (linesAt t k).1.length 0 (linesAt t k).1.length), (4, .pv (.int .i64 (linesAt t k).2)), (5, .pv (.int .i64 k))]) (fun k => [⟨strsA (linesAt t k).1, (linesAt t k).1.length, 1, 9, false⟩]) trivial (by (repeat' (first | exact trivial | refine And.intro (by first | rfl | (simp [get, Nat.beq]; done) | (simp [get, Nat.beq]; omega) | (dsimp only [get]; congr 1 <;> first | rfl | omega | (simp; done) | (simp; omega))) ?_))) ⟨[], rfl⟩ (fun k => ⟨Nat.zero_le _, rfl, by simp [okMem, bnd, strsA]⟩) fun k hk _ => ?_
  have hle := linesAt_le t k
  have hsl : (strsA (linesAt t k).1).length = (linesAt t k).1.length := by simp [strsA]
  by_cases hlt : k < t.length
  · have hs : linesAt t (k + 1) = if t.getD k 0 = 10 then ((linesAt t k).1 ++ [(t.take k).drop (linesAt t k).2], k + 1) else linesAt t k := rfl
    generalize hq : linesAt t k = q at *
    obtain ⟨o, a⟩ := q
    dsimp only at hle hsl hs
    generalize hcc : t.getD k 0 = c at *
    have hb := @byte_eq c 10 (by decide)
    simp only [List.getD] at hcc
    by_cases hc10 : c = 10
    · rw [if_pos hc10] at hs
      have h10 : (c.toNat : Int) = 10 := hb.2 hc10
      clear hb
      repeat' (first
        | ((with_reducible first | show VCs _ | show All _); simp [vb, hcc, hsl] <;> omega)
        | exact (rfl : some _ = _)
        | (fail_if_success refine awL ?_
           refine evH [(15, { val := some (.pv (.int .u8 c.toNat)) })] ?_
           repeat1' dsimp only [c30, go_sem]
           first
           | refine aw4 ?_ ?_ rfl ?_
           | apply aw3
           | apply aw2
           | (refine awB (fun hc => ?_) fun hc => ?_ <;> first | (cases hc; done) | (exfalso; simp [hcc, hsl] at hc <;> omega) | (try simp only [bn] at hc; try contradiction))
           | skip))
      refine ⟨hlt, trivial, by rw [hs]; (repeat' (first | exact trivial | refine And.intro (by first | rfl | (simp [get, Nat.beq]; done) | (simp [get, Nat.beq]; omega) | (dsimp only [get]; congr 1 <;> first | rfl | omega | (simp; done) | (simp; omega))) ?_)), [], by rw [hs]; simp [strsA]⟩
    · rw [if_neg hc10] at hs
      have h10 : ¬ (c.toNat : Int) = 10 := fun h => hc10 (hb.1 h)
      repeat' (first
        | ((with_reducible first | show VCs _ | show All _); (try dsimp only [go_sem]); first | (simp [vb, hlt, hcc, hsl] <;> omega) | (simp only [vb, and_true, true_implies]; (repeat' (first | assumption | (with_reducible apply And.intro) | intro _)) <;> first | omega | (simp only [ab, hlt, hcc, hsl]; done) | (simp [hlt, hcc, hsl] <;> omega)))
        | exact (rfl : some _ = _)
        | (fail_if_success refine awL ?_
           refine evH [(15, { val := some (.pv (.int .u8 c.toNat)) })] ?_
           repeat1' dsimp only [c30, go_sem]
           first
           | refine aw4 ?_ ?_ rfl ?_
           | apply aw3
           | apply aw2
           | (refine awB (fun hc => ?_) fun hc => ?_ <;> first | (cases hc; done) | (exfalso; simp [hlt, hcc, hsl] at hc <;> omega) | (try simp only [bn] at hc; try contradiction))
           | skip))
      refine ⟨hlt, trivial, by rw [hs]; (repeat' (first | exact trivial | refine And.intro (by first | rfl | (simp [get, Nat.beq]; done) | (simp [get, Nat.beq]; omega) | (dsimp only [get]; congr 1 <;> first | rfl | omega | (simp; done) | (simp; omega))) ?_)), [], by rw [hs]⟩
  · have hkl : k = t.length := by omega
    subst hkl
    repeat' (first
      | ((with_reducible first | show VCs _ | show All _); simp [vb, hsl] <;> omega)
      | exact (rfl : some _ = _)
      | (fail_if_success refine awL ?_
         refine evA ?_
         repeat1' dsimp only [c30, go_sem]
         first
         | refine aw4 ?_ ?_ rfl ?_
         | apply aw3
         | apply aw2
         | (refine awB (fun hc => ?_) fun hc => ?_ <;> first | (cases hc; done) | (exfalso; simp [hsl] at hc <;> omega) | (try simp only [bn] at hc; try contradiction))
         | skip))
    · rw [← hr, linesP, if_pos (by omega)]
      refine thaw_rowE (d := 6) rfl rfl rfl ?_ ?_ ?_
      · simp [strsA]
      · simp
      · simp
    · rw [← hr, linesP, if_neg (by omega)]
      refine thaw_rowE (d := 6) rfl rfl rfl ?_ rfl ?_
      · simp [strsA]
      · simp
def spAt (l : List UInt8) : Nat → List (List UInt8) × List UInt8
 | 0 => ([], [])
 | k + 1 => if l.getD k 0 = 32 then (if (spAt l k).2 = [] then spAt l k else ((spAt l k).1 ++ [(spAt l k).2], [])) else ((spAt l k).1, (spAt l k).2 ++ [l.getD k 0])
def hashAt (l : List UInt8) : Nat := (upTo 35 l).length
def splitP (l : List UInt8) : List (List UInt8) := if (spAt l (hashAt l)).2 = [] then (spAt l (hashAt l)).1 else (spAt l (hashAt l)).1 ++ [(spAt l (hashAt l)).2]
theorem spAt_le (l : List UInt8) : ∀ k, (spAt l k).2.length ≤ k ∧ (spAt l k).1.length ≤ k
 | 0 => ⟨Nat.le_refl _, Nat.le_refl _⟩
 | k + 1 => by
  have := spAt_le l k
  unfold spAt
  split
  ·split
   ·omega
   ·simp; omega
  ·simp; omega
theorem hash_le (l : List UInt8) : hashAt l ≤ l.length := by
 induction l with
 | nil => exact Nat.le_refl _
 | cons a r ih =>
  unfold hashAt upTo at *
  by_cases h : a = 35
  ·simp [h]
  ·simp [h]; omega
theorem hash_lt (l : List UInt8) : ∀ k, k < hashAt l → l.getD k 0 ≠ 35 := by
 induction l with
 | nil => intro k h; simp [hashAt, upTo] at h
 | cons a r ih =>
  intro k h
  by_cases h35 : a = 35
  ·simp [hashAt, upTo, h35] at h
  ·cases k with
   | zero => simpa using h35
   | succ k =>
    have := ih k (by simp [hashAt, upTo, h35] at h ⊢; omega)
    simpa using this
theorem hash_end (l : List UInt8) : hashAt l < l.length → l.getD (hashAt l) 0 = 35 := by
 induction l with
 | nil => intro h; simp at h
 | cons a r ih =>
  intro h
  by_cases h35 : a = 35
  ·simp [hashAt, upTo, h35]
  ·have e : hashAt (a :: r) = hashAt r + 1 := by simp [hashAt, upTo, h35]
   rw [e] at h ⊢
   have := ih (by simp at h; omega)
   simpa using this
theorem slice1 (l : List UInt8) (k : Nat) (hk : k < l.length) : (l.take (k + 1)).drop k = [l.getD k 0] := by
 rw [take_succ_getD l k 0 hk]
 simp [List.drop_append, Nat.min_eq_left (Nat.le_of_lt hk)]
set_option maxHeartbeats 4000000 in
theorem refSplit_ok (l : List UInt8) (hl : l.length ≤ 1000000) : PureOK ctx 31 [.str l] (wordsP (splitP l)) := by
  generalize hr : wordsP (splitP l) = r
  have hle0 := hash_le l
  have hlt0 := hash_lt l
  have hend := hash_end l
  have hfin : splitP l = if (spAt l (hashAt l)).2 = [] then (spAt l (hashAt l)).1 else (spAt l (hashAt l)).1 ++ [(spAt l (hashAt l)).2] := rfl
  generalize hashAt l = m at *
  refine pure_body' (C := ctx) (Fn.of fn31 rfl) rfl ?_
  unfold c31
  repeat' (first
    | ((with_reducible first | show VCs _ | show All _); simp [vb] <;> omega)
    | exact (rfl : some _ = _)
    | (fail_if_success refine awL ?_
       refine evA ?_
       repeat1' dsimp only [c31, go_sem]
       first
       | refine aw4 ?_ ?_ rfl ?_
       | apply aw3
       | apply aw2
       | (refine awB (fun hc => ?_) fun hc => ?_ <;> first | (cases hc; done) | (exfalso; simp at hc <;> omega) | (try simp only [bn] at hc; try contradiction))
       | skip))
  refine aw_forJ m (fun k => True) (fun k => [(0, .pv (.str l)), (3, .ref 0 (spAt l k).1.length 0 (spAt l k).1.length), (4, .pv (.str (spAt l k).2)), (5, .pv (.int .i64 k))]) (fun k => [⟨strsA (spAt l k).1, (spAt l k).1.length, 1, 9, false⟩]) trivial (by (repeat' (first | exact trivial | refine And.intro (by first | rfl | (simp [get, Nat.beq]; done) | (simp [get, Nat.beq]; omega) | (dsimp only [get]; congr 1 <;> first | rfl | omega | (simp; done) | (simp; omega))) ?_))) ⟨[], rfl⟩ (fun k => ⟨Nat.zero_le _, rfl, by simp [okMem, bnd, strsA]⟩) fun k hk _ => ?_
  have hle := spAt_le l k
  have hsl : (strsA (spAt l k).1).length = (spAt l k).1.length := by simp [strsA]
  have hs : spAt l (k + 1) = if l.getD k 0 = 32 then (if (spAt l k).2 = [] then spAt l k else ((spAt l k).1 ++ [(spAt l k).2], [])) else ((spAt l k).1, (spAt l k).2 ++ [l.getD k 0]) := rfl
  by_cases hlt : k < m
  · have hkl : k < l.length := by omega
    have hsc : AV.pv (PV.str ((l.take ((k : Int) + 1).toNat).drop ((k : Int)).toNat)) = AV.pv (.str [l.getD k 0]) := by
      rw [show ((k : Int) + 1).toNat = k + 1 by omega, Int.toNat_natCast, slice1 l k hkl]
    have h35 := hlt0 k hlt
    generalize hq : spAt l k = q at *
    obtain ⟨o, w⟩ := q
    dsimp only at hle hsl hs
    generalize hcc : l.getD k 0 = c at *
    have hb := @byte_eq c 32 (by decide)
    have hb35 := @byte_eq c 35 (by decide)
    have hn35 : ¬ (c.toNat : Int) = 35 := fun h => h35 (hb35.1 h)
    simp only [List.getD] at hcc
    by_cases hc32 : c = 32
    · have h32 : (c.toNat : Int) = 32 := hb.2 hc32
      rw [if_pos hc32] at hs
      cases w with
      | nil =>
        rw [if_pos rfl] at hs
        repeat' (first
          | ((with_reducible first | show VCs _ | show All _); simp [vb, hcc, hsl] <;> omega)
          | exact (rfl : some _ = _)
          | (fail_if_success refine awL ?_
             refine evH [(14, { val := some (.pv (.int .u8 c.toNat)) }), (21, { val := some (.pv (.int .u8 c.toNat)) })] ?_
             repeat1' dsimp only [c31, go_sem]
             first
             | refine aw4 ?_ ?_ rfl ?_
             | apply aw3
             | apply aw2
             | (refine awB (fun hc => ?_) fun hc => ?_ <;> first | (cases hc; done) | (exfalso; simp [hcc, hsl] at hc <;> omega) | (try simp only [bn] at hc; try contradiction))
             | skip))
        refine ⟨hlt, trivial, by rw [hs]; (repeat' (first | exact trivial | refine And.intro (by first | rfl | (simp [get, Nat.beq]; done) | (simp [get, Nat.beq]; omega) | (dsimp only [get]; congr 1 <;> first | rfl | omega | (simp; done) | (simp; omega))) ?_)), [], by rw [hs]⟩
      | cons w0 wr =>
        rw [if_neg (by simp)] at hs
        repeat' (first
          | ((with_reducible first | show VCs _ | show All _); simp [vb, hcc, hsl] <;> omega)
          | exact (rfl : some _ = _)
          | (fail_if_success refine awL ?_
             refine evH [(14, { val := some (.pv (.int .u8 c.toNat)) }), (21, { val := some (.pv (.int .u8 c.toNat)) })] ?_
             repeat1' dsimp only [c31, go_sem]
             first
             | refine aw4 ?_ ?_ rfl ?_
             | apply aw3
             | apply aw2
             | (refine awB (fun hc => ?_) fun hc => ?_ <;> first | (cases hc; done) | (exfalso; simp [hcc, hsl] at hc <;> omega) | (try simp only [bn] at hc; try contradiction))
             | skip))
        refine ⟨hlt, trivial, by rw [hs]; (repeat' (first | exact trivial | refine And.intro (by first | rfl | (simp [get, Nat.beq]; done) | (simp [get, Nat.beq]; omega) | (dsimp only [get]; congr 1 <;> first | rfl | omega | (simp; done) | (simp; omega))) ?_)), [], by rw [hs]; simp [strsA]⟩
    · have h32 : ¬ (c.toNat : Int) = 32 := fun h => hc32 (hb.1 h)
      rw [if_neg hc32] at hs
      repeat' (first
        | ((with_reducible first | show VCs _ | show All _); (try dsimp only [go_sem]); first | (simp [vb, hcc, hsl] <;> omega) | (simp only [vb, and_true, true_implies]; (repeat' (first | assumption | (with_reducible apply And.intro) | intro _)) <;> first | omega | (simp only [ab, hcc, hsl]; done) | (simp [hcc, hsl] <;> omega)))
        | exact (rfl : some _ = _)
        | (fail_if_success refine awL ?_
           refine evH [(14, { val := some (.pv (.int .u8 c.toNat)) }), (21, { val := some (.pv (.int .u8 c.toNat)) }), (28, { val := some (.pv (.str [c])) })] ?_
           repeat1' dsimp only [c31, go_sem]
           first
           | refine aw4 ?_ ?_ rfl ?_
           | apply aw3
           | apply aw2
           | (refine awB (fun hc => ?_) fun hc => ?_ <;> first | (cases hc; done) | (exfalso; simp [hcc, hsl] at hc <;> omega) | (try simp only [bn] at hc; try contradiction))
           | skip))
      refine ⟨hlt, trivial, by rw [hs]; (repeat' (first | exact trivial | refine And.intro (by first | rfl | (simp [get, Nat.beq]; done) | (simp [get, Nat.beq]; omega) | (dsimp only [get]; congr 1 <;> first | rfl | omega | (simp; done) | (simp; omega))) ?_)), [], by rw [hs]⟩
  · have hkl : k = m := by omega
    subst hkl
    generalize spAt l k = q at *
    obtain ⟨o, w⟩ := q
    dsimp only at hle hsl hs hfin
    by_cases hkm : k < l.length
    · have hcc := hend hkm
      simp only [List.getD] at hcc
      cases w with
      | nil =>
        repeat' (first
          | ((with_reducible first | show VCs _ | show All _); simp [vb, hcc, hsl] <;> omega)
          | exact (rfl : some _ = _)
          | (fail_if_success refine awL ?_
             refine evH [(14, { val := some (.pv (.int .u8 35)) })] ?_
             repeat1' dsimp only [c31, go_sem]
             first
             | refine aw4 ?_ ?_ rfl ?_
             | apply aw3
             | apply aw2
             | (refine awB (fun hc => ?_) fun hc => ?_ <;> first | (cases hc; done) | (exfalso; simp [hcc, hsl] at hc <;> omega) | (try simp only [bn] at hc; try contradiction))
             | skip))
        rw [← hr, hfin, if_pos rfl]
        refine thaw_rowE (d := 6) rfl rfl rfl ?_ rfl ?_
        · simp [strsA]
        · simp
      | cons w0 wr =>
        repeat' (first
          | ((with_reducible first | show VCs _ | show All _); simp [vb, hcc, hsl] <;> omega)
          | exact (rfl : some _ = _)
          | (fail_if_success refine awL ?_
             refine evH [(14, { val := some (.pv (.int .u8 35)) })] ?_
             repeat1' dsimp only [c31, go_sem]
             first
             | refine aw4 ?_ ?_ rfl ?_
             | apply aw3
             | apply aw2
             | (refine awB (fun hc => ?_) fun hc => ?_ <;> first | (cases hc; done) | (exfalso; simp [hcc, hsl] at hc <;> omega) | (try simp only [bn] at hc; try contradiction))
             | skip))
        rw [← hr, hfin, if_neg (by simp)]
        refine thaw_rowE (d := 6) rfl rfl rfl ?_ ?_ ?_
        · simp [strsA]
        · simp
        · simp
    · cases w with
      | nil =>
        repeat' (first
          | ((with_reducible first | show VCs _ | show All _); simp [vb, hsl] <;> omega)
          | exact (rfl : some _ = _)
          | (fail_if_success refine awL ?_
             refine evA ?_
             repeat1' dsimp only [c31, go_sem]
             first
             | refine aw4 ?_ ?_ rfl ?_
             | apply aw3
             | apply aw2
             | (refine awB (fun hc => ?_) fun hc => ?_ <;> first | (cases hc; done) | (exfalso; simp [hsl] at hc <;> omega) | (try simp only [bn] at hc; try contradiction))
             | skip))
        rw [← hr, hfin, if_pos rfl]
        refine thaw_rowE (d := 6) rfl rfl rfl ?_ rfl ?_
        · simp [strsA]
        · simp
      | cons w0 wr =>
        repeat' (first
          | ((with_reducible first | show VCs _ | show All _); simp [vb, hsl] <;> omega)
          | exact (rfl : some _ = _)
          | (fail_if_success refine awL ?_
             refine evA ?_
             repeat1' dsimp only [c31, go_sem]
             first
             | refine aw4 ?_ ?_ rfl ?_
             | apply aw3
             | apply aw2
             | (refine awB (fun hc => ?_) fun hc => ?_ <;> first | (cases hc; done) | (exfalso; simp [hsl] at hc <;> omega) | (try simp only [bn] at hc; try contradiction))
             | skip))
        rw [← hr, hfin, if_neg (by simp)]
        refine thaw_rowE (d := 6) rfl rfl rfl ?_ ?_ ?_
        · simp [strsA]
        · simp
        · simp
end
section
open Sch
def c33 : ACode := (⟨_, by conv => (lhs; reduce; try simp only [lt1, Int.cast_ofNat_Int, Int.reduceNegSucc, UInt8.reduceOfNat])⟩ : {x // codeOf Tryz.prog 33 (fun _ => false) = some x}).1
theorem fn33 : fnOf Tryz.prog 33 (fun _ => false) = some (c33, [.cell 2 3 true, .t 3], 59, true) := by kernel_rfl
def zeroFate : Fate := ⟨false, 0, 0⟩
def refFateP (ws : List (List UInt8)) : Fate × Bool :=
 if ws = [dropW] then (⟨true, 0, 0⟩, true) else match refNumsOf ws with
  | some [a] => (⟨false, a, 0⟩, fateOk ⟨false, a, 0⟩)
  | some [a, b] => (⟨false, a, b⟩, fateOk ⟨false, a, b⟩ && decide (0 < b))
  | _ => (zeroFate, false)
set_option maxHeartbeats 4000000 in
theorem refFate_ok (ws : List (List UInt8)) (hm : ws.length ≤ 1000000) (hl : ∀ w ∈ ws, w.length ≤ 1000000000) : PureOK ctx 33 [wordsP ws] (.tup [.agg (fateC (refFateP ws).1), .bool (refFateP ws).2]) := by
  have hn := refNumbers_ok ws hm hl
  by_cases hd : ws = [dropW]
  · subst hd
    refine pure_body' (C := ctx) (Fn.of fn33 rfl) rfl ?_
    unfold c33
    repeat' (first
      | ((with_reducible first | show VCs _ | show All _); simp [vb] <;> omega)
      | exact (rfl : some _ = _)
      | (fail_if_success refine awL ?_
         refine evA ?_
         repeat1' dsimp only [c33, wordsP, dropW, go_sem]
         first
         | refine aw4 ?_ ?_ rfl ?_
         | apply aw3
         | apply aw2
         | (refine awB (fun hc => ?_) fun hc => ?_ <;> first | (cases hc; done) | (exfalso; simp at hc <;> omega) | (try simp only [bn] at hc; try contradiction))
         | skip))
  generalize hr : PV.tup [.agg (fateC (refFateP ws).1), .bool (refFateP ws).2] = r
  unfold refFateP at hr
  rw [if_neg hd] at hr
  match ws, hm, hl, hn, hd, hr with
  | [], hm, hl, hn, hd, hr =>
    cases hq : refNumsOf ([]) with
    | none =>
      rw [hq] at hn hr
      refine pure_body' (C := ctx) (Fn.of fn33 rfl) rfl ?_
      unfold c33
      repeat' (first
        | ((with_reducible first | show VCs _ | show All _); simp [vb, hn] <;> omega)
        | exact (rfl : some _ = _)
        | (fail_if_success refine awL ?_
           refine evTH [(32, fun _ => some (.tup [.sl 0 [], .bool false]))] [(13, { val := some (.pv (.str [])) })] ?_
           repeat1' dsimp only [c33, wordsP, go_sem]
           first
           | refine aw4 ?_ ?_ rfl ?_
           | apply aw3
           | apply aw2
           | (refine awB (fun hc => ?_) fun hc => ?_ <;> first | (cases hc; done) | (exfalso; simp [hn] at hc <;> omega) | (try simp only [bn] at hc; try contradiction))
           | skip))
      all_goals (rw [← hr]; rfl)
    | some l =>
      rw [hq] at hn hr
      match l with
      | [] =>
        refine pure_body' (C := ctx) (Fn.of fn33 rfl) rfl ?_
        unfold c33
        repeat' (first
          | ((with_reducible first | show VCs _ | show All _); (try dsimp only [go_sem]); first | (simp [vb, hn] <;> omega) | (simp only [vb, and_true, true_implies]; (repeat' (first | assumption | (with_reducible apply And.intro) | intro _)) <;> first | omega | (simp only [ab, hn]; done) | (simp [hn] <;> omega)))
          | exact (rfl : some _ = _)
          | (fail_if_success refine awL ?_
             refine evTH [(32, fun _ => some (.tup [intsP [], .bool true]))] [(13, { val := some (.pv (.str [])) })] ?_
             repeat1' dsimp only [c33, wordsP, intsP, go_sem]
             first
             | refine aw4 ?_ ?_ rfl ?_
             | apply aw3
             | apply aw2
             | (refine awB (fun hc => ?_) fun hc => ?_ <;> first | (cases hc; done) | (exfalso; simp [hn] at hc <;> omega) | (try simp only [bn] at hc; try contradiction))
             | skip))
        all_goals (rw [← hr]; rfl)
      | [a] =>
        have hv := validFate_ok ⟨false, a, 0⟩
        refine pure_body' (C := ctx) (Fn.of fn33 rfl) rfl ?_
        unfold c33
        repeat' (first
          | ((with_reducible show VCs _); first | exact True.intro | (simp only [vb, lb]; omega) | (simp only [vb, lb, hn, hv]; and_intros <;> first | omega | (simp <;> omega)) | (simp [vb, hn, hv] <;> omega))
          | ((with_reducible show All _); first | exact True.intro | ((try dsimp only [go_sem]); first | (simp [vb, hn, hv] <;> omega) | (simp only [vb, and_true, true_implies]; (repeat' (first | assumption | (with_reducible apply And.intro) | intro _)) <;> first | omega | rfl | (simp only [ab, hn, hv]; done) | (simp [Nat.mul_one, hn, hv] <;> omega) | (simp_all; done))))
          | exact (rfl : some _ = _)
          | (fail_if_success refine awL ?_
             refine evTH [(32, fun _ => some (.tup [intsP [a], .bool true])), (72, fun _ => some (.bool (fateOk ⟨false, a, 0⟩)))] [(13, { val := some (.pv (.str [])) })] ?_
             repeat1' dsimp only [c33, wordsP, intsP, go_sem]
             first
             | refine aw4 ?_ ?_ rfl ?_
             | apply aw3
             | apply aw2
             | (refine awB (fun hc => ?_) fun hc => ?_ <;> first | (cases hc; done) | (exfalso; first | (simp at hc <;> omega) | (simp [hn, hv] at hc; done)) | (try simp only [bn] at hc; try contradiction))
             | skip))
        all_goals (rw [← hr]; simp [fateC])
      | [a, b] =>
        have hv := validFate_ok ⟨false, a, b⟩
        refine pure_body' (C := ctx) (Fn.of fn33 rfl) rfl ?_
        unfold c33
        repeat' (first
          | ((with_reducible first | show VCs _ | show All _); (try dsimp only [go_sem]); first | (simp [vb, hn, hv] <;> omega) | (simp only [vb, and_true, true_implies]; (repeat' (first | assumption | (with_reducible apply And.intro) | intro _)) <;> first | omega | (simp only [ab, hn, hv]; done) | (simp [hn, hv] <;> omega)))
          | exact (rfl : some _ = _)
          | (fail_if_success refine awL ?_
             refine evTH [(32, fun _ => some (.tup [intsP [a, b], .bool true])), (72, fun _ => some (.bool (fateOk ⟨false, a, b⟩)))] [(13, { val := some (.pv (.str [])) })] ?_
             repeat1' dsimp only [c33, wordsP, intsP, go_sem]
             first
             | refine aw4 ?_ ?_ rfl ?_
             | apply aw3
             | apply aw2
             | (refine awB (fun hc => ?_) fun hc => ?_ <;> first | (cases hc; done) | (exfalso; simp [hn, hv] at hc <;> omega) | (try simp only [bn] at hc; try contradiction))
             | skip))
        all_goals (rw [← hr]; simp [fateC])
      | a :: b :: c :: l =>
        refine pure_body' (C := ctx) (Fn.of fn33 rfl) rfl ?_
        unfold c33
        repeat' (first
          | ((with_reducible first | show VCs _ | show All _); (try dsimp only [go_sem]); first | (simp [vb, hn] <;> omega) | (simp only [vb, and_true, true_implies]; (repeat' (first | assumption | (with_reducible apply And.intro) | intro _)) <;> first | omega | (simp only [ab, hn]; done) | (simp [hn] <;> omega)))
          | exact (rfl : some _ = _)
          | (fail_if_success refine awL ?_
             refine evTH [(32, fun _ => some (.tup [intsP (a :: b :: c :: l), .bool true]))] [(13, { val := some (.pv (.str [])) })] ?_
             repeat1' dsimp only [c33, wordsP, intsP, go_sem]
             first
             | refine aw4 ?_ ?_ rfl ?_
             | apply aw3
             | apply aw2
             | (refine awB (fun hc => ?_) fun hc => ?_ <;> first | (cases hc; done) | (exfalso; simp [hn] at hc <;> omega) | (try simp only [bn] at hc; try contradiction))
             | skip))
        all_goals (rw [← hr]; rfl)
  | [w], hm, hl, hn, hd, hr =>
    have hw : ¬ w = [100, 114, 111, 112] := fun h => hd (by rw [h]; rfl)
    cases hq : refNumsOf ([w]) with
    | none =>
      rw [hq] at hn hr
      refine pure_body' (C := ctx) (Fn.of fn33 rfl) rfl ?_
      unfold c33
      repeat' (first
        | ((with_reducible first | show VCs _ | show All _); (try dsimp only [go_sem]); first | (simp [vb, hn, hw] <;> omega) | (simp only [vb, and_true, true_implies]; (repeat' (first | assumption | (with_reducible apply And.intro) | intro _)) <;> first | omega | (simp only [ab, hn, hw]; done) | (simp [hn, hw] <;> omega)))
        | exact (rfl : some _ = _)
        | (fail_if_success refine awL ?_
           refine evT [(32, fun _ => some (.tup [.sl 0 [], .bool false]))] ?_
           repeat1' dsimp only [c33, wordsP, go_sem]
           first
           | refine aw4 ?_ ?_ rfl ?_
           | apply aw3
           | apply aw2
           | (refine awB (fun hc => ?_) fun hc => ?_ <;> first | (cases hc; done) | (exfalso; simp [hn, hw] at hc <;> omega) | (try simp only [bn] at hc; try contradiction))
           | skip))
      all_goals (rw [← hr]; rfl)
    | some l =>
      rw [hq] at hn hr
      match l with
      | [] =>
        refine pure_body' (C := ctx) (Fn.of fn33 rfl) rfl ?_
        unfold c33
        repeat' (first
          | ((with_reducible first | show VCs _ | show All _); (try dsimp only [go_sem]); first | (simp [vb, hn, hw] <;> omega) | (simp only [vb, and_true, true_implies]; (repeat' (first | assumption | (with_reducible apply And.intro) | intro _)) <;> first | omega | (simp only [ab, hn, hw]; done) | (simp [hn, hw] <;> omega)))
          | exact (rfl : some _ = _)
          | (fail_if_success refine awL ?_
             refine evT [(32, fun _ => some (.tup [intsP [], .bool true]))] ?_
             repeat1' dsimp only [c33, wordsP, intsP, go_sem]
             first
             | refine aw4 ?_ ?_ rfl ?_
             | apply aw3
             | apply aw2
             | (refine awB (fun hc => ?_) fun hc => ?_ <;> first | (cases hc; done) | (exfalso; simp [hn, hw] at hc <;> omega) | (try simp only [bn] at hc; try contradiction))
             | skip))
        all_goals (rw [← hr]; rfl)
      | [a] =>
        have hv := validFate_ok ⟨false, a, 0⟩
        refine pure_body' (C := ctx) (Fn.of fn33 rfl) rfl ?_
        unfold c33
        repeat' (first
          | ((with_reducible show VCs _); first | exact True.intro | (simp only [vb, lb]; omega) | (simp only [vb, lb, hn, hv, hw]; and_intros <;> first | omega | (simp <;> omega)) | (simp [vb, hn, hv, hw] <;> omega))
          | ((with_reducible show All _); first | exact True.intro | ((try dsimp only [go_sem]); first | (simp [vb, hn, hv, hw] <;> omega) | (simp only [vb, and_true, true_implies]; (repeat' (first | assumption | (with_reducible apply And.intro) | intro _)) <;> first | omega | rfl | (simp only [ab, hn, hv, hw]; done) | (simp [Nat.mul_one, hn, hv, hw] <;> omega) | (simp_all; done))))
          | exact (rfl : some _ = _)
          | (fail_if_success refine awL ?_
             refine evT [(32, fun _ => some (.tup [intsP [a], .bool true])), (72, fun _ => some (.bool (fateOk ⟨false, a, 0⟩)))] ?_
             repeat1' dsimp only [c33, wordsP, intsP, go_sem]
             first
             | refine aw4 ?_ ?_ rfl ?_
             | apply aw3
             | apply aw2
             | (refine awB (fun hc => ?_) fun hc => ?_ <;> first | (cases hc; done) | (exfalso; first | (simp at hc <;> omega) | (simp [hn, hv, hw] at hc; done)) | (try simp only [bn] at hc; try contradiction))
             | skip))
        all_goals (rw [← hr]; simp [fateC])
      | [a, b] =>
        have hv := validFate_ok ⟨false, a, b⟩
        refine pure_body' (C := ctx) (Fn.of fn33 rfl) rfl ?_
        unfold c33
        repeat' (first
          | ((with_reducible first | show VCs _ | show All _); (try dsimp only [go_sem]); first | (simp [vb, hn, hv, hw] <;> omega) | (simp only [vb, and_true, true_implies]; (repeat' (first | assumption | (with_reducible apply And.intro) | intro _)) <;> first | omega | (simp only [ab, hn, hv, hw]; done) | (simp [hn, hv, hw] <;> omega)))
          | exact (rfl : some _ = _)
          | (fail_if_success refine awL ?_
             refine evT [(32, fun _ => some (.tup [intsP [a, b], .bool true])), (72, fun _ => some (.bool (fateOk ⟨false, a, b⟩)))] ?_
             repeat1' dsimp only [c33, wordsP, intsP, go_sem]
             first
             | refine aw4 ?_ ?_ rfl ?_
             | apply aw3
             | apply aw2
             | (refine awB (fun hc => ?_) fun hc => ?_ <;> first | (cases hc; done) | (exfalso; simp [hn, hv, hw] at hc <;> omega) | (try simp only [bn] at hc; try contradiction))
             | skip))
        all_goals (rw [← hr]; simp [fateC])
      | a :: b :: c :: l =>
        refine pure_body' (C := ctx) (Fn.of fn33 rfl) rfl ?_
        unfold c33
        repeat' (first
          | ((with_reducible first | show VCs _ | show All _); (try dsimp only [go_sem]); first | (simp [vb, hn, hw] <;> omega) | (simp only [vb, and_true, true_implies]; (repeat' (first | assumption | (with_reducible apply And.intro) | intro _)) <;> first | omega | (simp only [ab, hn, hw]; done) | (simp [hn, hw] <;> omega)))
          | exact (rfl : some _ = _)
          | (fail_if_success refine awL ?_
             refine evT [(32, fun _ => some (.tup [intsP (a :: b :: c :: l), .bool true]))] ?_
             repeat1' dsimp only [c33, wordsP, intsP, go_sem]
             first
             | refine aw4 ?_ ?_ rfl ?_
             | apply aw3
             | apply aw2
             | (refine awB (fun hc => ?_) fun hc => ?_ <;> first | (cases hc; done) | (exfalso; simp [hn, hw] at hc <;> omega) | (try simp only [bn] at hc; try contradiction))
             | skip))
        all_goals (rw [← hr]; rfl)
  | w :: w2 :: rest, hm, hl, hn, hd, hr =>
    cases hq : refNumsOf (w :: w2 :: rest) with
    | none =>
      rw [hq] at hn hr
      refine pure_body' (C := ctx) (Fn.of fn33 rfl) rfl ?_
      unfold c33
      repeat' (first
        | ((with_reducible first | show VCs _ | show All _); (try dsimp only [go_sem]); first | (simp [vb, hn] <;> omega) | (simp only [vb, and_true, true_implies]; (repeat' (first | assumption | (with_reducible apply And.intro) | intro _)) <;> first | omega | (simp only [ab, hn]; done) | (simp [hn] <;> omega)))
        | exact (rfl : some _ = _)
        | (fail_if_success refine awL ?_
           refine evT [(32, fun _ => some (.tup [.sl 0 [], .bool false]))] ?_
           repeat1' dsimp only [c33, wordsP, go_sem]
           first
           | refine aw4 ?_ ?_ rfl ?_
           | apply aw3
           | apply aw2
           | (refine awB (fun hc => ?_) fun hc => ?_ <;> first | (cases hc; done) | (exfalso; simp [hn] at hc <;> omega) | (try simp only [bn] at hc; try contradiction))
           | skip))
      all_goals (rw [← hr]; rfl)
    | some l =>
      rw [hq] at hn hr
      match l with
      | [] =>
        refine pure_body' (C := ctx) (Fn.of fn33 rfl) rfl ?_
        unfold c33
        repeat' (first
          | ((with_reducible first | show VCs _ | show All _); (try dsimp only [go_sem]); first | (simp [vb, hn] <;> omega) | (simp only [vb, and_true, true_implies]; (repeat' (first | assumption | (with_reducible apply And.intro) | intro _)) <;> first | omega | (simp only [ab, hn]; done) | (simp [hn] <;> omega)))
          | exact (rfl : some _ = _)
          | (fail_if_success refine awL ?_
             refine evT [(32, fun _ => some (.tup [intsP [], .bool true]))] ?_
             repeat1' dsimp only [c33, wordsP, intsP, go_sem]
             first
             | refine aw4 ?_ ?_ rfl ?_
             | apply aw3
             | apply aw2
             | (refine awB (fun hc => ?_) fun hc => ?_ <;> first | (cases hc; done) | (exfalso; simp [hn] at hc <;> omega) | (try simp only [bn] at hc; try contradiction))
             | skip))
        all_goals (rw [← hr]; rfl)
      | [a] =>
        have hv := validFate_ok ⟨false, a, 0⟩
        refine pure_body' (C := ctx) (Fn.of fn33 rfl) rfl ?_
        unfold c33
        repeat' (first
          | ((with_reducible show VCs _); first | exact True.intro | (simp only [vb, lb]; omega) | (simp only [vb, lb, hn, hv]; and_intros <;> first | omega | (simp <;> omega)) | (simp [vb, hn, hv] <;> omega))
          | ((with_reducible show All _); first | exact True.intro | ((try dsimp only [go_sem]); first | (simp [vb, hn, hv] <;> omega) | (simp only [vb, and_true, true_implies]; (repeat' (first | assumption | (with_reducible apply And.intro) | intro _)) <;> first | omega | rfl | (simp only [ab, hn, hv]; done) | (simp [Nat.mul_one, hn, hv] <;> omega) | (simp_all; done))))
          | exact (rfl : some _ = _)
          | (fail_if_success refine awL ?_
             refine evT [(32, fun _ => some (.tup [intsP [a], .bool true])), (72, fun _ => some (.bool (fateOk ⟨false, a, 0⟩)))] ?_
             repeat1' dsimp only [c33, wordsP, intsP, go_sem]
             first
             | refine aw4 ?_ ?_ rfl ?_
             | apply aw3
             | apply aw2
             | (refine awB (fun hc => ?_) fun hc => ?_ <;> first | (cases hc; done) | (exfalso; first | (simp at hc <;> omega) | (simp [hn, hv] at hc; done)) | (try simp only [bn] at hc; try contradiction))
             | skip))
        all_goals (rw [← hr]; simp [fateC])
      | [a, b] =>
        have hv := validFate_ok ⟨false, a, b⟩
        refine pure_body' (C := ctx) (Fn.of fn33 rfl) rfl ?_
        unfold c33
        repeat' (first
          | ((with_reducible first | show VCs _ | show All _); (try dsimp only [go_sem]); first | (simp [vb, hn, hv] <;> omega) | (simp only [vb, and_true, true_implies]; (repeat' (first | assumption | (with_reducible apply And.intro) | intro _)) <;> first | omega | (simp only [ab, hn, hv]; done) | (simp [hn, hv] <;> omega)))
          | exact (rfl : some _ = _)
          | (fail_if_success refine awL ?_
             refine evT [(32, fun _ => some (.tup [intsP [a, b], .bool true])), (72, fun _ => some (.bool (fateOk ⟨false, a, b⟩)))] ?_
             repeat1' dsimp only [c33, wordsP, intsP, go_sem]
             first
             | refine aw4 ?_ ?_ rfl ?_
             | apply aw3
             | apply aw2
             | (refine awB (fun hc => ?_) fun hc => ?_ <;> first | (cases hc; done) | (exfalso; simp [hn, hv] at hc <;> omega) | (try simp only [bn] at hc; try contradiction))
             | skip))
        all_goals (rw [← hr]; simp [fateC])
      | a :: b :: c :: l =>
        refine pure_body' (C := ctx) (Fn.of fn33 rfl) rfl ?_
        unfold c33
        repeat' (first
          | ((with_reducible first | show VCs _ | show All _); (try dsimp only [go_sem]); first | (simp [vb, hn] <;> omega) | (simp only [vb, and_true, true_implies]; (repeat' (first | assumption | (with_reducible apply And.intro) | intro _)) <;> first | omega | (simp only [ab, hn]; done) | (simp [hn] <;> omega)))
          | exact (rfl : some _ = _)
          | (fail_if_success refine awL ?_
             refine evT [(32, fun _ => some (.tup [intsP (a :: b :: c :: l), .bool true]))] ?_
             repeat1' dsimp only [c33, wordsP, intsP, go_sem]
             first
             | refine aw4 ?_ ?_ rfl ?_
             | apply aw3
             | apply aw2
             | (refine awB (fun hc => ?_) fun hc => ?_ <;> first | (cases hc; done) | (exfalso; simp [hn] at hc <;> omega) | (try simp only [bn] at hc; try contradiction))
             | skip))
        all_goals (rw [← hr]; rfl)
end
section
open Sch
def c34 : ACode := (⟨_, by conv => (lhs; reduce; try simp only [lt1, Int.cast_ofNat_Int, Int.reduceNegSucc, UInt8.reduceOfNat])⟩ : {x // codeOf Tryz.prog 34 (fun _ => false) = some x}).1
theorem fn34 : fnOf Tryz.prog 34 (fun _ => false) = some (c34, [.cell 2 10 true, .t 3], 164, true) := by kernel_rfl
theorem PureOK.via {C : Ctx} {f : FuncId} {ps : List PV} {p q : PV} (d : Nat) (h : PureOK C f ps p) (hc : canon d p = q) : PureOK C f ps q := hc ▸ h.canon_res d
def rawStep (t k r o s a f : Int) (q sv v : PV) : PV := .agg [.int .i64 t, .int .i64 k, .int .i64 r, .int .i64 o, .int .i64 s, .int .i64 a, .int .i64 f, q, sv, v]
def refQ (rest : List (List UInt8)) (i : Nat) : Query := (idxW queryWords (rest.getD (1 + 2 * i) []), (refNumP (rest.getD (2 + 2 * i) [])).1)
def refQok (rest : List (List UInt8)) (i : Nat) : Bool := (refNumP (rest.getD (2 + 2 * i) [])).2 && decide (0 ≤ idxW queryWords (rest.getD (1 + 2 * i) []))
def refQs (rest : List (List UInt8)) (n : Nat) : List Query := (List.range n).map (refQ rest)
def refQsOk (rest : List (List UInt8)) (n : Nat) : Bool := (List.range n).all (refQok rest)
def refKind (k t r : Int) (l : List Int) : Step × Bool :=
 let y : Step := { zeroStep with tick := t, kind := k, replica := r }
 if k = 0 then match l with
  | [a, b] => ({ y with session := a, action := b }, true)
  | _ => (zeroStep, false)
 else if k = 2 ∨ k = 3 then match l with
  | [a] => ({ y with other := a }, true)
  | _ => (zeroStep, false)
 else if k = 4 then match l with
  | a :: l => ({ y with after := a, survive := l }, true)
  | _ => (zeroStep, false)
 else if k = 5 then (y, l.isEmpty)
 else if k = 6 then ({ y with voters := l }, true)
 else (zeroStep, false)
def refStepP : List (List UInt8) → Step × Bool
 | w0 :: w1 :: w2 :: rest => match refNumsOf [w0, w2] with
  | some [t, r] =>
   if idxW kindWords w1 = 1 then
    if rest.length % 2 = 0 then (zeroStep, false) else
    if refQsOk rest ((rest.length - 1) / 2) then match refNumsOf (rest.take 1) with
     | some [s] => ({ zeroStep with tick := t, kind := 1, replica := r, session := s, queries := refQs rest ((rest.length - 1) / 2) }, true)
     | _ => (zeroStep, false)
    else (zeroStep, false)
   else if idxW kindWords w1 < 0 then (zeroStep, false) else
   match refNumsOf rest with
   | some l => refKind (idxW kindWords w1) t r l
   | none => (zeroStep, false)
  | _ => (zeroStep, false)
 | _ => (zeroStep, false)
theorem idxW_range (l : List (List UInt8)) (w : List UInt8) : -1 ≤ idxW l w ∧ idxW l w < l.length := by
 unfold idxW
 cases h : l.findIdx? (fun x => w == x) with
 | none => simp; omega
 | some i =>
  rw [List.findIdx?_eq_some_iff_getElem] at h
  have := h.1
  simp
  omega
theorem kind_range (w : List UInt8) : idxW kindWords w = -1 ∨ idxW kindWords w = 0 ∨ idxW kindWords w = 1 ∨ idxW kindWords w = 2 ∨ idxW kindWords w = 3 ∨ idxW kindWords w = 4 ∨ idxW kindWords w = 5 ∨ idxW kindWords w = 6 := by
 have h := idxW_range kindWords w
 have : kindWords.length = 7 := rfl
 omega
def stepTup (q : Step × Bool) : PV := .tup [stepP q.1, .bool q.2]
set_option maxHeartbeats 4000000 in
theorem refStep_short (ws : List (List UInt8)) (h : ws.length < 3) : PureOK ctx 34 [wordsP ws] (stepTup (refStepP ws)) := by
  have hr : stepTup (refStepP ws) = stepTup (zeroStep, false) := by
    match ws, h with
    | [], _ => rfl
    | [a], _ => rfl
    | [a, b], _ => rfl
  rw [hr]
  refine PureOK.via 3 (p := .tup [rawStep 0 0 0 0 0 0 0 .nilsl .nilsl .nilsl, .bool false]) ?_ rfl
  refine pure_body' (C := ctx) (Fn.of fn34 rfl) rfl ?_
  unfold c34
  repeat' (first
    | ((with_reducible first | show VCs _ | show All _); simp [vb] <;> omega)
    | exact (rfl : some _ = _)
    | (fail_if_success refine awL ?_
       refine evA ?_
       repeat1' dsimp only [c34, wordsP, go_sem]
       first
       | refine aw4 ?_ ?_ rfl ?_
       | apply aw3
       | apply aw2
       | (refine awB (fun hc => ?_) fun hc => ?_ <;> first | (cases hc; done) | (exfalso; simp at hc <;> omega) | (try simp only [bn] at hc; try contradiction))
       | skip))
set_option maxHeartbeats 4000000 in
theorem refStep_nums (w0 w1 w2 : List UInt8) (rest : List (List UInt8)) (hm : rest.length ≤ 1000000) (hl : ∀ w ∈ w0 :: w1 :: w2 :: rest, w.length ≤ 1000000000) (hq : refNumsOf [w0, w2] = none) :
    PureOK ctx 34 [wordsP (w0 :: w1 :: w2 :: rest)] (.tup [rawStep 0 0 0 0 0 0 0 .nilsl .nilsl .nilsl, .bool false]) := by
  have hf := findI_ok kindWords w1 (by decide)
  have hws := refWords_ok
  have hn := refNumbers_ok [w0, w2] (by simp) (fun w hw => hl w (by simp at hw ⊢; rcases hw with h | h <;> simp [h]))
  have hn2 := refNumbers_ok rest hm (fun w hw => hl w (by simp [hw]))
  have hs51 : AV.pv (PV.sl (((rest.length + 1 + 1 + 1 : Nat) : Int) - 3).toNat ((rest.map PV.str).take ((((rest.length + 1 + 1 + 1 : Nat) : Int) - 3).toNat * 1))) = AV.pv (wordsP rest) := by
    rw [show (((rest.length + 1 + 1 + 1 : Nat) : Int) - 3).toNat = rest.length by omega, List.take_of_length_le (by simp)]
    rfl
  generalize idxW kindWords w1 = K at *
  rw [hq] at hn
  refine pure_body' (C := ctx) (Fn.of fn34 rfl) rfl ?_
  unfold c34
  repeat' (first
    | ((with_reducible first | show VCs _ | show All _); (try dsimp only [go_sem]); first | (simp [vb, hws, hf, hn, hn2] <;> omega) | (simp only [vb, and_true, true_implies]; (repeat' (first | assumption | (with_reducible apply And.intro) | intro _)) <;> first | omega | (simp only [ab, hws, hf, hn, hn2]; done) | (simp [hws, hf, hn, hn2] <;> omega)))
    | exact (rfl : some _ = _)
    | (fail_if_success refine awL ?_
       refine evH [(17, { val := some (.pv (wordsP kindWords)) }), (51, { val := some (.pv (wordsP rest)) }), (21, { val := some (.pv (.int .i64 K)) }), (31, { val := some (.pv (.tup [.sl 0 [], .bool false])) })] ?_
       repeat1' dsimp only [c34, wordsP, intsP, kindWords, go_sem]
       first
       | refine aw4 ?_ ?_ rfl ?_
       | apply aw3
       | apply aw2
       | (refine awB (fun hc => ?_) fun hc => ?_ <;> first | (cases hc; done) | (exfalso; simp [hws, hf, hn, hn2] at hc <;> omega) | (try simp only [bn] at hc; try contradiction))
       | skip))
set_option maxHeartbeats 4000000 in
theorem refStep_kind (w0 w1 w2 : List UInt8) (rest : List (List UInt8)) (hm : rest.length ≤ 1000000) (hl : ∀ w ∈ w0 :: w1 :: w2 :: rest, w.length ≤ 1000000000) (t r : Int) (hq : refNumsOf [w0, w2] = some [t, r]) (hk : idxW kindWords w1 = -1) :
    PureOK ctx 34 [wordsP (w0 :: w1 :: w2 :: rest)] (.tup [rawStep 0 0 0 0 0 0 0 .nilsl .nilsl .nilsl, .bool false]) := by
  have hf := findI_ok kindWords w1 (by decide)
  have hws := refWords_ok
  have hn := refNumbers_ok [w0, w2] (by simp) (fun w hw => hl w (by simp at hw ⊢; rcases hw with h | h <;> simp [h]))
  have hn2 := refNumbers_ok rest hm (fun w hw => hl w (by simp [hw]))
  have hs51 : AV.pv (PV.sl (((rest.length + 1 + 1 + 1 : Nat) : Int) - 3).toNat ((rest.map PV.str).take ((((rest.length + 1 + 1 + 1 : Nat) : Int) - 3).toNat * 1))) = AV.pv (wordsP rest) := by
    rw [show (((rest.length + 1 + 1 + 1 : Nat) : Int) - 3).toNat = rest.length by omega, List.take_of_length_le (by simp)]
    rfl
  rw [hk] at hf
  rw [hq] at hn
  refine pure_body' (C := ctx) (Fn.of fn34 rfl) rfl ?_
  unfold c34
  repeat' (first
    | ((with_reducible first | show VCs _ | show All _); (try dsimp only [go_sem]); first | (simp [vb, hws, hf, hn, hn2] <;> omega) | (simp only [vb, and_true, true_implies]; (repeat' (first | assumption | (with_reducible apply And.intro) | intro _)) <;> first | omega | (simp only [ab, hws, hf, hn, hn2]; done) | (simp [hws, hf, hn, hn2] <;> omega)))
    | exact (rfl : some _ = _)
    | (fail_if_success refine awL ?_
       refine evH [(17, { val := some (.pv (wordsP kindWords)) }), (51, { val := some (.pv (wordsP rest)) }), (21, { val := some (.pv (.int .i64 (-1))) }), (31, { val := some (.pv (.tup [intsP [t, r], .bool true])) })] ?_
       repeat1' dsimp only [c34, wordsP, intsP, kindWords, go_sem]
       first
       | refine aw4 ?_ ?_ rfl ?_
       | apply aw3
       | apply aw2
       | (refine awB (fun hc => ?_) fun hc => ?_ <;> first | (cases hc; done) | (exfalso; simp [hws, hf, hn, hn2] at hc <;> omega) | (try simp only [bn] at hc; try contradiction))
       | skip))
set_option maxHeartbeats 4000000 in
theorem refStep_0n (w0 w1 w2 : List UInt8) (rest : List (List UInt8)) (hm : rest.length ≤ 1000000) (hl : ∀ w ∈ w0 :: w1 :: w2 :: rest, w.length ≤ 1000000000) (t r : Int) (hq : refNumsOf [w0, w2] = some [t, r]) (hk : idxW kindWords w1 = 0) (hq2 : refNumsOf rest = none) :
    PureOK ctx 34 [wordsP (w0 :: w1 :: w2 :: rest)] (.tup [rawStep 0 0 0 0 0 0 0 .nilsl .nilsl .nilsl, .bool false]) := by
  have hf := findI_ok kindWords w1 (by decide)
  have hws := refWords_ok
  have hn := refNumbers_ok [w0, w2] (by simp) (fun w hw => hl w (by simp at hw ⊢; rcases hw with h | h <;> simp [h]))
  have hn2 := refNumbers_ok rest hm (fun w hw => hl w (by simp [hw]))
  have hs51 : AV.pv (PV.sl (((rest.length + 1 + 1 + 1 : Nat) : Int) - 3).toNat ((rest.map PV.str).take ((((rest.length + 1 + 1 + 1 : Nat) : Int) - 3).toNat * 1))) = AV.pv (wordsP rest) := by
    rw [show (((rest.length + 1 + 1 + 1 : Nat) : Int) - 3).toNat = rest.length by omega, List.take_of_length_le (by simp)]
    rfl
  rw [hk] at hf
  rw [hq] at hn
  rw [hq2] at hn2
  refine pure_body' (C := ctx) (Fn.of fn34 rfl) rfl ?_
  unfold c34
  repeat' (first
    | ((with_reducible first | show VCs _ | show All _); (try dsimp only [go_sem]); first | (simp [vb, hws, hf, hn, hn2] <;> omega) | (simp only [vb, and_true, true_implies]; (repeat' (first | assumption | (with_reducible apply And.intro) | intro _)) <;> first | omega | (simp only [ab, hws, hf, hn, hn2]; done) | (simp [hws, hf, hn, hn2] <;> omega)))
    | exact (rfl : some _ = _)
    | (fail_if_success refine awL ?_
       refine evH [(17, { val := some (.pv (wordsP kindWords)) }), (51, { val := some (.pv (wordsP rest)) }), (21, { val := some (.pv (.int .i64 0)) }), (31, { val := some (.pv (.tup [intsP [t, r], .bool true])) }), (101, { val := some (.pv (.tup [.sl 0 [], .bool false])) })] ?_
       repeat1' dsimp only [c34, wordsP, intsP, kindWords, go_sem]
       first
       | refine aw4 ?_ ?_ rfl ?_
       | apply aw3
       | apply aw2
       | (refine awB (fun hc => ?_) fun hc => ?_ <;> first | (cases hc; done) | (exfalso; simp [hws, hf, hn, hn2] at hc <;> omega) | (try simp only [bn] at hc; try contradiction))
       | skip))
set_option maxHeartbeats 4000000 in
theorem refStep_2n (w0 w1 w2 : List UInt8) (rest : List (List UInt8)) (hm : rest.length ≤ 1000000) (hl : ∀ w ∈ w0 :: w1 :: w2 :: rest, w.length ≤ 1000000000) (t r : Int) (hq : refNumsOf [w0, w2] = some [t, r]) (hk : idxW kindWords w1 = 2) (hq2 : refNumsOf rest = none) :
    PureOK ctx 34 [wordsP (w0 :: w1 :: w2 :: rest)] (.tup [rawStep 0 0 0 0 0 0 0 .nilsl .nilsl .nilsl, .bool false]) := by
  have hf := findI_ok kindWords w1 (by decide)
  have hws := refWords_ok
  have hn := refNumbers_ok [w0, w2] (by simp) (fun w hw => hl w (by simp at hw ⊢; rcases hw with h | h <;> simp [h]))
  have hn2 := refNumbers_ok rest hm (fun w hw => hl w (by simp [hw]))
  have hs51 : AV.pv (PV.sl (((rest.length + 1 + 1 + 1 : Nat) : Int) - 3).toNat ((rest.map PV.str).take ((((rest.length + 1 + 1 + 1 : Nat) : Int) - 3).toNat * 1))) = AV.pv (wordsP rest) := by
    rw [show (((rest.length + 1 + 1 + 1 : Nat) : Int) - 3).toNat = rest.length by omega, List.take_of_length_le (by simp)]
    rfl
  rw [hk] at hf
  rw [hq] at hn
  rw [hq2] at hn2
  refine pure_body' (C := ctx) (Fn.of fn34 rfl) rfl ?_
  unfold c34
  repeat' (first
    | ((with_reducible first | show VCs _ | show All _); (try dsimp only [go_sem]); first | (simp [vb, hws, hf, hn, hn2] <;> omega) | (simp only [vb, and_true, true_implies]; (repeat' (first | assumption | (with_reducible apply And.intro) | intro _)) <;> first | omega | (simp only [ab, hws, hf, hn, hn2]; done) | (simp [hws, hf, hn, hn2] <;> omega)))
    | exact (rfl : some _ = _)
    | (fail_if_success refine awL ?_
       refine evH [(17, { val := some (.pv (wordsP kindWords)) }), (51, { val := some (.pv (wordsP rest)) }), (21, { val := some (.pv (.int .i64 2)) }), (31, { val := some (.pv (.tup [intsP [t, r], .bool true])) }), (101, { val := some (.pv (.tup [.sl 0 [], .bool false])) })] ?_
       repeat1' dsimp only [c34, wordsP, intsP, kindWords, go_sem]
       first
       | refine aw4 ?_ ?_ rfl ?_
       | apply aw3
       | apply aw2
       | (refine awB (fun hc => ?_) fun hc => ?_ <;> first | (cases hc; done) | (exfalso; simp [hws, hf, hn, hn2] at hc <;> omega) | (try simp only [bn] at hc; try contradiction))
       | skip))
set_option maxHeartbeats 4000000 in
theorem refStep_3n (w0 w1 w2 : List UInt8) (rest : List (List UInt8)) (hm : rest.length ≤ 1000000) (hl : ∀ w ∈ w0 :: w1 :: w2 :: rest, w.length ≤ 1000000000) (t r : Int) (hq : refNumsOf [w0, w2] = some [t, r]) (hk : idxW kindWords w1 = 3) (hq2 : refNumsOf rest = none) :
    PureOK ctx 34 [wordsP (w0 :: w1 :: w2 :: rest)] (.tup [rawStep 0 0 0 0 0 0 0 .nilsl .nilsl .nilsl, .bool false]) := by
  have hf := findI_ok kindWords w1 (by decide)
  have hws := refWords_ok
  have hn := refNumbers_ok [w0, w2] (by simp) (fun w hw => hl w (by simp at hw ⊢; rcases hw with h | h <;> simp [h]))
  have hn2 := refNumbers_ok rest hm (fun w hw => hl w (by simp [hw]))
  have hs51 : AV.pv (PV.sl (((rest.length + 1 + 1 + 1 : Nat) : Int) - 3).toNat ((rest.map PV.str).take ((((rest.length + 1 + 1 + 1 : Nat) : Int) - 3).toNat * 1))) = AV.pv (wordsP rest) := by
    rw [show (((rest.length + 1 + 1 + 1 : Nat) : Int) - 3).toNat = rest.length by omega, List.take_of_length_le (by simp)]
    rfl
  rw [hk] at hf
  rw [hq] at hn
  rw [hq2] at hn2
  refine pure_body' (C := ctx) (Fn.of fn34 rfl) rfl ?_
  unfold c34
  repeat' (first
    | ((with_reducible first | show VCs _ | show All _); (try dsimp only [go_sem]); first | (simp [vb, hws, hf, hn, hn2] <;> omega) | (simp only [vb, and_true, true_implies]; (repeat' (first | assumption | (with_reducible apply And.intro) | intro _)) <;> first | omega | (simp only [ab, hws, hf, hn, hn2]; done) | (simp [hws, hf, hn, hn2] <;> omega)))
    | exact (rfl : some _ = _)
    | (fail_if_success refine awL ?_
       refine evH [(17, { val := some (.pv (wordsP kindWords)) }), (51, { val := some (.pv (wordsP rest)) }), (21, { val := some (.pv (.int .i64 3)) }), (31, { val := some (.pv (.tup [intsP [t, r], .bool true])) }), (101, { val := some (.pv (.tup [.sl 0 [], .bool false])) })] ?_
       repeat1' dsimp only [c34, wordsP, intsP, kindWords, go_sem]
       first
       | refine aw4 ?_ ?_ rfl ?_
       | apply aw3
       | apply aw2
       | (refine awB (fun hc => ?_) fun hc => ?_ <;> first | (cases hc; done) | (exfalso; simp [hws, hf, hn, hn2] at hc <;> omega) | (try simp only [bn] at hc; try contradiction))
       | skip))
set_option maxHeartbeats 4000000 in
theorem refStep_4n (w0 w1 w2 : List UInt8) (rest : List (List UInt8)) (hm : rest.length ≤ 1000000) (hl : ∀ w ∈ w0 :: w1 :: w2 :: rest, w.length ≤ 1000000000) (t r : Int) (hq : refNumsOf [w0, w2] = some [t, r]) (hk : idxW kindWords w1 = 4) (hq2 : refNumsOf rest = none) :
    PureOK ctx 34 [wordsP (w0 :: w1 :: w2 :: rest)] (.tup [rawStep 0 0 0 0 0 0 0 .nilsl .nilsl .nilsl, .bool false]) := by
  have hf := findI_ok kindWords w1 (by decide)
  have hws := refWords_ok
  have hn := refNumbers_ok [w0, w2] (by simp) (fun w hw => hl w (by simp at hw ⊢; rcases hw with h | h <;> simp [h]))
  have hn2 := refNumbers_ok rest hm (fun w hw => hl w (by simp [hw]))
  have hs51 : AV.pv (PV.sl (((rest.length + 1 + 1 + 1 : Nat) : Int) - 3).toNat ((rest.map PV.str).take ((((rest.length + 1 + 1 + 1 : Nat) : Int) - 3).toNat * 1))) = AV.pv (wordsP rest) := by
    rw [show (((rest.length + 1 + 1 + 1 : Nat) : Int) - 3).toNat = rest.length by omega, List.take_of_length_le (by simp)]
    rfl
  rw [hk] at hf
  rw [hq] at hn
  rw [hq2] at hn2
  refine pure_body' (C := ctx) (Fn.of fn34 rfl) rfl ?_
  unfold c34
  repeat' (first
    | ((with_reducible first | show VCs _ | show All _); (try dsimp only [go_sem]); first | (simp [vb, hws, hf, hn, hn2] <;> omega) | (simp only [vb, and_true, true_implies]; (repeat' (first | assumption | (with_reducible apply And.intro) | intro _)) <;> first | omega | (simp only [ab, hws, hf, hn, hn2]; done) | (simp [hws, hf, hn, hn2] <;> omega)))
    | exact (rfl : some _ = _)
    | (fail_if_success refine awL ?_
       refine evH [(17, { val := some (.pv (wordsP kindWords)) }), (51, { val := some (.pv (wordsP rest)) }), (21, { val := some (.pv (.int .i64 4)) }), (31, { val := some (.pv (.tup [intsP [t, r], .bool true])) }), (101, { val := some (.pv (.tup [.sl 0 [], .bool false])) })] ?_
       repeat1' dsimp only [c34, wordsP, intsP, kindWords, go_sem]
       first
       | refine aw4 ?_ ?_ rfl ?_
       | apply aw3
       | apply aw2
       | (refine awB (fun hc => ?_) fun hc => ?_ <;> first | (cases hc; done) | (exfalso; simp [hws, hf, hn, hn2] at hc <;> omega) | (try simp only [bn] at hc; try contradiction))
       | skip))
set_option maxHeartbeats 4000000 in
theorem refStep_5n (w0 w1 w2 : List UInt8) (rest : List (List UInt8)) (hm : rest.length ≤ 1000000) (hl : ∀ w ∈ w0 :: w1 :: w2 :: rest, w.length ≤ 1000000000) (t r : Int) (hq : refNumsOf [w0, w2] = some [t, r]) (hk : idxW kindWords w1 = 5) (hq2 : refNumsOf rest = none) :
    PureOK ctx 34 [wordsP (w0 :: w1 :: w2 :: rest)] (.tup [rawStep 0 0 0 0 0 0 0 .nilsl .nilsl .nilsl, .bool false]) := by
  have hf := findI_ok kindWords w1 (by decide)
  have hws := refWords_ok
  have hn := refNumbers_ok [w0, w2] (by simp) (fun w hw => hl w (by simp at hw ⊢; rcases hw with h | h <;> simp [h]))
  have hn2 := refNumbers_ok rest hm (fun w hw => hl w (by simp [hw]))
  have hs51 : AV.pv (PV.sl (((rest.length + 1 + 1 + 1 : Nat) : Int) - 3).toNat ((rest.map PV.str).take ((((rest.length + 1 + 1 + 1 : Nat) : Int) - 3).toNat * 1))) = AV.pv (wordsP rest) := by
    rw [show (((rest.length + 1 + 1 + 1 : Nat) : Int) - 3).toNat = rest.length by omega, List.take_of_length_le (by simp)]
    rfl
  rw [hk] at hf
  rw [hq] at hn
  rw [hq2] at hn2
  refine pure_body' (C := ctx) (Fn.of fn34 rfl) rfl ?_
  unfold c34
  repeat' (first
    | ((with_reducible first | show VCs _ | show All _); (try dsimp only [go_sem]); first | (simp [vb, hws, hf, hn, hn2] <;> omega) | (simp only [vb, and_true, true_implies]; (repeat' (first | assumption | (with_reducible apply And.intro) | intro _)) <;> first | omega | (simp only [ab, hws, hf, hn, hn2]; done) | (simp [hws, hf, hn, hn2] <;> omega)))
    | exact (rfl : some _ = _)
    | (fail_if_success refine awL ?_
       refine evH [(17, { val := some (.pv (wordsP kindWords)) }), (51, { val := some (.pv (wordsP rest)) }), (21, { val := some (.pv (.int .i64 5)) }), (31, { val := some (.pv (.tup [intsP [t, r], .bool true])) }), (101, { val := some (.pv (.tup [.sl 0 [], .bool false])) })] ?_
       repeat1' dsimp only [c34, wordsP, intsP, kindWords, go_sem]
       first
       | refine aw4 ?_ ?_ rfl ?_
       | apply aw3
       | apply aw2
       | (refine awB (fun hc => ?_) fun hc => ?_ <;> first | (cases hc; done) | (exfalso; simp [hws, hf, hn, hn2] at hc <;> omega) | (try simp only [bn] at hc; try contradiction))
       | skip))
set_option maxHeartbeats 4000000 in
theorem refStep_6n (w0 w1 w2 : List UInt8) (rest : List (List UInt8)) (hm : rest.length ≤ 1000000) (hl : ∀ w ∈ w0 :: w1 :: w2 :: rest, w.length ≤ 1000000000) (t r : Int) (hq : refNumsOf [w0, w2] = some [t, r]) (hk : idxW kindWords w1 = 6) (hq2 : refNumsOf rest = none) :
    PureOK ctx 34 [wordsP (w0 :: w1 :: w2 :: rest)] (.tup [rawStep 0 0 0 0 0 0 0 .nilsl .nilsl .nilsl, .bool false]) := by
  have hf := findI_ok kindWords w1 (by decide)
  have hws := refWords_ok
  have hn := refNumbers_ok [w0, w2] (by simp) (fun w hw => hl w (by simp at hw ⊢; rcases hw with h | h <;> simp [h]))
  have hn2 := refNumbers_ok rest hm (fun w hw => hl w (by simp [hw]))
  have hs51 : AV.pv (PV.sl (((rest.length + 1 + 1 + 1 : Nat) : Int) - 3).toNat ((rest.map PV.str).take ((((rest.length + 1 + 1 + 1 : Nat) : Int) - 3).toNat * 1))) = AV.pv (wordsP rest) := by
    rw [show (((rest.length + 1 + 1 + 1 : Nat) : Int) - 3).toNat = rest.length by omega, List.take_of_length_le (by simp)]
    rfl
  rw [hk] at hf
  rw [hq] at hn
  rw [hq2] at hn2
  refine pure_body' (C := ctx) (Fn.of fn34 rfl) rfl ?_
  unfold c34
  repeat' (first
    | ((with_reducible first | show VCs _ | show All _); (try dsimp only [go_sem]); first | (simp [vb, hws, hf, hn, hn2] <;> omega) | (simp only [vb, and_true, true_implies]; (repeat' (first | assumption | (with_reducible apply And.intro) | intro _)) <;> first | omega | (simp only [ab, hws, hf, hn, hn2]; done) | (simp [hws, hf, hn, hn2] <;> omega)))
    | exact (rfl : some _ = _)
    | (fail_if_success refine awL ?_
       refine evH [(17, { val := some (.pv (wordsP kindWords)) }), (51, { val := some (.pv (wordsP rest)) }), (21, { val := some (.pv (.int .i64 6)) }), (31, { val := some (.pv (.tup [intsP [t, r], .bool true])) }), (101, { val := some (.pv (.tup [.sl 0 [], .bool false])) })] ?_
       repeat1' dsimp only [c34, wordsP, intsP, kindWords, go_sem]
       first
       | refine aw4 ?_ ?_ rfl ?_
       | apply aw3
       | apply aw2
       | (refine awB (fun hc => ?_) fun hc => ?_ <;> first | (cases hc; done) | (exfalso; simp [hws, hf, hn, hn2] at hc <;> omega) | (try simp only [bn] at hc; try contradiction))
       | skip))
set_option maxHeartbeats 4000000 in
theorem refStep_0a (w0 w1 w2 : List UInt8) (rest : List (List UInt8)) (hm : rest.length ≤ 1000000) (hl : ∀ w ∈ w0 :: w1 :: w2 :: rest, w.length ≤ 1000000000) (t r : Int) (hq : refNumsOf [w0, w2] = some [t, r]) (hk : idxW kindWords w1 = 0) (a b : Int) (hq2 : refNumsOf rest = some [a, b]) :
    PureOK ctx 34 [wordsP (w0 :: w1 :: w2 :: rest)] (.tup [rawStep t 0 r 0 a b 0 .nilsl .nilsl .nilsl, .bool true]) := by
  have hf := findI_ok kindWords w1 (by decide)
  have hws := refWords_ok
  have hn := refNumbers_ok [w0, w2] (by simp) (fun w hw => hl w (by simp at hw ⊢; rcases hw with h | h <;> simp [h]))
  have hn2 := refNumbers_ok rest hm (fun w hw => hl w (by simp [hw]))
  have hs51 : AV.pv (PV.sl (((rest.length + 1 + 1 + 1 : Nat) : Int) - 3).toNat ((rest.map PV.str).take ((((rest.length + 1 + 1 + 1 : Nat) : Int) - 3).toNat * 1))) = AV.pv (wordsP rest) := by
    rw [show (((rest.length + 1 + 1 + 1 : Nat) : Int) - 3).toNat = rest.length by omega, List.take_of_length_le (by simp)]
    rfl
  rw [hk] at hf
  rw [hq] at hn
  rw [hq2] at hn2
  refine pure_body' (C := ctx) (Fn.of fn34 rfl) rfl ?_
  unfold c34
  repeat' (first
    | ((with_reducible first | show VCs _ | show All _); (try dsimp only [go_sem]); first | (simp [vb, hws, hf, hn, hn2] <;> omega) | (simp only [vb, and_true, true_implies]; (repeat' (first | assumption | (with_reducible apply And.intro) | intro _)) <;> first | omega | (simp only [ab, hws, hf, hn, hn2]; done) | (simp [hws, hf, hn, hn2] <;> omega)))
    | exact (rfl : some _ = _)
    | (fail_if_success refine awL ?_
       refine evH [(17, { val := some (.pv (wordsP kindWords)) }), (51, { val := some (.pv (wordsP rest)) }), (21, { val := some (.pv (.int .i64 0)) }), (31, { val := some (.pv (.tup [intsP [t, r], .bool true])) }), (101, { val := some (.pv (.tup [intsP [a, b], .bool true])) })] ?_
       repeat1' dsimp only [c34, wordsP, intsP, kindWords, go_sem]
       first
       | refine aw4 ?_ ?_ rfl ?_
       | apply aw3
       | apply aw2
       | (refine awB (fun hc => ?_) fun hc => ?_ <;> first | (cases hc; done) | (exfalso; simp [hws, hf, hn, hn2] at hc <;> omega) | (try simp only [bn] at hc; try contradiction))
       | skip))
set_option maxHeartbeats 4000000 in
theorem refStep_0b (w0 w1 w2 : List UInt8) (rest : List (List UInt8)) (hm : rest.length ≤ 1000000) (hl : ∀ w ∈ w0 :: w1 :: w2 :: rest, w.length ≤ 1000000000) (t r : Int) (hq : refNumsOf [w0, w2] = some [t, r]) (hk : idxW kindWords w1 = 0) (l : List Int) (hlen : (l.length : Int) ≠ 2) (hq2 : refNumsOf rest = some l) :
    PureOK ctx 34 [wordsP (w0 :: w1 :: w2 :: rest)] (.tup [rawStep 0 0 0 0 0 0 0 .nilsl .nilsl .nilsl, .bool false]) := by
  have hf := findI_ok kindWords w1 (by decide)
  have hws := refWords_ok
  have hn := refNumbers_ok [w0, w2] (by simp) (fun w hw => hl w (by simp at hw ⊢; rcases hw with h | h <;> simp [h]))
  have hn2 := refNumbers_ok rest hm (fun w hw => hl w (by simp [hw]))
  have hs51 : AV.pv (PV.sl (((rest.length + 1 + 1 + 1 : Nat) : Int) - 3).toNat ((rest.map PV.str).take ((((rest.length + 1 + 1 + 1 : Nat) : Int) - 3).toNat * 1))) = AV.pv (wordsP rest) := by
    rw [show (((rest.length + 1 + 1 + 1 : Nat) : Int) - 3).toNat = rest.length by omega, List.take_of_length_le (by simp)]
    rfl
  rw [hk] at hf
  rw [hq] at hn
  rw [hq2] at hn2
  refine pure_body' (C := ctx) (Fn.of fn34 rfl) rfl ?_
  unfold c34
  repeat' (first
    | ((with_reducible first | show VCs _ | show All _); (try dsimp only [go_sem]); first | (simp [vb, hws, hf, hn, hn2, hlen] <;> omega) | (simp only [vb, and_true, true_implies]; (repeat' (first | assumption | (with_reducible apply And.intro) | intro _)) <;> first | omega | (simp only [ab, hws, hf, hn, hn2, hlen]; done) | (simp [hws, hf, hn, hn2, hlen] <;> omega)))
    | exact (rfl : some _ = _)
    | (fail_if_success refine awL ?_
       refine evH [(17, { val := some (.pv (wordsP kindWords)) }), (51, { val := some (.pv (wordsP rest)) }), (21, { val := some (.pv (.int .i64 0)) }), (31, { val := some (.pv (.tup [intsP [t, r], .bool true])) }), (101, { val := some (.pv (.tup [intsP l, .bool true])) })] ?_
       repeat1' dsimp only [c34, wordsP, intsP, kindWords, go_sem]
       first
       | refine aw4 ?_ ?_ rfl ?_
       | apply aw3
       | apply aw2
       | (refine awB (fun hc => ?_) fun hc => ?_ <;> first | (cases hc; done) | (exfalso; simp [hws, hf, hn, hn2, hlen] at hc <;> omega) | (try simp only [bn] at hc; try contradiction))
       | skip))
set_option maxHeartbeats 4000000 in
theorem refStep_2a (w0 w1 w2 : List UInt8) (rest : List (List UInt8)) (hm : rest.length ≤ 1000000) (hl : ∀ w ∈ w0 :: w1 :: w2 :: rest, w.length ≤ 1000000000) (t r : Int) (hq : refNumsOf [w0, w2] = some [t, r]) (hk : idxW kindWords w1 = 2) (a : Int) (hq2 : refNumsOf rest = some [a]) :
    PureOK ctx 34 [wordsP (w0 :: w1 :: w2 :: rest)] (.tup [rawStep t 2 r a 0 0 0 .nilsl .nilsl .nilsl, .bool true]) := by
  have hf := findI_ok kindWords w1 (by decide)
  have hws := refWords_ok
  have hn := refNumbers_ok [w0, w2] (by simp) (fun w hw => hl w (by simp at hw ⊢; rcases hw with h | h <;> simp [h]))
  have hn2 := refNumbers_ok rest hm (fun w hw => hl w (by simp [hw]))
  have hs51 : AV.pv (PV.sl (((rest.length + 1 + 1 + 1 : Nat) : Int) - 3).toNat ((rest.map PV.str).take ((((rest.length + 1 + 1 + 1 : Nat) : Int) - 3).toNat * 1))) = AV.pv (wordsP rest) := by
    rw [show (((rest.length + 1 + 1 + 1 : Nat) : Int) - 3).toNat = rest.length by omega, List.take_of_length_le (by simp)]
    rfl
  rw [hk] at hf
  rw [hq] at hn
  rw [hq2] at hn2
  refine pure_body' (C := ctx) (Fn.of fn34 rfl) rfl ?_
  unfold c34
  repeat' (first
    | ((with_reducible first | show VCs _ | show All _); (try dsimp only [go_sem]); first | (simp [vb, hws, hf, hn, hn2] <;> omega) | (simp only [vb, and_true, true_implies]; (repeat' (first | assumption | (with_reducible apply And.intro) | intro _)) <;> first | omega | (simp only [ab, hws, hf, hn, hn2]; done) | (simp [hws, hf, hn, hn2] <;> omega)))
    | exact (rfl : some _ = _)
    | (fail_if_success refine awL ?_
       refine evH [(17, { val := some (.pv (wordsP kindWords)) }), (51, { val := some (.pv (wordsP rest)) }), (21, { val := some (.pv (.int .i64 2)) }), (31, { val := some (.pv (.tup [intsP [t, r], .bool true])) }), (101, { val := some (.pv (.tup [intsP [a], .bool true])) })] ?_
       repeat1' dsimp only [c34, wordsP, intsP, kindWords, go_sem]
       first
       | refine aw4 ?_ ?_ rfl ?_
       | apply aw3
       | apply aw2
       | (refine awB (fun hc => ?_) fun hc => ?_ <;> first | (cases hc; done) | (exfalso; simp [hws, hf, hn, hn2] at hc <;> omega) | (try simp only [bn] at hc; try contradiction))
       | skip))
set_option maxHeartbeats 4000000 in
theorem refStep_2b (w0 w1 w2 : List UInt8) (rest : List (List UInt8)) (hm : rest.length ≤ 1000000) (hl : ∀ w ∈ w0 :: w1 :: w2 :: rest, w.length ≤ 1000000000) (t r : Int) (hq : refNumsOf [w0, w2] = some [t, r]) (hk : idxW kindWords w1 = 2) (l : List Int) (hlen : (l.length : Int) ≠ 1) (hq2 : refNumsOf rest = some l) :
    PureOK ctx 34 [wordsP (w0 :: w1 :: w2 :: rest)] (.tup [rawStep 0 0 0 0 0 0 0 .nilsl .nilsl .nilsl, .bool false]) := by
  have hf := findI_ok kindWords w1 (by decide)
  have hws := refWords_ok
  have hn := refNumbers_ok [w0, w2] (by simp) (fun w hw => hl w (by simp at hw ⊢; rcases hw with h | h <;> simp [h]))
  have hn2 := refNumbers_ok rest hm (fun w hw => hl w (by simp [hw]))
  have hs51 : AV.pv (PV.sl (((rest.length + 1 + 1 + 1 : Nat) : Int) - 3).toNat ((rest.map PV.str).take ((((rest.length + 1 + 1 + 1 : Nat) : Int) - 3).toNat * 1))) = AV.pv (wordsP rest) := by
    rw [show (((rest.length + 1 + 1 + 1 : Nat) : Int) - 3).toNat = rest.length by omega, List.take_of_length_le (by simp)]
    rfl
  rw [hk] at hf
  rw [hq] at hn
  rw [hq2] at hn2
  refine pure_body' (C := ctx) (Fn.of fn34 rfl) rfl ?_
  unfold c34
  repeat' (first
    | ((with_reducible first | show VCs _ | show All _); (try dsimp only [go_sem]); first | (simp [vb, hws, hf, hn, hn2, hlen] <;> omega) | (simp only [vb, and_true, true_implies]; (repeat' (first | assumption | (with_reducible apply And.intro) | intro _)) <;> first | omega | (simp only [ab, hws, hf, hn, hn2, hlen]; done) | (simp [hws, hf, hn, hn2, hlen] <;> omega)))
    | exact (rfl : some _ = _)
    | (fail_if_success refine awL ?_
       refine evH [(17, { val := some (.pv (wordsP kindWords)) }), (51, { val := some (.pv (wordsP rest)) }), (21, { val := some (.pv (.int .i64 2)) }), (31, { val := some (.pv (.tup [intsP [t, r], .bool true])) }), (101, { val := some (.pv (.tup [intsP l, .bool true])) })] ?_
       repeat1' dsimp only [c34, wordsP, intsP, kindWords, go_sem]
       first
       | refine aw4 ?_ ?_ rfl ?_
       | apply aw3
       | apply aw2
       | (refine awB (fun hc => ?_) fun hc => ?_ <;> first | (cases hc; done) | (exfalso; simp [hws, hf, hn, hn2, hlen] at hc <;> omega) | (try simp only [bn] at hc; try contradiction))
       | skip))
set_option maxHeartbeats 4000000 in
theorem refStep_3a (w0 w1 w2 : List UInt8) (rest : List (List UInt8)) (hm : rest.length ≤ 1000000) (hl : ∀ w ∈ w0 :: w1 :: w2 :: rest, w.length ≤ 1000000000) (t r : Int) (hq : refNumsOf [w0, w2] = some [t, r]) (hk : idxW kindWords w1 = 3) (a : Int) (hq2 : refNumsOf rest = some [a]) :
    PureOK ctx 34 [wordsP (w0 :: w1 :: w2 :: rest)] (.tup [rawStep t 3 r a 0 0 0 .nilsl .nilsl .nilsl, .bool true]) := by
  have hf := findI_ok kindWords w1 (by decide)
  have hws := refWords_ok
  have hn := refNumbers_ok [w0, w2] (by simp) (fun w hw => hl w (by simp at hw ⊢; rcases hw with h | h <;> simp [h]))
  have hn2 := refNumbers_ok rest hm (fun w hw => hl w (by simp [hw]))
  have hs51 : AV.pv (PV.sl (((rest.length + 1 + 1 + 1 : Nat) : Int) - 3).toNat ((rest.map PV.str).take ((((rest.length + 1 + 1 + 1 : Nat) : Int) - 3).toNat * 1))) = AV.pv (wordsP rest) := by
    rw [show (((rest.length + 1 + 1 + 1 : Nat) : Int) - 3).toNat = rest.length by omega, List.take_of_length_le (by simp)]
    rfl
  rw [hk] at hf
  rw [hq] at hn
  rw [hq2] at hn2
  refine pure_body' (C := ctx) (Fn.of fn34 rfl) rfl ?_
  unfold c34
  repeat' (first
    | ((with_reducible first | show VCs _ | show All _); (try dsimp only [go_sem]); first | (simp [vb, hws, hf, hn, hn2] <;> omega) | (simp only [vb, and_true, true_implies]; (repeat' (first | assumption | (with_reducible apply And.intro) | intro _)) <;> first | omega | (simp only [ab, hws, hf, hn, hn2]; done) | (simp [hws, hf, hn, hn2] <;> omega)))
    | exact (rfl : some _ = _)
    | (fail_if_success refine awL ?_
       refine evH [(17, { val := some (.pv (wordsP kindWords)) }), (51, { val := some (.pv (wordsP rest)) }), (21, { val := some (.pv (.int .i64 3)) }), (31, { val := some (.pv (.tup [intsP [t, r], .bool true])) }), (101, { val := some (.pv (.tup [intsP [a], .bool true])) })] ?_
       repeat1' dsimp only [c34, wordsP, intsP, kindWords, go_sem]
       first
       | refine aw4 ?_ ?_ rfl ?_
       | apply aw3
       | apply aw2
       | (refine awB (fun hc => ?_) fun hc => ?_ <;> first | (cases hc; done) | (exfalso; simp [hws, hf, hn, hn2] at hc <;> omega) | (try simp only [bn] at hc; try contradiction))
       | skip))
set_option maxHeartbeats 4000000 in
theorem refStep_3b (w0 w1 w2 : List UInt8) (rest : List (List UInt8)) (hm : rest.length ≤ 1000000) (hl : ∀ w ∈ w0 :: w1 :: w2 :: rest, w.length ≤ 1000000000) (t r : Int) (hq : refNumsOf [w0, w2] = some [t, r]) (hk : idxW kindWords w1 = 3) (l : List Int) (hlen : (l.length : Int) ≠ 1) (hq2 : refNumsOf rest = some l) :
    PureOK ctx 34 [wordsP (w0 :: w1 :: w2 :: rest)] (.tup [rawStep 0 0 0 0 0 0 0 .nilsl .nilsl .nilsl, .bool false]) := by
  have hf := findI_ok kindWords w1 (by decide)
  have hws := refWords_ok
  have hn := refNumbers_ok [w0, w2] (by simp) (fun w hw => hl w (by simp at hw ⊢; rcases hw with h | h <;> simp [h]))
  have hn2 := refNumbers_ok rest hm (fun w hw => hl w (by simp [hw]))
  have hs51 : AV.pv (PV.sl (((rest.length + 1 + 1 + 1 : Nat) : Int) - 3).toNat ((rest.map PV.str).take ((((rest.length + 1 + 1 + 1 : Nat) : Int) - 3).toNat * 1))) = AV.pv (wordsP rest) := by
    rw [show (((rest.length + 1 + 1 + 1 : Nat) : Int) - 3).toNat = rest.length by omega, List.take_of_length_le (by simp)]
    rfl
  rw [hk] at hf
  rw [hq] at hn
  rw [hq2] at hn2
  refine pure_body' (C := ctx) (Fn.of fn34 rfl) rfl ?_
  unfold c34
  repeat' (first
    | ((with_reducible first | show VCs _ | show All _); (try dsimp only [go_sem]); first | (simp [vb, hws, hf, hn, hn2, hlen] <;> omega) | (simp only [vb, and_true, true_implies]; (repeat' (first | assumption | (with_reducible apply And.intro) | intro _)) <;> first | omega | (simp only [ab, hws, hf, hn, hn2, hlen]; done) | (simp [hws, hf, hn, hn2, hlen] <;> omega)))
    | exact (rfl : some _ = _)
    | (fail_if_success refine awL ?_
       refine evH [(17, { val := some (.pv (wordsP kindWords)) }), (51, { val := some (.pv (wordsP rest)) }), (21, { val := some (.pv (.int .i64 3)) }), (31, { val := some (.pv (.tup [intsP [t, r], .bool true])) }), (101, { val := some (.pv (.tup [intsP l, .bool true])) })] ?_
       repeat1' dsimp only [c34, wordsP, intsP, kindWords, go_sem]
       first
       | refine aw4 ?_ ?_ rfl ?_
       | apply aw3
       | apply aw2
       | (refine awB (fun hc => ?_) fun hc => ?_ <;> first | (cases hc; done) | (exfalso; simp [hws, hf, hn, hn2, hlen] at hc <;> omega) | (try simp only [bn] at hc; try contradiction))
       | skip))
set_option maxHeartbeats 4000000 in
theorem refStep_4a (w0 w1 w2 : List UInt8) (rest : List (List UInt8)) (hm : rest.length ≤ 1000000) (hl : ∀ w ∈ w0 :: w1 :: w2 :: rest, w.length ≤ 1000000000) (t r : Int) (hq : refNumsOf [w0, w2] = some [t, r]) (hk : idxW kindWords w1 = 4) (a : Int) (l : List Int) (hq2 : refNumsOf rest = some (a :: l)) :
    PureOK ctx 34 [wordsP (w0 :: w1 :: w2 :: rest)] (.tup [rawStep t 4 r 0 0 0 a .nilsl (intsP l) .nilsl, .bool true]) := by
  have hf := findI_ok kindWords w1 (by decide)
  have hws := refWords_ok
  have hn := refNumbers_ok [w0, w2] (by simp) (fun w hw => hl w (by simp at hw ⊢; rcases hw with h | h <;> simp [h]))
  have hn2 := refNumbers_ok rest hm (fun w hw => hl w (by simp [hw]))
  have hs51 : AV.pv (PV.sl (((rest.length + 1 + 1 + 1 : Nat) : Int) - 3).toNat ((rest.map PV.str).take ((((rest.length + 1 + 1 + 1 : Nat) : Int) - 3).toNat * 1))) = AV.pv (wordsP rest) := by
    rw [show (((rest.length + 1 + 1 + 1 : Nat) : Int) - 3).toNat = rest.length by omega, List.take_of_length_le (by simp)]
    rfl
  rw [hk] at hf
  rw [hq] at hn
  rw [hq2] at hn2
  have hs150 : AV.pv (PV.sl (((l.length + 1 : Nat) : Int) - 1).toNat ((l.map (PV.int .i64)).take ((((l.length + 1 : Nat) : Int) - 1).toNat * 1))) = AV.pv (intsP l) := by
    rw [show (((l.length + 1 : Nat) : Int) - 1).toNat = l.length by omega, List.take_of_length_le (by simp)]
    rfl
  refine pure_body' (C := ctx) (Fn.of fn34 rfl) rfl ?_
  unfold c34
  repeat' (first
    | ((with_reducible first | show VCs _ | show All _); (try dsimp only [go_sem]); first | (simp [vb, hws, hf, hn, hn2] <;> omega) | (simp only [vb, and_true, true_implies]; (repeat' (first | assumption | (with_reducible apply And.intro) | intro _)) <;> first | omega | (simp only [ab, hws, hf, hn, hn2]; done) | (simp [hws, hf, hn, hn2] <;> omega)))
    | exact (rfl : some _ = _)
    | (fail_if_success refine awL ?_
       refine evH [(17, { val := some (.pv (wordsP kindWords)) }), (51, { val := some (.pv (wordsP rest)) }), (21, { val := some (.pv (.int .i64 4)) }), (31, { val := some (.pv (.tup [intsP [t, r], .bool true])) }), (101, { val := some (.pv (.tup [intsP (a :: l), .bool true])) }), (150, { val := some (.pv (intsP l)) })] ?_
       repeat1' dsimp only [c34, wordsP, intsP, kindWords, go_sem]
       first
       | refine aw4 ?_ ?_ rfl ?_
       | apply aw3
       | apply aw2
       | (refine awB (fun hc => ?_) fun hc => ?_ <;> first | (cases hc; done) | (exfalso; simp [hws, hf, hn, hn2] at hc <;> omega) | (try simp only [bn] at hc; try contradiction))
       | skip))
set_option maxHeartbeats 4000000 in
theorem refStep_4b (w0 w1 w2 : List UInt8) (rest : List (List UInt8)) (hm : rest.length ≤ 1000000) (hl : ∀ w ∈ w0 :: w1 :: w2 :: rest, w.length ≤ 1000000000) (t r : Int) (hq : refNumsOf [w0, w2] = some [t, r]) (hk : idxW kindWords w1 = 4) (hq2 : refNumsOf rest = some []) :
    PureOK ctx 34 [wordsP (w0 :: w1 :: w2 :: rest)] (.tup [rawStep 0 0 0 0 0 0 0 .nilsl .nilsl .nilsl, .bool false]) := by
  have hf := findI_ok kindWords w1 (by decide)
  have hws := refWords_ok
  have hn := refNumbers_ok [w0, w2] (by simp) (fun w hw => hl w (by simp at hw ⊢; rcases hw with h | h <;> simp [h]))
  have hn2 := refNumbers_ok rest hm (fun w hw => hl w (by simp [hw]))
  have hs51 : AV.pv (PV.sl (((rest.length + 1 + 1 + 1 : Nat) : Int) - 3).toNat ((rest.map PV.str).take ((((rest.length + 1 + 1 + 1 : Nat) : Int) - 3).toNat * 1))) = AV.pv (wordsP rest) := by
    rw [show (((rest.length + 1 + 1 + 1 : Nat) : Int) - 3).toNat = rest.length by omega, List.take_of_length_le (by simp)]
    rfl
  rw [hk] at hf
  rw [hq] at hn
  rw [hq2] at hn2
  refine pure_body' (C := ctx) (Fn.of fn34 rfl) rfl ?_
  unfold c34
  repeat' (first
    | ((with_reducible first | show VCs _ | show All _); (try dsimp only [go_sem]); first | (simp [vb, hws, hf, hn, hn2] <;> omega) | (simp only [vb, and_true, true_implies]; (repeat' (first | assumption | (with_reducible apply And.intro) | intro _)) <;> first | omega | (simp only [ab, hws, hf, hn, hn2]; done) | (simp [hws, hf, hn, hn2] <;> omega)))
    | exact (rfl : some _ = _)
    | (fail_if_success refine awL ?_
       refine evH [(17, { val := some (.pv (wordsP kindWords)) }), (51, { val := some (.pv (wordsP rest)) }), (21, { val := some (.pv (.int .i64 4)) }), (31, { val := some (.pv (.tup [intsP [t, r], .bool true])) }), (101, { val := some (.pv (.tup [intsP [], .bool true])) })] ?_
       repeat1' dsimp only [c34, wordsP, intsP, kindWords, go_sem]
       first
       | refine aw4 ?_ ?_ rfl ?_
       | apply aw3
       | apply aw2
       | (refine awB (fun hc => ?_) fun hc => ?_ <;> first | (cases hc; done) | (exfalso; simp [hws, hf, hn, hn2] at hc <;> omega) | (try simp only [bn] at hc; try contradiction))
       | skip))
set_option maxHeartbeats 4000000 in
theorem refStep_5a (w0 w1 w2 : List UInt8) (rest : List (List UInt8)) (hm : rest.length ≤ 1000000) (hl : ∀ w ∈ w0 :: w1 :: w2 :: rest, w.length ≤ 1000000000) (t r : Int) (hq : refNumsOf [w0, w2] = some [t, r]) (hk : idxW kindWords w1 = 5) (l : List Int) (hq2 : refNumsOf rest = some l) :
    PureOK ctx 34 [wordsP (w0 :: w1 :: w2 :: rest)] (.tup [rawStep t 5 r 0 0 0 0 .nilsl .nilsl .nilsl, .bool ((l.length : Int) == 0)]) := by
  have hf := findI_ok kindWords w1 (by decide)
  have hws := refWords_ok
  have hn := refNumbers_ok [w0, w2] (by simp) (fun w hw => hl w (by simp at hw ⊢; rcases hw with h | h <;> simp [h]))
  have hn2 := refNumbers_ok rest hm (fun w hw => hl w (by simp [hw]))
  have hs51 : AV.pv (PV.sl (((rest.length + 1 + 1 + 1 : Nat) : Int) - 3).toNat ((rest.map PV.str).take ((((rest.length + 1 + 1 + 1 : Nat) : Int) - 3).toNat * 1))) = AV.pv (wordsP rest) := by
    rw [show (((rest.length + 1 + 1 + 1 : Nat) : Int) - 3).toNat = rest.length by omega, List.take_of_length_le (by simp)]
    rfl
  rw [hk] at hf
  rw [hq] at hn
  rw [hq2] at hn2
  refine pure_body' (C := ctx) (Fn.of fn34 rfl) rfl ?_
  unfold c34
  repeat' (first
    | ((with_reducible first | show VCs _ | show All _); (try dsimp only [go_sem]); first | (simp [vb, hws, hf, hn, hn2] <;> omega) | (simp only [vb, and_true, true_implies]; (repeat' (first | assumption | (with_reducible apply And.intro) | intro _)) <;> first | omega | (simp only [ab, hws, hf, hn, hn2]; done) | (simp [hws, hf, hn, hn2] <;> omega)))
    | exact (rfl : some _ = _)
    | (fail_if_success refine awL ?_
       refine evH [(17, { val := some (.pv (wordsP kindWords)) }), (51, { val := some (.pv (wordsP rest)) }), (21, { val := some (.pv (.int .i64 5)) }), (31, { val := some (.pv (.tup [intsP [t, r], .bool true])) }), (101, { val := some (.pv (.tup [intsP l, .bool true])) })] ?_
       repeat1' dsimp only [c34, wordsP, intsP, kindWords, go_sem]
       first
       | refine aw4 ?_ ?_ rfl ?_
       | apply aw3
       | apply aw2
       | (refine awB (fun hc => ?_) fun hc => ?_ <;> first | (cases hc; done) | (exfalso; simp [hws, hf, hn, hn2] at hc <;> omega) | (try simp only [bn] at hc; try contradiction))
       | skip))
set_option maxHeartbeats 4000000 in
theorem refStep_6a (w0 w1 w2 : List UInt8) (rest : List (List UInt8)) (hm : rest.length ≤ 1000000) (hl : ∀ w ∈ w0 :: w1 :: w2 :: rest, w.length ≤ 1000000000) (t r : Int) (hq : refNumsOf [w0, w2] = some [t, r]) (hk : idxW kindWords w1 = 6) (l : List Int) (hq2 : refNumsOf rest = some l) :
    PureOK ctx 34 [wordsP (w0 :: w1 :: w2 :: rest)] (.tup [rawStep t 6 r 0 0 0 0 .nilsl .nilsl (intsP l), .bool true]) := by
  have hf := findI_ok kindWords w1 (by decide)
  have hws := refWords_ok
  have hn := refNumbers_ok [w0, w2] (by simp) (fun w hw => hl w (by simp at hw ⊢; rcases hw with h | h <;> simp [h]))
  have hn2 := refNumbers_ok rest hm (fun w hw => hl w (by simp [hw]))
  have hs51 : AV.pv (PV.sl (((rest.length + 1 + 1 + 1 : Nat) : Int) - 3).toNat ((rest.map PV.str).take ((((rest.length + 1 + 1 + 1 : Nat) : Int) - 3).toNat * 1))) = AV.pv (wordsP rest) := by
    rw [show (((rest.length + 1 + 1 + 1 : Nat) : Int) - 3).toNat = rest.length by omega, List.take_of_length_le (by simp)]
    rfl
  rw [hk] at hf
  rw [hq] at hn
  rw [hq2] at hn2
  refine pure_body' (C := ctx) (Fn.of fn34 rfl) rfl ?_
  unfold c34
  repeat' (first
    | ((with_reducible first | show VCs _ | show All _); (try dsimp only [go_sem]); first | (simp [vb, hws, hf, hn, hn2] <;> omega) | (simp only [vb, and_true, true_implies]; (repeat' (first | assumption | (with_reducible apply And.intro) | intro _)) <;> first | omega | (simp only [ab, hws, hf, hn, hn2]; done) | (simp [hws, hf, hn, hn2] <;> omega)))
    | exact (rfl : some _ = _)
    | (fail_if_success refine awL ?_
       refine evH [(17, { val := some (.pv (wordsP kindWords)) }), (51, { val := some (.pv (wordsP rest)) }), (21, { val := some (.pv (.int .i64 6)) }), (31, { val := some (.pv (.tup [intsP [t, r], .bool true])) }), (101, { val := some (.pv (.tup [intsP l, .bool true])) })] ?_
       repeat1' dsimp only [c34, wordsP, intsP, kindWords, go_sem]
       first
       | refine aw4 ?_ ?_ rfl ?_
       | apply aw3
       | apply aw2
       | (refine awB (fun hc => ?_) fun hc => ?_ <;> first | (cases hc; done) | (exfalso; simp [hws, hf, hn, hn2] at hc <;> omega) | (try simp only [bn] at hc; try contradiction))
       | skip))
end
section
open Sch
def zrB : Blk := ⟨[.pv (.int .i64 0), .pv (.int .i64 0), .pv (.int .i64 0), .pv (.int .i64 0), .pv (.int .i64 0), .pv (.int .i64 0), .pv (.int .i64 0), .pv .nilsl, .pv .nilsl, .pv .nilsl], 0, 10, 41, false⟩
def xrB (t r : Int) (q : AV) : Blk := ⟨[.pv (.int .i64 t), .pv (.int .i64 1), .pv (.int .i64 r), .pv (.int .i64 0), .pv (.int .i64 0), .pv (.int .i64 0), .pv (.int .i64 0), q, .pv .nilsl, .pv .nilsl], 0, 10, 41, false⟩
def qrow : List Query → AV
 | [] => .pv .nilsl
 | _ :: l => .ref 3 l.length 0 (l.length + 1)
def qmem : List Query → List Blk
 | [] => []
 | q :: l => [⟨(queryC q).map .pv, 0, 2, 55, false⟩, ⟨((q :: l).flatMap queryC).map .pv, l.length, 2, 55, false⟩]
def qRaw : List Query → PV
 | [] => .nilsl
 | q :: l => .sl (l.length + 1) ((q :: l).flatMap queryC)
theorem qrow_nil : qrow [] = .pv .nilsl := rfl
theorem qrow_cons (q : Query) (l : List Query) : qrow (q :: l) = .ref 3 l.length 0 (l.length + 1) := rfl
theorem qmem_nil : qmem [] = [] := rfl
theorem qmem_cons (q : Query) (l : List Query) : qmem (q :: l) = [⟨(queryC q).map .pv, 0, 2, 55, false⟩, ⟨((q :: l).flatMap queryC).map .pv, l.length, 2, 55, false⟩] := rfl
theorem renV_pvs (keep : List Nat) (d : Nat) (l : List PV) : (l.map AV.pv).map (renV keep d) = l.map AV.pv := by
 rw [List.map_map]
 refine List.map_congr_left fun p _ => ?_
 cases d <;> rfl
theorem refNumsOf_len : ∀ (xs : List (List UInt8)) (l : List Int), refNumsOf xs = some l → l.length = xs.length
 | [], l, h => by simp [refNumsOf] at h; subst h; rfl
 | x :: r, l, h => by
  simp only [refNumsOf] at h
  cases h1 : refNumOf x with
  | none => rw [h1] at h; cases h
  | some a =>
   rw [h1] at h
   cases h2 : refNumsOf r with
   | none => rw [h2] at h; cases h
   | some b =>
    rw [h2] at h
    injection h with h
    subst h
    simp [refNumsOf_len r _ h2]
theorem refQs_succ (rest : List (List UInt8)) (n : Nat) : refQs rest (n + 1) = refQs rest n ++ [refQ rest n] := by
 simp [refQs, List.range_succ]
theorem refQs_len (rest : List (List UInt8)) (n : Nat) : (refQs rest n).length = n := by simp [refQs]
theorem refQsOk_succ (rest : List (List UInt8)) (n : Nat) : refQsOk rest (n + 1) = (refQsOk rest n && refQok rest n) := by
 simp [refQsOk, List.range_succ]
theorem refQsOk_no (rest : List (List UInt8)) (n m : Nat) (h : refQok rest n = false) (hm : n < m) : refQsOk rest m = false := by
 rw [refQsOk, List.all_eq_false]
 exact ⟨n, by simpa using hm, by simp [h]⟩
theorem qmem_ok (t r : Int) (l : List Query) : okMem ([zrB, xrB t r (qrow l)] ++ qmem l) ([zrB, xrB t r (qrow l)] ++ qmem l).length = true := by
 cases l with
 | nil => rfl
 | cons q l => simp [okMem, zrB, xrB, qrow, qmem, bnd, Nat.blt, queryC, Function.comp_def]
set_option maxHeartbeats 4000000 in
theorem refStep_even (w0 w1 w2 : List UInt8) (rest : List (List UInt8)) (hm : rest.length ≤ 1000000) (hl : ∀ w ∈ w0 :: w1 :: w2 :: rest, w.length ≤ 1000000000) (t r : Int) (hq : refNumsOf [w0, w2] = some [t, r]) (hk : idxW kindWords w1 = 1) (he : rest.length % 2 = 0) :
    PureOK ctx 34 [wordsP (w0 :: w1 :: w2 :: rest)] (.tup [rawStep 0 0 0 0 0 0 0 .nilsl .nilsl .nilsl, .bool false]) := by
  have hf := findI_ok kindWords w1 (by decide)
  have hws := refWords_ok
  have hn := refNumbers_ok [w0, w2] (by simp) (fun w hw => hl w (by simp at hw ⊢; rcases hw with h | h <;> simp [h]))
  have hs51 : AV.pv (PV.sl (((rest.length + 1 + 1 + 1 : Nat) : Int) - 3).toNat ((rest.map PV.str).take ((((rest.length + 1 + 1 + 1 : Nat) : Int) - 3).toNat * 1))) = AV.pv (wordsP rest) := by
    rw [show (((rest.length + 1 + 1 + 1 : Nat) : Int) - 3).toNat = rest.length by omega, List.take_of_length_le (by simp)]
    rfl
  rw [hk] at hf
  rw [hq] at hn
  have hmod : ((rest.length : Int).tmod 2) = 0 := by
    rw [show (2 : Int) = ((2 : Nat) : Int) from rfl, ← Int.ofNat_tmod]
    omega
  refine pure_body' (C := ctx) (Fn.of fn34 rfl) rfl ?_
  unfold c34
  repeat' (first
    | ((with_reducible first | show VCs _ | show All _); (try dsimp only [go_sem]); first | (simp [vb, hws, hf, hn, hmod] <;> omega) | (simp only [vb, and_true, true_implies]; (repeat' (first | assumption | (with_reducible apply And.intro) | intro _)) <;> first | omega | (simp only [ab, hws, hf, hn, hmod]; done) | (simp [hws, hf, hn, hmod] <;> omega)))
    | exact (rfl : some _ = _)
    | (fail_if_success refine awL ?_
       refine evH [(17, { val := some (.pv (wordsP kindWords)) }), (51, { val := some (.pv (wordsP rest)) }), (21, { val := some (.pv (.int .i64 1)) }), (31, { val := some (.pv (.tup [intsP [t, r], .bool true])) })] ?_
       repeat1' dsimp only [c34, wordsP, intsP, kindWords, go_sem]
       first
       | refine aw4 ?_ ?_ rfl ?_
       | apply aw3
       | apply aw2
       | (refine awB (fun hc => ?_) fun hc => ?_ <;> first | (cases hc; done) | (exfalso; simp [hws, hf, hn, hmod] at hc <;> omega) | (try simp only [bn] at hc; try contradiction))
       | skip))
set_option maxHeartbeats 4000000 in
theorem refStep_odd (w0 w1 w2 : List UInt8) (rest : List (List UInt8)) (n : Nat) (hm : rest.length ≤ 1000000) (hl : ∀ w ∈ w0 :: w1 :: w2 :: rest, w.length ≤ 1000000000) (t r : Int) (hq : refNumsOf [w0, w2] = some [t, r]) (hk : idxW kindWords w1 = 1) (he : rest.length = 2 * n + 1) (res : PV)
    (hres : res = if refQsOk rest n then (match refNumsOf (rest.take 1) with | some [s] => .tup [rawStep t 1 r 0 s 0 0 (qRaw (refQs rest n)) .nilsl .nilsl, .bool true] | _ => .tup [rawStep 0 0 0 0 0 0 0 .nilsl .nilsl .nilsl, .bool false]) else .tup [rawStep 0 0 0 0 0 0 0 .nilsl .nilsl .nilsl, .bool false]) :
    PureOK ctx 34 [wordsP (w0 :: w1 :: w2 :: rest)] res := by
  have hf := findI_ok kindWords w1 (by decide)
  have hws := refWords_ok
  have hqs := refQueries_ok
  have hn := refNumbers_ok [w0, w2] (by simp) (fun w hw => hl w (by simp at hw ⊢; rcases hw with h | h <;> simp [h]))
  have hs51 : AV.pv (PV.sl (((rest.length + 1 + 1 + 1 : Nat) : Int) - 3).toNat ((rest.map PV.str).take ((((rest.length + 1 + 1 + 1 : Nat) : Int) - 3).toNat * 1))) = AV.pv (wordsP rest) := by
    rw [show (((rest.length + 1 + 1 + 1 : Nat) : Int) - 3).toNat = rest.length by omega, List.take_of_length_le (by simp)]
    rfl
  have hmod : ((rest.length : Int).tmod 2) = 1 := by
    rw [show (2 : Int) = ((2 : Nat) : Int) from rfl, ← Int.ofNat_tmod]
    omega
  rw [hk] at hf
  rw [hq] at hn
  refine pure_body' (C := ctx) (Fn.of fn34 rfl) rfl ?_
  unfold c34
  repeat' (first
    | ((with_reducible first | show VCs _ | show All _); (try dsimp only [go_sem]); first | (simp [vb, hws, hf, hn, hmod] <;> omega) | (simp only [vb, and_true, true_implies]; (repeat' (first | assumption | (with_reducible apply And.intro) | intro _)) <;> first | omega | (simp only [ab, hws, hf, hn, hmod]; done) | (simp [hws, hf, hn, hmod] <;> omega)))
    | exact (rfl : some _ = _)
    | (fail_if_success refine awL ?_
       refine evH [(17, { val := some (.pv (wordsP kindWords)) }), (51, { val := some (.pv (wordsP rest)) }), (21, { val := some (.pv (.int .i64 1)) }), (31, { val := some (.pv (.tup [intsP [t, r], .bool true])) })] ?_
       repeat1' dsimp only [c34, wordsP, intsP, kindWords, go_sem]
       first
       | refine aw4 ?_ ?_ rfl ?_
       | apply aw3
       | apply aw2
       | (refine awB (fun hc => ?_) fun hc => ?_ <;> first | (cases hc; done) | (exfalso; simp [hws, hf, hn, hmod] at hc <;> omega) | (try simp only [bn] at hc; try contradiction))
       | skip))
  refine aw_forJ n (fun k => refQsOk rest k = true) (fun k => [(2, .ptr 0 0 0), (4, .ptr 1 0 0), (7, .pv (wordsP rest)), (8, .pv (.int .i64 (1 + 2 * (k : Int))))]) (fun k => [zrB, xrB t r (qrow (refQs rest k))] ++ qmem (refQs rest k)) rfl (by (repeat' (first | exact trivial | refine And.intro (by first | rfl | (simp [get, Nat.beq]; done) | (simp [get, Nat.beq]; omega) | (dsimp only [get]; congr 1 <;> first | rfl | omega | (simp; done) | (simp; omega))) ?_))) ⟨_, rfl⟩ (fun k => ⟨Nat.zero_le _, by cases refQs rest k <;> rfl, qmem_ok t r _⟩) fun k hk hP => ?_
  by_cases hlt : k < n
  · have e1 := getD_strs rest (1 + 2 * k) (by omega)
    have e2 := getD_strs rest (2 + 2 * k) (by omega)
    have hwl := hl (rest.getD (2 + 2 * k) []) (List.mem_cons_of_mem _ (List.mem_cons_of_mem _ (List.mem_cons_of_mem _ (getD_mem (by omega)))))
    have hnum := refNumber_ok (rest.getD (2 + 2 * k) []) hwl
    have hfq := findI_ok queryWords (rest.getD (1 + 2 * k) []) (by decide)
    have hs := refQs_succ rest k
    have hso := refQsOk_succ rest k
    have hno := fun h => refQsOk_no rest k n h hlt
    have hql := refQs_len rest k
    unfold refQ at hs
    unfold refQok at hso hno
    have i1 : (1 + 2 * (k : Int)).toNat = 1 + 2 * k := by omega
    have i2 : (1 + 2 * (k : Int) + 1).toNat = 2 + 2 * k := by omega
    generalize rest.getD (1 + 2 * k) [] = wa at *
    generalize rest.getD (2 + 2 * k) [] = wb at *
    generalize idxW queryWords wa = K at *
    generalize refNumP wb = v at *
    obtain ⟨v, b⟩ := v
    generalize refQs rest k = qs at *
    cases b
    · skip
      have : res = .tup [rawStep 0 0 0 0 0 0 0 .nilsl .nilsl .nilsl, .bool false] := by rw [hres, hno (by simp)]; rfl
      subst this
      cases qs
      · repeat' (first
          | ((with_reducible first | show VCs _ | show All _); (try dsimp only [go_sem]); first | (simp [vb, e1, e2, i1, i2, hnum, hfq, hqs] <;> omega) | (simp only [vb, and_true, true_implies]; (repeat' (first | assumption | (with_reducible apply And.intro) | intro _)) <;> first | omega | (simp only [ab, e1, e2, i1, i2, hnum, hfq, hqs]; done) | (simp [e1, e2, i1, i2, hnum, hfq, hqs] <;> omega)))
          | exact (rfl : some _ = _)
          | (fail_if_success refine awL ?_
             refine evH [(71, { val := some (.pv (.str wb)) }), (72, { val := some (.pv (.tup [.int .i64 v, .bool false])) }), (75, { val := some (.pv (wordsP queryWords)) }), (79, { val := some (.pv (.str wa)) }), (80, { val := some (.pv (.int .i64 K)) })] ?_
             repeat1' dsimp only [c34, wordsP, queryWords, qrow_nil, qmem_nil, zrB, xrB, go_sem]
             first
             | refine aw4 ?_ ?_ rfl ?_
             | apply aw3
             | apply aw2
             | (refine awB (fun hc => ?_) fun hc => ?_ <;> first | (cases hc; done) | (exfalso; simp [e1, e2, i1, i2, hnum, hfq, hqs] at hc <;> omega) | (try simp only [bn] at hc; try contradiction))
             | skip))
      · repeat' (first
          | ((with_reducible first | show VCs _ | show All _); (try dsimp only [go_sem]); first | (simp [vb, e1, e2, i1, i2, hnum, hfq, hqs] <;> omega) | (simp only [vb, and_true, true_implies]; (repeat' (first | assumption | (with_reducible apply And.intro) | intro _)) <;> first | omega | (simp only [ab, e1, e2, i1, i2, hnum, hfq, hqs]; done) | (simp [e1, e2, i1, i2, hnum, hfq, hqs] <;> omega)))
          | exact (rfl : some _ = _)
          | (fail_if_success refine awL ?_
             refine evH [(71, { val := some (.pv (.str wb)) }), (72, { val := some (.pv (.tup [.int .i64 v, .bool false])) }), (75, { val := some (.pv (wordsP queryWords)) }), (79, { val := some (.pv (.str wa)) }), (80, { val := some (.pv (.int .i64 K)) })] ?_
             repeat1' dsimp only [c34, wordsP, queryWords, qrow_cons, qmem_cons, zrB, xrB, go_sem]
             first
             | refine aw4 ?_ ?_ rfl ?_
             | apply aw3
             | apply aw2
             | (refine awB (fun hc => ?_) fun hc => ?_ <;> first | (cases hc; done) | (exfalso; simp [e1, e2, i1, i2, hnum, hfq, hqs] at hc <;> omega) | (try simp only [bn] at hc; try contradiction))
             | skip))
    · by_cases hK : K < 0
      · skip
        have : res = .tup [rawStep 0 0 0 0 0 0 0 .nilsl .nilsl .nilsl, .bool false] := by rw [hres, hno (by simp; omega)]; rfl
        subst this
        cases qs
        · repeat' (first
            | ((with_reducible first | show VCs _ | show All _); (try dsimp only [go_sem]); first | (simp [vb, e1, e2, i1, i2, hnum, hfq, hqs, hK] <;> omega) | (simp only [vb, and_true, true_implies]; (repeat' (first | assumption | (with_reducible apply And.intro) | intro _)) <;> first | omega | (simp only [ab, e1, e2, i1, i2, hnum, hfq, hqs, hK]; done) | (simp [e1, e2, i1, i2, hnum, hfq, hqs, hK] <;> omega)))
            | exact (rfl : some _ = _)
            | (fail_if_success refine awL ?_
               refine evH [(71, { val := some (.pv (.str wb)) }), (72, { val := some (.pv (.tup [.int .i64 v, .bool true])) }), (75, { val := some (.pv (wordsP queryWords)) }), (79, { val := some (.pv (.str wa)) }), (80, { val := some (.pv (.int .i64 K)) })] ?_
               repeat1' dsimp only [c34, wordsP, queryWords, qrow_nil, qmem_nil, zrB, xrB, go_sem]
               first
               | refine aw4 ?_ ?_ rfl ?_
               | apply aw3
               | apply aw2
               | (refine awB (fun hc => ?_) fun hc => ?_ <;> first | (cases hc; done) | (exfalso; simp [e1, e2, i1, i2, hnum, hfq, hqs, hK] at hc <;> omega) | (try simp only [bn] at hc; try contradiction))
               | skip))
        · repeat' (first
            | ((with_reducible first | show VCs _ | show All _); (try dsimp only [go_sem]); first | (simp [vb, e1, e2, i1, i2, hnum, hfq, hqs, hK] <;> omega) | (simp only [vb, and_true, true_implies]; (repeat' (first | assumption | (with_reducible apply And.intro) | intro _)) <;> first | omega | (simp only [ab, e1, e2, i1, i2, hnum, hfq, hqs, hK]; done) | (simp [e1, e2, i1, i2, hnum, hfq, hqs, hK] <;> omega)))
            | exact (rfl : some _ = _)
            | (fail_if_success refine awL ?_
               refine evH [(71, { val := some (.pv (.str wb)) }), (72, { val := some (.pv (.tup [.int .i64 v, .bool true])) }), (75, { val := some (.pv (wordsP queryWords)) }), (79, { val := some (.pv (.str wa)) }), (80, { val := some (.pv (.int .i64 K)) })] ?_
               repeat1' dsimp only [c34, wordsP, queryWords, qrow_cons, qmem_cons, zrB, xrB, go_sem]
               first
               | refine aw4 ?_ ?_ rfl ?_
               | apply aw3
               | apply aw2
               | (refine awB (fun hc => ?_) fun hc => ?_ <;> first | (cases hc; done) | (exfalso; simp [e1, e2, i1, i2, hnum, hfq, hqs, hK] at hc <;> omega) | (try simp only [bn] at hc; try contradiction))
               | skip))
      · have hP2 : refQsOk rest (k + 1) = true := by rw [hso, hP]; simp; omega
        cases qs with
        | nil =>
          repeat' (first
            | ((with_reducible first | show VCs _ | show All _); (try dsimp only [go_sem]); first | (simp [vb, e1, e2, i1, i2, hnum, hfq, hqs, hK] <;> omega) | (simp only [vb, and_true, true_implies]; (repeat' (first | assumption | (with_reducible apply And.intro) | intro _)) <;> first | omega | (simp only [ab, e1, e2, i1, i2, hnum, hfq, hqs, hK]; done) | (simp [e1, e2, i1, i2, hnum, hfq, hqs, hK] <;> omega)))
            | exact (rfl : some _ = _)
            | (fail_if_success refine awL ?_
               refine evH [(71, { val := some (.pv (.str wb)) }), (72, { val := some (.pv (.tup [.int .i64 v, .bool true])) }), (75, { val := some (.pv (wordsP queryWords)) }), (79, { val := some (.pv (.str wa)) }), (80, { val := some (.pv (.int .i64 K)) })] ?_
               repeat1' dsimp only [c34, wordsP, queryWords, qrow_nil, qmem_nil, zrB, xrB, queryC, go_sem]
               first
               | refine aw4 ?_ ?_ rfl ?_
               | apply aw3
               | apply aw2
               | (refine awB (fun hc => ?_) fun hc => ?_ <;> first | (cases hc; done) | (exfalso; simp [e1, e2, i1, i2, hnum, hfq, hqs, hK] at hc <;> omega) | (try simp only [bn] at hc; try contradiction))
               | skip))
          refine ⟨hlt, hP2, by (repeat' (first | exact trivial | refine And.intro (by first | rfl | (simp [get, Nat.beq]; done) | (simp [get, Nat.beq]; omega) | (dsimp only [get]; congr 1 <;> first | rfl | omega | (simp; done) | (simp; omega))) ?_)), ?_⟩
          rw [hs]
          exact ⟨[], rfl⟩
        | cons q0 ql =>
          simp only [List.length_cons] at hql
          have hfl := flatMap_length queryC_len (q0 :: ql)
          simp only [List.length_cons] at hfl
          repeat' (first
            | ((with_reducible show VCs _); first | exact True.intro | (simp only [vb, lb]; omega) | (simp only [vb, lb, e1, e2, i1, i2, hnum, hfq, hqs, hK, hfl, hql]; and_intros <;> first | omega | (simp <;> omega)) | (simp [vb, e1, e2, i1, i2, hnum, hfq, hqs, hK, hfl, hql] <;> omega))
            | ((with_reducible show All _); first | exact True.intro | ((try dsimp only [go_sem]); first | (simp [vb, e1, e2, i1, i2, hnum, hfq, hqs, hK, hfl, hql] <;> omega) | (simp only [vb, and_true, true_implies]; (repeat' (first | assumption | (with_reducible apply And.intro) | intro _)) <;> first | omega | rfl | (simp only [ab, e1, e2, i1, i2, hnum, hfq, hqs, hK, hfl, hql]; done) | (simp [Nat.mul_one, e1, e2, i1, i2, hnum, hfq, hqs, hK, hfl, hql] <;> omega) | (simp_all; done))))
            | exact (rfl : some _ = _)
            | (fail_if_success refine awL ?_
               refine evH [(71, { val := some (.pv (.str wb)) }), (72, { val := some (.pv (.tup [.int .i64 v, .bool true])) }), (75, { val := some (.pv (wordsP queryWords)) }), (79, { val := some (.pv (.str wa)) }), (80, { val := some (.pv (.int .i64 K)) })] ?_
               repeat1' dsimp only [c34, wordsP, queryWords, qrow_cons, qmem_cons, zrB, xrB, go_sem]
               first
               | refine aw4 ?_ ?_ rfl ?_
               | apply aw3
               | apply aw2
               | (refine awB (fun hc => ?_) fun hc => ?_ <;> first | (cases hc; done) | (exfalso; first | (simp at hc <;> omega) | (simp [e1, e2, i1, i2, hnum, hfq, hqs, hK, hfl, hql] at hc; done)) | (try simp only [bn] at hc; try contradiction))
               | skip))
          refine ⟨hlt, hP2, by (repeat' (first | exact trivial | refine And.intro (by first | rfl | (simp [get, Nat.beq]; done) | (simp [get, Nat.beq]; omega) | (dsimp only [get]; congr 1 <;> first | rfl | omega | (simp; done) | (simp; omega))) ?_)), ?_⟩
          rw [hs]
          refine ⟨[⟨[.pv (.int .i64 K), .pv (.int .i64 v)], 0, 2, 55, false⟩], ?_⟩
          simp [qrow, qmem, queryC, zrB, xrB]
  · have hkn : k = n := by omega
    subst hkn
    rw [if_pos hP] at hres
    have hql := refQs_len rest k
    generalize refQs rest k = qs at *
    have hs98 : AV.pv (PV.sl ((1 : Int) - 0).toNat (((rest.map PV.str).drop ((0 : Int).toNat * 1)).take (((1 : Int) - 0).toNat * 1))) = AV.pv (wordsP (rest.take 1)) := by
      cases rest with
      | nil => simp at he
      | cons a b => rfl
    have hn1 := refNumbers_ok (rest.take 1) (by simp; omega) (fun w hw => hl w (List.mem_cons_of_mem _ (List.mem_cons_of_mem _ (List.mem_cons_of_mem _ (List.mem_of_mem_take hw)))))
    have hlen : ∀ l, refNumsOf (rest.take 1) = some l → l.length = 1 := fun l h => by rw [refNumsOf_len _ _ h]; simp; omega
    cases hq1 : refNumsOf (rest.take 1) with
    | none =>
      rw [hq1] at hn1 hres
      dsimp only at hres
      subst hres
      cases qs with
      | nil =>
        repeat' (first
          | ((with_reducible first | show VCs _ | show All _); (try dsimp only [go_sem]); first | (simp [vb, hs98, hn1] <;> omega) | (simp only [vb, and_true, true_implies]; (repeat' (first | assumption | (with_reducible apply And.intro) | intro _)) <;> first | omega | (simp only [ab, hs98, hn1]; done) | (simp [hs98, hn1] <;> omega)))
          | exact (rfl : some _ = _)
          | (fail_if_success refine awL ?_
             refine evH [(98, { val := some (.pv (wordsP (rest.take 1))) }), (101, { val := some (.pv (.tup [.sl 0 [], .bool false])) })] ?_
             repeat1' dsimp only [c34, wordsP, intsP, qrow_nil, qmem_nil, zrB, xrB, go_sem]
             first
             | refine aw4 ?_ ?_ rfl ?_
             | apply aw3
             | apply aw2
             | (refine awB (fun hc => ?_) fun hc => ?_ <;> first | (cases hc; done) | (exfalso; simp [hs98, hn1] at hc <;> omega) | (try simp only [bn] at hc; try contradiction))
             | skip))
      | cons q0 ql =>
        refine aw_keep [0, 1, 3] rfl ?_
        dsimp only [qrow_cons, qmem_cons, zrB, xrB, go_sem]
        rw [renV_pvs]
        refine aw_rowDone (f := [(2, .ptr 0 0 0), (4, .ptr 1 0 0), (7, .pv (wordsP rest)), (8, .pv (.int .i64 (1 + 2 * (k : Int))))]) (μ := [zrB]) (c1 := [.int .i64 t, .int .i64 1, .int .i64 r, .int .i64 0, .int .i64 0, .int .i64 0, .int .i64 0]) (c2 := [.nilsl, .nilsl]) (ps := (q0 :: ql).flatMap queryC) (n := ql.length + 1) (sz := 2) rfl (Nat.zero_le _) (by simp) (by rw [flatMap_length queryC_len]; simp) (fun M => by rfl) (by rfl) ?_
        repeat' (first
          | ((with_reducible first | show VCs _ | show All _); (try dsimp only [go_sem]); first | (simp [vb, hs98, hn1] <;> omega) | (simp only [vb, and_true, true_implies]; (repeat' (first | assumption | (with_reducible apply And.intro) | intro _)) <;> first | omega | (simp only [ab, hs98, hn1]; done) | (simp [hs98, hn1] <;> omega)))
          | exact (rfl : some _ = _)
          | (fail_if_success refine awL ?_
             refine evH [(98, { val := some (.pv (wordsP (rest.take 1))) }), (101, { val := some (.pv (.tup [.sl 0 [], .bool false])) })] ?_
             repeat1' dsimp only [c34, wordsP, intsP, zrB, go_sem]
             first
             | refine aw4 ?_ ?_ rfl ?_
             | apply aw3
             | apply aw2
             | (refine awB (fun hc => ?_) fun hc => ?_ <;> first | (cases hc; done) | (exfalso; simp [hs98, hn1] at hc <;> omega) | (try simp only [bn] at hc; try contradiction))
             | skip))
    | some l =>
      rw [hq1] at hn1 hres
      match l, hlen l hq1 with
      | [a], _ =>
        dsimp only at hres
        subst hres
        cases qs with
        | nil =>
          repeat' (first
            | ((with_reducible first | show VCs _ | show All _); (try dsimp only [go_sem]); first | (simp [vb, hs98, hn1] <;> omega) | (simp only [vb, and_true, true_implies]; (repeat' (first | assumption | (with_reducible apply And.intro) | intro _)) <;> first | omega | (simp only [ab, hs98, hn1]; done) | (simp [hs98, hn1] <;> omega)))
            | exact (rfl : some _ = _)
            | (fail_if_success refine awL ?_
               refine evH [(98, { val := some (.pv (wordsP (rest.take 1))) }), (101, { val := some (.pv (.tup [intsP [a], .bool true])) })] ?_
               repeat1' dsimp only [c34, wordsP, intsP, qrow_nil, qmem_nil, zrB, xrB, go_sem]
               first
               | refine aw4 ?_ ?_ rfl ?_
               | apply aw3
               | apply aw2
               | (refine awB (fun hc => ?_) fun hc => ?_ <;> first | (cases hc; done) | (exfalso; simp [hs98, hn1] at hc <;> omega) | (try simp only [bn] at hc; try contradiction))
               | skip))
        | cons q0 ql =>
          refine aw_keep [0, 1, 3] rfl ?_
          dsimp only [qrow_cons, qmem_cons, zrB, xrB, go_sem]
          rw [renV_pvs]
          refine aw_rowDone (f := [(2, .ptr 0 0 0), (4, .ptr 1 0 0), (7, .pv (wordsP rest)), (8, .pv (.int .i64 (1 + 2 * (k : Int))))]) (μ := [zrB]) (c1 := [.int .i64 t, .int .i64 1, .int .i64 r, .int .i64 0, .int .i64 0, .int .i64 0, .int .i64 0]) (c2 := [.nilsl, .nilsl]) (ps := (q0 :: ql).flatMap queryC) (n := ql.length + 1) (sz := 2) rfl (Nat.zero_le _) (by simp) (by rw [flatMap_length queryC_len]; simp) (fun M => by rfl) (by rfl) ?_
          repeat' (first
            | ((with_reducible first | show VCs _ | show All _); (try dsimp only [go_sem]); first | (simp [vb, hs98, hn1] <;> omega) | (simp only [vb, and_true, true_implies]; (repeat' (first | assumption | (with_reducible apply And.intro) | intro _)) <;> first | omega | (simp only [ab, hs98, hn1]; done) | (simp [hs98, hn1] <;> omega)))
            | exact (rfl : some _ = _)
            | (fail_if_success refine awL ?_
               refine evH [(98, { val := some (.pv (wordsP (rest.take 1))) }), (101, { val := some (.pv (.tup [intsP [a], .bool true])) })] ?_
               repeat1' dsimp only [c34, wordsP, intsP, zrB, go_sem]
               first
               | refine aw4 ?_ ?_ rfl ?_
               | apply aw3
               | apply aw2
               | (refine awB (fun hc => ?_) fun hc => ?_ <;> first | (cases hc; done) | (exfalso; simp [hs98, hn1] at hc <;> omega) | (try simp only [bn] at hc; try contradiction))
               | skip))
end
end Pur
end Go.Proofs.YteokbngllldmdaaGreatDoor
namespace Go.Proofs.YteokbngllldmdaaGreatDoor
namespace Pur
open Go.RowKit
section
open Sch
theorem canon_raw (t k r o s a f : Int) (q sv v : PV) (b : Bool) : canon 3 (.tup [rawStep t k r o s a f q sv v, .bool b]) = .tup [.agg [.int .i64 t, .int .i64 k, .int .i64 r, .int .i64 o, .int .i64 s, .int .i64 a, .int .i64 f, canon 1 q, canon 1 sv, canon 1 v], .bool b] := rfl
theorem canon_nil : canon 1 .nilsl = .sl 0 [] := rfl
theorem canon_zero : canon 3 (.tup [rawStep 0 0 0 0 0 0 0 .nilsl .nilsl .nilsl, .bool false]) = stepTup (zeroStep, false) := rfl
theorem canon_rows (l : List Query) : canon 1 (qRaw l) = queriesP l := by
 cases l with
 | nil => rfl
 | cons q l => exact canon_queries 0 (q :: l)
theorem refStep_ok (ws : List (List UInt8)) (hm : ws.length ≤ 1000000) (hl : ∀ w ∈ ws, w.length ≤ 1000000000) : PureOK ctx 34 [wordsP ws] (stepTup (refStepP ws)) := by
 by_cases h3 : ws.length < 3
 ·exact refStep_short ws h3
 match ws, hm, hl, h3 with
 | [], _, _, h => exact absurd (by simp) h
 | [_], _, _, h => exact absurd (by simp) h
 | [_, _], _, _, h => exact absurd (by simp) h
 | w0 :: w1 :: w2 :: rest, hm, hl, _ =>
  have hm : rest.length ≤ 1000000 := by simp at hm; omega
  cases hq : refNumsOf [w0, w2] with
  | none =>
   refine PureOK.via 3 (refStep_nums w0 w1 w2 rest hm hl hq) ?_
   rw [canon_zero]
   simp only [refStepP, hq]
  | some l =>
   match l, refNumsOf_len _ l hq with
   | [t, r], _ =>
    rcases kind_range w1 with hk | hk | hk | hk | hk | hk | hk | hk
    ·refine PureOK.via 3 (refStep_kind w0 w1 w2 rest hm hl t r hq hk) ?_
     rw [canon_zero]
     simp [refStepP, hq, hk]
    ·cases hq2 : refNumsOf rest with
     | none =>
      refine PureOK.via 3 (refStep_0n w0 w1 w2 rest hm hl t r hq hk hq2) ?_
      rw [canon_zero]
      simp [refStepP, hq, hk, hq2]
     | some l =>
      by_cases h2 : l.length = 2
      ·match l, h2 with
       | [a, b], _ =>
        refine PureOK.via 3 (refStep_0a w0 w1 w2 rest hm hl t r hq hk a b hq2) ?_
        simp [refStepP, hq, hk, hq2, refKind, canon_raw, canon_nil, stepTup, stepP, stepC, zeroStep, intsP, queriesP]
      ·refine PureOK.via 3 (refStep_0b w0 w1 w2 rest hm hl t r hq hk l (by omega) hq2) ?_
       rw [canon_zero]
       match l, h2 with
       | [], _ => simp [refStepP, hq, hk, hq2, refKind]
       | [a], _ => simp [refStepP, hq, hk, hq2, refKind]
       | a :: b :: c :: l, _ => simp [refStepP, hq, hk, hq2, refKind]
    ·by_cases he : rest.length % 2 = 0
     ·refine PureOK.via 3 (refStep_even w0 w1 w2 rest hm hl t r hq hk he) ?_
      rw [canon_zero]
      simp [refStepP, hq, hk, he]
     ·refine PureOK.via 3 (refStep_odd w0 w1 w2 rest ((rest.length - 1) / 2) hm hl t r hq hk (by omega) _ rfl) ?_
      simp only [refStepP, hq, hk, if_true, if_neg he]
      split
      ·cases hq1 : refNumsOf (rest.take 1) with
       | none => rfl
       | some l =>
        match l, refNumsOf_len _ l hq1 with
        | [], h => simp at h; omega
        | [s], _ =>
         dsimp only
         rw [canon_raw, canon_rows]
         rfl
        | a :: b :: c, h => simp at h; omega
      ·rfl
    ·cases hq2 : refNumsOf rest with
     | none =>
      refine PureOK.via 3 (refStep_2n w0 w1 w2 rest hm hl t r hq hk hq2) ?_
      rw [canon_zero]
      simp [refStepP, hq, hk, hq2]
     | some l =>
      by_cases h2 : l.length = 1
      ·match l, h2 with
       | [a], _ =>
        refine PureOK.via 3 (refStep_2a w0 w1 w2 rest hm hl t r hq hk a hq2) ?_
        simp [refStepP, hq, hk, hq2, refKind, canon_raw, canon_nil, stepTup, stepP, stepC, zeroStep, intsP, queriesP]
      ·refine PureOK.via 3 (refStep_2b w0 w1 w2 rest hm hl t r hq hk l (by omega) hq2) ?_
       rw [canon_zero]
       match l, h2 with
       | [], _ => simp [refStepP, hq, hk, hq2, refKind]
       | a :: b :: l, _ => simp [refStepP, hq, hk, hq2, refKind]
    ·cases hq2 : refNumsOf rest with
     | none =>
      refine PureOK.via 3 (refStep_3n w0 w1 w2 rest hm hl t r hq hk hq2) ?_
      rw [canon_zero]
      simp [refStepP, hq, hk, hq2]
     | some l =>
      by_cases h2 : l.length = 1
      ·match l, h2 with
       | [a], _ =>
        refine PureOK.via 3 (refStep_3a w0 w1 w2 rest hm hl t r hq hk a hq2) ?_
        simp [refStepP, hq, hk, hq2, refKind, canon_raw, canon_nil, stepTup, stepP, stepC, zeroStep, intsP, queriesP]
      ·refine PureOK.via 3 (refStep_3b w0 w1 w2 rest hm hl t r hq hk l (by omega) hq2) ?_
       rw [canon_zero]
       match l, h2 with
       | [], _ => simp [refStepP, hq, hk, hq2, refKind]
       | a :: b :: l, _ => simp [refStepP, hq, hk, hq2, refKind]
    ·cases hq2 : refNumsOf rest with
     | none =>
      refine PureOK.via 3 (refStep_4n w0 w1 w2 rest hm hl t r hq hk hq2) ?_
      rw [canon_zero]
      simp [refStepP, hq, hk, hq2]
     | some l =>
      match l with
      | [] =>
       refine PureOK.via 3 (refStep_4b w0 w1 w2 rest hm hl t r hq hk hq2) ?_
       rw [canon_zero]
       simp [refStepP, hq, hk, hq2, refKind]
      | a :: l =>
       refine PureOK.via 3 (refStep_4a w0 w1 w2 rest hm hl t r hq hk a l hq2) ?_
       rw [canon_raw, canon_ints]
       simp [refStepP, hq, hk, hq2, refKind, canon_nil, stepTup, stepP, stepC, zeroStep, intsP, queriesP]
    ·cases hq2 : refNumsOf rest with
     | none =>
      refine PureOK.via 3 (refStep_5n w0 w1 w2 rest hm hl t r hq hk hq2) ?_
      rw [canon_zero]
      simp [refStepP, hq, hk, hq2]
     | some l =>
      refine PureOK.via 3 (refStep_5a w0 w1 w2 rest hm hl t r hq hk l hq2) ?_
      cases l <;> simp [refStepP, hq, hk, hq2, refKind, canon_raw, canon_nil, stepTup, stepP, stepC, zeroStep, intsP, queriesP]
      omega
    ·cases hq2 : refNumsOf rest with
     | none =>
      refine PureOK.via 3 (refStep_6n w0 w1 w2 rest hm hl t r hq hk hq2) ?_
      rw [canon_zero]
      simp [refStepP, hq, hk, hq2]
     | some l =>
      refine PureOK.via 3 (refStep_6a w0 w1 w2 rest hm hl t r hq hk l hq2) ?_
      rw [canon_raw, canon_ints]
      simp [refStepP, hq, hk, hq2, refKind, canon_nil, stepTup, stepP, stepC, zeroStep, intsP, queriesP]
end
end Pur
end Go.Proofs.YteokbngllldmdaaGreatDoor
namespace Go.Proofs.YteokbngllldmdaaGreatDoor
namespace Pur
open Go.RowKit
attribute [local go_sem] evOps evOp evOpV evRun evK argF List.map hintAt stripped get put tmpsOf tmpOf tmpO tmpL tmpP conds ev cond_true cond_false Nat.beq Nat.ble Nat.add quiet After thenR blockR IfD List.append_eq List.nil_append List.cons_append evInt exactI_a exactI_b exactI_c exactI_d exactI_e exactI_f evBin evStr evBool evUn guardC calm quiet.isCallK evPick List.getElem?_cons_zero List.getElem?_cons_succ fromCells fromPVs cellsOf List.all oneCell List.length_cons List.length_nil mkAgg plains List.drop List.take List.getD Option.getD_some bo1 bo2 ba1 ba2 bn1 bn2 kk_i64 kk_u8 kk_i32 kk_u64 setAt List.set Nat.reduceAdd Nat.reduceMul evCall safeCall refsOf refsIn scalarA scalar scalarL thawL mapAll thawArg thawRef after freeze RetD RetE evResult evRess evRes1 thaw_pv mkTup nilOf_a nilOf_b nilOf_bb nilOf_c nilOf_d nilOf_e nilOf_f nilOf_g nilOf_h nilOf_i nilOf_j nilOf_k nilOf_l nilOf_m eqLeaf_a eqLeaf_b eqLeaf_c eqOffs evMM bytesOf evOpsF AfterF footOf footRefs notIn indepF footAt freeOk still evParts fillA zeros intOfA boundA srcOf List.isEmpty appNil_0 appNil_1 appNil_2 Int.reduceToNat Nat.mul_one Nat.reduceSub evC evOpsT evOpsTF autoH tabHint look hintD strip guarded RetPD RetRD mpLen keysOk leafKA leafK bitI nilOf_n nilOf_o Bool.or_false Bool.or_true Bool.and_true Bool.and_false Nat.blt renF renM renB renV idxOf solF solM solA solV thawRef ev1
section
open Sch
theorem keys_shapes : keysOk .str (shapesL.map AV.pv) = true := by
 simp only [shapesL, List.map_cons, List.map_nil, keysOk, leafKA, leafK, Bool.and_self]
def badStep (known ok : Bool) (n : Nat) (lo hi : Int) : Bool := !known || !ok || decide ((n : Int) < lo) || (decide (0 ≤ hi) && decide (hi < n))
set_option maxHeartbeats 4000000 in
theorem step_pre (s : Sched) (st : PV) (w0 w1 w2 : List UInt8) (l : List (List UInt8)) (hm : (w0 :: w1 :: w2 :: l).length ≤ 1000000) (hw : ∀ x ∈ w0 :: w1 :: w2 :: l, x.length ≤ 281474976710656)
  (known : Bool) (lo hi : Int) (hg : mpGet (shapesL.map AV.pv) (.str w2) (.pv (.agg [.int .i64 0, .int .i64 0])) = .pv (.agg [.int .i64 lo, .int .i64 hi])) (hh : mpHas (shapesL.map AV.pv) (.str w2) = known)
  (r : Bool) (μ' : AM) (hl : (rdM s st 5).length ≤ μ'.length) (ho : okMem μ' μ'.length = true) (hno : badStep known (numOf w1).isSome l.length lo hi = true → r = false ∧ μ' = rdM s st 5)
  (hyes : badStep known (numOf w1).isSome l.length lo hi = false → ∀ own, Aw ctx own 188 (rdM s st 5).length step9 (RetRD [.t 4] (.pv (.bool r)) μ')
   [(0, .ptr 1 0 0), (1, .pv (.sl (l.length + 1 + 1 + 1) (.str w0 :: .str w1 :: .str w2 :: l.map .str))), (5, .pv (wordsP kindWords)), (6, .pv (wordsP queryWords)), (9, .pv (.int .i64 (numV w1))), (11, .pv (.sl l.length (l.map .str)))] (rdM s st 5)) :
  RefOK ctx 25 [.ptr 1 0 0, .pv (wordsP (w0 :: w1 :: w2 :: l))] (rdM s st 5) (.pv (.bool r)) μ' := by
 have hN := number_ok w1 (hw w1 (by simp))
 have hlen := rdM_len s st 5
 have hok := rdM_ok s st 5
 generalize hμ : rdM s st 5 = μ at *
 refine ref_body' (C := ctx) (Fn.of fn25 rfl) rfl hl rfl ho ?_
 refine aw_frame [(0, .ptr 1 0 0), (1, .pv (.sl (l.length + 1 + 1 + 1) (.str w0 :: .str w1 :: .str w2 :: l.map .str)))] ⟨rfl, rfl, trivial⟩ ?_
 unfold c25
 have e1 : ((l.length : Int) + 1 + 1 + 1 - 3).toNat = l.length := by omega
 have e2 : List.take l.length (l.map PV.str) = l.map .str := List.take_of_length_le (by simp)
 iterate 9 first
  | refine ⟨fun h => by simp at h <;> omega, fun _ => ?_⟩
  | refine ⟨by simp [vb, words_ok] <;> omega, by simp [vb, words_ok] <;> omega, ?_⟩
  | (refine evT [(64, fun _ => some (.tup [wordsP kindWords, wordsP queryWords]))] ?_; iterate 2 (try simp only [mem2_get, mem2_last, mem2_set0, mem2_set1, mem_last, mem_set, mem_len, go_sem]))
 refine evTH [(65, fun _ => some (.mp shapesL))] [(30, { val := some (.pv (.tup [.agg [.int .i64 lo, .int .i64 hi], .bool known])) })] ?_
 simp only [mem2_get, mem2_last, mem2_set0, mem2_set1, mem_last, mem_set, mem_len, go_sem]
 try simp only [mem2_get, mem2_last, mem2_set0, mem2_set1, mem_last, mem_set, mem_len, go_sem]
 refine ⟨(by simp [vb, keys_shapes] <;> omega), ?_, (by first | rfl | trivial), ?_⟩
 ·simp [All, VCs, hg, hh, shapes_ok, keys_shapes, mkTup, plains]
 refine evTH [(66, fun _ => some (.tup [.int .i64 (numV w1), .bool (numOf w1).isSome]))] [(41, { val := some (.pv (.sl l.length (l.map .str))) })] ?_
 simp only [mem2_get, mem2_last, mem2_set0, mem2_set1, mem_last, mem_set, mem_len, go_sem]
 try simp only [mem2_get, mem2_last, mem2_set0, mem2_set1, mem_last, mem_set, mem_len, go_sem]
 refine ⟨(by simp [vb, hN, e1, e2] <;> omega), (by simp [vb, hN, e1, e2] <;> omega), ?_⟩
 refine evTH [(66, fun _ => some (.tup [.int .i64 (numV w1), .bool (numOf w1).isSome]))] [(41, { val := some (.pv (.sl l.length (l.map .str))) })] ?_
 simp only [mem2_get, mem2_last, mem2_set0, mem2_set1, mem_last, mem_set, mem_len, go_sem]
 try simp only [mem2_get, mem2_last, mem2_set0, mem2_set1, mem_last, mem_set, mem_len, go_sem]
 refine ⟨(by simp [vb, hN, e1, e2] <;> omega), (by simp [vb, hN, e1, e2] <;> omega), ?_⟩
 refine evH [(66, { val := some (.pv (.bool (badStep known (numOf w1).isSome l.length lo hi))) })] ?_
 simp only [mem2_get, mem2_last, mem2_set0, mem2_set1, mem_last, mem_set, mem_len, go_sem]
 try simp only [mem2_get, mem2_last, mem2_set0, mem2_set1, mem_last, mem_set, mem_len, go_sem]
 refine ⟨(by simp [vb] <;> omega), ?_, ?_⟩
 ·simp only [badStep]
  clear hg hh hno hyes hN
  generalize (numOf w1).isSome = b1
  generalize decide ((l.length : Int) < lo) = b2
  generalize decide (0 ≤ hi) = b3
  generalize decide (hi < (l.length : Int)) = b4
  cases known <;> cases b1 <;> cases b2 <;> cases b3 <;> cases b4 <;> simp [All, VCs]
 cases hb : badStep known (numOf w1).isSome l.length lo hi with
 | true =>
  obtain ⟨rfl, rfl⟩ := hno hb
  iterate 5 first
   | refine ⟨fun _ => ?_, fun h => by simp at h <;> omega⟩
   | refine ⟨by simp [vb] <;> omega, by simp [vb] <;> omega, ?_⟩
   | (refine evA ?_; iterate 2 (try simp only [mem2_get, mem2_last, mem2_set0, mem2_set1, mem_last, mem_set, mem_len, go_sem]))
  exact ⟨⟨trivial, trivial⟩, _, rfl⟩
 | false =>
  refine evA ?_
  simp only [mem2_get, mem2_last, mem2_set0, mem2_set1, mem_last, mem_set, mem_len, go_sem]
  refine ⟨fun h => by simp at h <;> omega, fun _ => ?_⟩
  refine evA ?_
  simp only [mem2_get, mem2_last, mem2_set0, mem2_set1, mem_last, mem_set, mem_len, go_sem]
  refine aw_frame [(0, .ptr 1 0 0), (1, .pv (.sl (l.length + 1 + 1 + 1) (.str w0 :: .str w1 :: .str w2 :: l.map .str))), (5, .pv (wordsP kindWords)), (6, .pv (wordsP queryWords)), (9, .pv (.int .i64 (numV w1))), (11, .pv (.sl l.length (l.map .str)))] ⟨rfl, rfl, rfl, rfl, rfl, rfl, trivial⟩ ?_
  exact aw_drop (Nat.le_refl _) (by simp [okFrame, bnd, Nat.blt]; omega) hok (hyes hb _)
set_option maxHeartbeats 1000000 in
theorem step_nine (μ : AM) (R : Exit → AF → AM → Prop) (own : Nat → Bool) (w0 w1 w2 : List UInt8) (l : List (List UInt8)) (t : Int) (K : Nat) (hK : idxW kindWords w2 = K) (h1 : ((K : Int) == 1) = false)
  (h : Aw ctx own 188 μ.length step22 R [(0, .ptr 1 0 0), (11, .pv (wordsP l)), (12, .ptr μ.length 0 0)] (μ ++ [xBlk t K (.pv .nilsl)])) :
  Aw ctx own 188 μ.length step9 R
   [(0, .ptr 1 0 0), (1, .pv (.sl (l.length + 1 + 1 + 1) (.str w0 :: .str w1 :: .str w2 :: l.map .str))), (5, .pv (wordsP kindWords)), (6, .pv (wordsP queryWords)), (9, .pv (.int .i64 t)), (11, .pv (.sl l.length (l.map .str)))] μ := by
 have hI := index_ok kindWords w2 (by simp [kindWords])
 rw [hK] at hI
 unfold step9
 refine evT [(67, fun _ => some (.int .i64 K))] ?_
 simp only [mem2_get, mem2_last, mem2_set0, mem2_set1, mem_last, mem_set, mem_len, go_sem]
 try simp only [mem2_get, mem2_last, mem2_set0, mem2_set1, mem_last, mem_set, mem_len, go_sem]
 refine ⟨(by simp [vb, hI] <;> omega), (by simp [vb, hI] <;> omega), ?_⟩
 refine evA ?_
 simp only [mem2_get, mem2_last, mem2_set0, mem2_set1, mem_last, mem_set, mem_len, go_sem]
 try simp only [mem2_get, mem2_last, mem2_set0, mem2_set1, mem_last, mem_set, mem_len, go_sem]
 refine ⟨(by simp [vb] <;> omega), (by simp [vb] <;> omega), ?_⟩
 rw [h1]
 refine evA ?_
 simp only [mem2_get, mem2_last, mem2_set0, mem2_set1, mem_last, mem_set, mem_len, go_sem]
 refine ⟨fun h => by simp at h <;> omega, fun _ => ?_⟩
 refine evA ?_
 simp only [mem2_get, mem2_last, mem2_set0, mem2_set1, mem_last, mem_set, mem_len, go_sem]
 exact aw_frame [(0, .ptr 1 0 0), (11, .pv (wordsP l)), (12, .ptr μ.length 0 0)] ⟨rfl, rfl, rfl, trivial⟩ h
def queriesOf : List (List UInt8) → Option (List Query)
 | [] => some []
 | k :: c :: r => if idxW queryWords k < 0 then none else match numOf c, queriesOf r with
  | some n, some q => some ((idxW queryWords k, n) :: q)
  | _, _ => none
 | _ => none
def qA (μ : AM) : List Query → AV
 | [] => .pv .nilsl
 | _ :: r => .ref (μ.length + 1) r.length 0 (r.length + 1)
def qB : List Query → AM
 | [] => []
 | x :: r => [⟨((x :: r).flatMap queryC).map .pv, r.length, 2, 55, false⟩]
theorem qA_nil (μ : AM) : qA μ [] = .pv .nilsl := rfl
theorem qA_cons (μ : AM) (x : Query) (r : List Query) : qA μ (x :: r) = .ref (μ.length + 1) r.length 0 (r.length + 1) := rfl
theorem qB_nil : qB [] = [] := rfl
theorem qB_cons (x : Query) (r : List Query) : qB (x :: r) = [⟨((x :: r).flatMap queryC).map .pv, r.length, 2, 55, false⟩] := rfl
def loopInv (μ : AM) (t : Int) (a b : List UInt8) (l : List (List UInt8)) (k : Nat) (f : AF) (μ' : AM) : Prop :=
 ∃ todo done qs, l = done ++ todo ∧ k = todo.length ∧ done.length = 2 * qs.length ∧ (queriesOf l = (queriesOf todo).map (qs ++ ·)) ∧ μ' = μ ++ [xBlk t 1 (qA μ qs)] ++ qB qs ∧
  Sub [(0, .ptr 1 0 0), (6, .pv (wordsP queryWords)), (11, .pv (.sl (l.length + 1 + 1) (.str a :: .str b :: l.map .str))), (12, .ptr μ.length 0 0), (13, .pv (.int .i64 (done.length + 2)))] f
theorem word_at {l done r : List (List UInt8)} {c : List UInt8} (h : l = done ++ c :: r) : (l.map PV.str)[done.length]? = some (.str c) := by simp [h]
theorem word_at1 {l done r : List (List UInt8)} {c d : List UInt8} (h : l = done ++ c :: d :: r) : (l.map PV.str)[done.length + 1]? = some (.str d) := by
 rw [h, List.map_append, List.getElem?_append_right (by simp)]
 simp
set_option maxHeartbeats 4000000 in
theorem step_loop (μ : AM) (hμ : okMem μ μ.length = true) (R : Exit → AF → AM → Prop) (own : Nat → Bool) (t : Int) (a b : List UInt8) (l : List (List UInt8)) (hm : l.length ≤ 100000) (hw : ∀ x ∈ l, x.length ≤ 281474976710656)
  (hno : queriesOf l = none → ∀ f junk, get f 4 = .pv (.bool false) → R .ret f (μ ++ junk))
  (hyes : ∀ qs, queriesOf l = some qs → ∀ f, Sub [(0, .ptr 1 0 0), (6, .pv (wordsP queryWords)), (11, .pv (.sl (l.length + 1 + 1) (.str a :: .str b :: l.map .str))), (12, .ptr μ.length 0 0)] f → R (.exit 0) f (μ ++ [xBlk t 1 (qA μ qs)] ++ qB qs)) :
  Aw ctx own 188 μ.length stepLoop R [(0, .ptr 1 0 0), (6, .pv (wordsP queryWords)), (11, .pv (.sl (l.length + 1 + 1) (.str a :: .str b :: l.map .str))), (12, .ptr μ.length 0 0), (13, .pv (.int .i64 2))] (μ ++ [xBlk t 1 (.pv .nilsl)]) := by
 unfold stepLoop
 refine aw_loop (loopInv μ t a b l) ?_ l.length ?_
 ·rintro k f μ' ⟨todo, done, qs, hx, rfl, hd, hq, rfl, hs⟩
  refine aw_frame _ hs ?_
  have hxl : l.length = done.length + todo.length := by rw [hx, List.length_append]
  have ei : ((done.length : Int) + 2).toNat = done.length + 1 + 1 := by omega
  have ej : ((done.length : Int) + 2 + 1).toNat = done.length + 1 + 1 + 1 := by omega
  refine evA ?_
  simp only [mem2_get, mem2_last, mem2_set0, mem2_set1, mem_last, mem_set, mem_len, go_sem]
  try simp only [mem2_get, mem2_last, mem2_set0, mem2_set1, mem_last, mem_set, mem_len, go_sem]
  refine ⟨(by simp [vb] <;> omega), (by simp [vb] <;> omega), ?_⟩
  refine evA ?_
  simp only [mem2_get, mem2_last, mem2_set0, mem2_set1, mem_last, mem_set, mem_len, go_sem]
  refine ⟨fun hc => ?_, fun hc => ?_⟩
  ·match todo, hx, hxl, hq with
   | [], hx, hxl, hq => simp at hc hxl; omega
   | [c], hx, hxl, hq =>
    have hnone : queriesOf l = none := by rw [hq]; rfl
    have hI := index_ok queryWords c (by simp [queryWords])
    have hc2 := word_at hx
    simp only [List.length_cons, List.length_nil] at hxl
    refine evTH [(67, fun _ => some (.int .i64 (idxW queryWords c)))] [(87, { val := some (.pv (.str c)) })] ?_
    simp only [mem2_get, mem2_last, mem2_set0, mem2_set1, mem_last, mem_set, mem_len, go_sem]
    refine evTH [(67, fun _ => some (.int .i64 (idxW queryWords c)))] [(87, { val := some (.pv (.str c)) })] ?_
    simp only [mem2_get, mem2_last, mem2_set0, mem2_set1, mem_last, mem_set, mem_len, go_sem]
    try simp only [mem2_get, mem2_last, mem2_set0, mem2_set1, mem_last, mem_set, mem_len, go_sem]
    refine ⟨(by simp [vb, hI] <;> omega), ?_, ?_⟩
    ·refine ⟨hI, ?_, trivial⟩
     simp only [ei, Nat.mul_one, List.getElem?_cons_succ, hc2, Option.getD_some]
    refine evH [(97, { val := some (.pv (.bool true)) })] ?_
    simp only [mem2_get, mem2_last, mem2_set0, mem2_set1, mem_last, mem_set, mem_len, go_sem]
    try simp only [mem2_get, mem2_last, mem2_set0, mem2_set1, mem_last, mem_set, mem_len, go_sem]
    refine ⟨(by simp [vb] <;> omega), ?_, ?_⟩
    ·have : ((done.length : Int) + 2 + 1 == ((l.length + 1 + 1 : Nat) : Int)) = true := by simp; omega
     simp [All, VCs, minI, maxI, this]
     omega
    iterate 5 first
     | refine ⟨fun _ => ?_, fun h => by simp at h <;> omega⟩
     | refine ⟨by simp [vb] <;> omega, by simp [vb] <;> omega, ?_⟩
     | (refine evA ?_; iterate 2 (try simp only [mem2_get, mem2_last, mem2_set0, mem2_set1, mem_last, mem_set, mem_len, go_sem]))
    rw [List.append_assoc]
    exact hno hnone _ _ rfl
   | c :: d :: r, hx, hxl, hq =>
    have hI := index_ok queryWords c (by simp [queryWords])
    have hN := number_ok d (hw d (by simp [hx]))
    have hc2 := word_at hx
    have hd2 := word_at1 hx
    simp only [List.length_cons] at hxl
    refine evTH [(67, fun _ => some (.int .i64 (idxW queryWords c)))] [(87, { val := some (.pv (.str c)) })] ?_
    simp only [mem2_get, mem2_last, mem2_set0, mem2_set1, mem_last, mem_set, mem_len, go_sem]
    refine evTH [(67, fun _ => some (.int .i64 (idxW queryWords c)))] [(87, { val := some (.pv (.str c)) })] ?_
    simp only [mem2_get, mem2_last, mem2_set0, mem2_set1, mem_last, mem_set, mem_len, go_sem]
    try simp only [mem2_get, mem2_last, mem2_set0, mem2_set1, mem_last, mem_set, mem_len, go_sem]
    refine ⟨(by simp [vb, hI] <;> omega), ?_, ?_⟩
    ·refine ⟨hI, ?_, trivial⟩
     simp only [ei, Nat.mul_one, List.getElem?_cons_succ, hc2, Option.getD_some]
    have hne : ((done.length : Int) + 2 + 1 == ((l.length + 1 + 1 : Nat) : Int)) = false := by simp; omega
    by_cases hneg : idxW queryWords c < 0
    ·have hnone : queriesOf l = none := by rw [hq]; simp [queriesOf, hneg]
     refine evH [(97, { val := some (.pv (.bool true)) })] ?_
     simp only [mem2_get, mem2_last, mem2_set0, mem2_set1, mem_last, mem_set, mem_len, go_sem]
     try simp only [mem2_get, mem2_last, mem2_set0, mem2_set1, mem_last, mem_set, mem_len, go_sem]
     refine ⟨(by simp [vb] <;> omega), ?_, ?_⟩
     ·first | (simp [All, VCs, minI, maxI, hneg]; done) | (simp [All, VCs, minI, maxI, hneg]; omega)
     iterate 5 first
      | refine ⟨fun _ => ?_, fun h => by simp at h <;> omega⟩
      | refine ⟨by simp [vb] <;> omega, by simp [vb] <;> omega, ?_⟩
      | (refine evA ?_; iterate 2 (try simp only [mem2_get, mem2_last, mem2_set0, mem2_set1, mem_last, mem_set, mem_len, go_sem]))
     rw [List.append_assoc]
     exact hno hnone _ _ rfl
    ·refine evH [(97, { val := some (.pv (.bool false)) })] ?_
     simp only [mem2_get, mem2_last, mem2_set0, mem2_set1, mem_last, mem_set, mem_len, go_sem]
     try simp only [mem2_get, mem2_last, mem2_set0, mem2_set1, mem_last, mem_set, mem_len, go_sem]
     refine ⟨(by simp [vb] <;> omega), ?_, ?_⟩
     ·simp [All, VCs, minI, maxI, hneg, hne]
      omega
     refine evTH [(66, fun _ => some (.tup [.int .i64 (numV d), .bool (numOf d).isSome]))] [(103, { val := some (.pv (.str d)) })] ?_
     simp only [mem2_get, mem2_last, mem2_set0, mem2_set1, mem_last, mem_set, mem_len, go_sem]
     refine ⟨fun h => by simp at h <;> omega, fun _ => ?_⟩
     refine evTH [(66, fun _ => some (.tup [.int .i64 (numV d), .bool (numOf d).isSome]))] [(103, { val := some (.pv (.str d)) })] ?_
     simp only [mem2_get, mem2_last, mem2_set0, mem2_set1, mem_last, mem_set, mem_len, go_sem]
     refine evTH [(66, fun _ => some (.tup [.int .i64 (numV d), .bool (numOf d).isSome]))] [(103, { val := some (.pv (.str d)) })] ?_
     simp only [mem2_get, mem2_last, mem2_set0, mem2_set1, mem_last, mem_set, mem_len, go_sem]
     try simp only [mem2_get, mem2_last, mem2_set0, mem2_set1, mem_last, mem_set, mem_len, go_sem]
     refine ⟨(by simp [vb, hN] <;> omega), ?_, ?_⟩
     ·refine ⟨hN, ?_, trivial⟩
      simp only [ej, Nat.mul_one, List.getElem?_cons_succ, hd2, Option.getD_some]
     cases hnd : numOf d with
     | none =>
      have hnone : queriesOf l = none := by rw [hq]; simp [queriesOf, hneg, hnd]
      iterate 7 first
       | refine ⟨fun _ => ?_, fun h => by simp at h <;> omega⟩
       | refine ⟨by simp [vb] <;> omega, by simp [vb] <;> omega, ?_⟩
       | (refine evA ?_; iterate 2 (try simp only [mem2_get, mem2_last, mem2_set0, mem2_set1, mem_last, mem_set, mem_len, go_sem]))
      rw [List.append_assoc]
      exact hno hnone _ _ rfl
     | some v =>
      have hv := numOf_numV hnd
      have hq2 : queriesOf l = (queriesOf r).map ((qs ++ [(idxW queryWords c, v)]) ++ ·) := by
       rw [hq]
       simp only [queriesOf, hneg, if_false, hnd]
       cases queriesOf r <;> simp
      have hend : ∀ f μ', μ' = μ ++ [xBlk t 1 (qA μ (qs ++ [(idxW queryWords c, v)]))] ++ qB (qs ++ [(idxW queryWords c, v)]) → Sub [(0, .ptr 1 0 0), (6, .pv (wordsP queryWords)), (11, .pv (.sl (l.length + 1 + 1) (.str a :: .str b :: l.map .str))), (12, .ptr μ.length 0 0), (13, .pv (.int .i64 (done.length + 2 + 2)))] f →
        ∃ j, j < (c :: d :: r).length ∧ loopInv μ t a b l j f μ' := fun f μ' h1 h2 =>
       ⟨r.length, by first | (simp; done) | (simp; omega), r, done ++ [c, d], qs ++ [(idxW queryWords c, v)], by simp [hx], rfl, by first | (simp [hd]; done) | (simp; omega), hq2, h1, by
        have : (((done ++ [c, d]).length : Nat) : Int) + 2 = (done.length : Int) + 2 + 2 := by first | (simp; done) | (simp; omega)
        rw [this]
        exact h2⟩
      subst hv
      cases qs with
      | nil =>
       iterate 5 first
        | refine ⟨fun h => by simp at h <;> omega, fun _ => ?_⟩
        | refine ⟨by simp [vb] <;> omega, by simp [vb] <;> omega, ?_⟩
        | (refine evA ?_; iterate 2 (try simp only [qA_nil, qB_nil, xBlk, List.append_nil, mem2_get, mem2_last, mem2_set0, mem2_set1, mem_last, mem_set, mem_len, go_sem]))
       refine evA ?_
       simp only [qA_nil, qB_nil, xBlk, List.append_nil, mem2_get, mem2_last, mem2_set0, mem2_set1, mem_last, mem_set, mem_len, go_sem]
       try simp only [qA_nil, qB_nil, xBlk, List.append_nil, mem2_get, mem2_last, mem2_set0, mem2_set1, mem_last, mem_set, mem_len, go_sem]
       refine ⟨(by first | exact True.intro | (simp only [vb, lb]; omega) | (simp [vb] <;> omega)), (by first | exact True.intro | ((try dsimp only [go_sem]); first | (simp [vb] <;> omega) | (simp only [vb, and_true, true_implies]; (repeat' (first | assumption | (with_reducible apply And.intro) | intro _)) <;> first | omega | rfl | (simp only [ab]; done) | (simp [Nat.mul_one] <;> omega) | (simp_all; done)))), ?_⟩
       refine evA ?_
       simp only [qA_nil, qB_nil, xBlk, List.append_nil, mem2_get, mem2_last, mem2_set0, mem2_set1, mem_last, mem_set, mem_len, go_sem]
       try simp only [qA_nil, qB_nil, xBlk, List.append_nil, mem2_get, mem2_last, mem2_set0, mem2_set1, mem_last, mem_set, mem_len, go_sem]
       refine ⟨(by simp [vb] <;> omega), (by simp [vb] <;> omega), ?_⟩
       refine hend _ _ ?_ ⟨rfl, rfl, rfl, rfl, rfl, trivial⟩
       simp [qA, qB, xBlk, queryC]
      | cons q0 qr =>
       simp only [List.length_cons] at hd
       iterate 5 first
        | refine ⟨fun h => by simp at h <;> omega, fun _ => ?_⟩
        | refine ⟨by simp [vb, flatMap_length queryC_len] <;> omega, by simp [vb, flatMap_length queryC_len] <;> omega, ?_⟩
        | (refine evA ?_; iterate 2 (try simp only [qA_cons, qB_cons, xBlk, mem2_get, mem2_last, mem2_set0, mem2_set1, mem_last, mem_set, mem_len, go_sem]))
       refine evA ?_
       simp only [qA_cons, qB_cons, xBlk, mem2_get, mem2_last, mem2_set0, mem2_set1, mem_last, mem_set, mem_len, go_sem]
       try simp only [qA_cons, qB_cons, xBlk, mem2_get, mem2_last, mem2_set0, mem2_set1, mem_last, mem_set, mem_len, go_sem]
       refine ⟨(by first | exact True.intro | (simp only [vb, lb]; omega) | (simp only [vb, lb, flatMap_length queryC_len]; and_intros <;> first | omega | (simp <;> omega)) | (simp [vb, flatMap_length queryC_len] <;> omega)), (by first | exact True.intro | ((try dsimp only [go_sem]); first | (simp [vb, flatMap_length queryC_len] <;> omega) | (simp only [vb, and_true, true_implies]; (repeat' (first | assumption | (with_reducible apply And.intro) | intro _)) <;> first | omega | rfl | (simp only [ab, flatMap_length queryC_len]; done) | (simp [Nat.mul_one, flatMap_length queryC_len] <;> omega) | (simp_all; done)))), ?_⟩
       refine evA ?_
       simp only [qA_cons, qB_cons, xBlk, mem2_get, mem2_last, mem2_set0, mem2_set1, mem_last, mem_set, mem_len, go_sem]
       try simp only [qA_cons, qB_cons, xBlk, mem2_get, mem2_last, mem2_set0, mem2_set1, mem_last, mem_set, mem_len, go_sem]
       refine ⟨(by simp [vb, flatMap_length queryC_len] <;> omega), (by simp [vb, flatMap_length queryC_len] <;> omega), ?_⟩
       refine hend _ _ ?_ ⟨rfl, rfl, rfl, rfl, rfl, trivial⟩
       simp [qA, qB, xBlk, queryC]
  ·have ht : todo = [] := by
    have : ¬ ((done.length : Int) + 2 < ((l.length + 1 + 1 : Nat) : Int)) := by simpa using hc
    exact List.eq_nil_of_length_eq_zero (by omega)
   subst ht
   refine evA ?_
   simp only [mem2_get, mem2_last, mem2_set0, mem2_set1, mem_last, mem_set, mem_len, go_sem]
   exact hyes qs (by rw [hq]; simp [queriesOf]) _ ⟨rfl, rfl, rfl, rfl, trivial⟩
 ·exact ⟨l, [], [], rfl, rfl, rfl, by simp, by simp [qA_nil, qB_nil], rfl, rfl, rfl, rfl, rfl, trivial⟩
def queriesN : List Query → PV
 | [] => .nilsl
 | x :: r => .sl (r.length + 1) ((x :: r).flatMap queryC)
theorem queriesN_weak (qs : List Query) : CW (.pv (queriesN qs)) (.pv (queriesP qs)) := by
 cases qs with
 | nil => exact CW.nil
 | cons x r => exact CW.refl _
set_option maxHeartbeats 1000000 in
theorem step_nine_read (μ : AM) (hμ : okMem μ μ.length = true) (hlen : 3 ≤ μ.length) (R : Exit → AF → AM → Prop) (own : Nat → Bool) (w0 w1 w2 a b : List UInt8) (l : List (List UInt8)) (t : Int) (hK : idxW kindWords w2 = 1) (hm : l.length ≤ 100000) (hw : ∀ x ∈ l, x.length ≤ 281474976710656)
  (hno : queriesOf l = none → ∀ f junk, get f 4 = .pv (.bool false) → R .ret f (μ ++ junk))
  (hyes : ∀ qs, queriesOf l = some qs → Aw ctx own 188 μ.length step22 R [(0, .ptr 1 0 0), (11, .pv (wordsP [a, b])), (12, .ptr μ.length 0 0)] (μ ++ [xBlk t 1 (.pv (queriesN qs))])) :
  Aw ctx own 188 μ.length step9 R
   [(0, .ptr 1 0 0), (1, .pv (.sl (l.length + 1 + 1 + 1 + 1 + 1) (.str w0 :: .str w1 :: .str w2 :: .str a :: .str b :: l.map .str))), (5, .pv (wordsP kindWords)), (6, .pv (wordsP queryWords)), (9, .pv (.int .i64 t)), (11, .pv (.sl (l.length + 1 + 1) (.str a :: .str b :: l.map .str)))] μ := by
 have hI := index_ok kindWords w2 (by simp [kindWords])
 rw [hK] at hI
 unfold step9
 refine evT [(67, fun _ => some (.int .i64 1))] ?_
 simp only [mem2_get, mem2_last, mem2_set0, mem2_set1, mem_last, mem_set, mem_len, go_sem]
 try simp only [mem2_get, mem2_last, mem2_set0, mem2_set1, mem_last, mem_set, mem_len, go_sem]
 refine ⟨(by simp [vb, hI] <;> omega), (by simp [vb, hI] <;> omega), ?_⟩
 iterate 6 first
  | refine ⟨fun _ => ?_, fun h => by simp at h <;> omega⟩
  | refine ⟨by simp [vb] <;> omega, by simp [vb] <;> omega, ?_⟩
  | (refine evA ?_; iterate 2 (try simp only [mem2_get, mem2_last, mem2_set0, mem2_set1, mem_last, mem_set, mem_len, go_sem]))
 refine aw_block (aw_frame [(0, .ptr 1 0 0), (6, .pv (wordsP queryWords)), (11, .pv (.sl (l.length + 1 + 1) (.str a :: .str b :: l.map .str))), (12, .ptr μ.length 0 0), (13, .pv (.int .i64 2))] ⟨rfl, rfl, rfl, rfl, rfl, trivial⟩ ?_)
 refine step_loop μ hμ _ own t a b l hm hw hno fun qs hqs f hf => ?_
 have hy := hyes qs hqs
 refine aw_frame _ hf ?_
 refine aw_frame [(0, .ptr 1 0 0), (11, .pv (.sl (l.length + 1 + 1) (.str a :: .str b :: l.map .str))), (12, .ptr μ.length 0 0)] ⟨rfl, rfl, rfl, trivial⟩ ?_
 cases qs with
 | nil =>
  simp only [qA_nil, qB_nil, List.append_nil]
  refine evA ?_
  simp only [mem2_get, mem2_last, mem2_set0, mem2_set1, mem_last, mem_set, mem_len, go_sem]
  try simp only [mem2_get, mem2_last, mem2_set0, mem2_set1, mem_last, mem_set, mem_len, go_sem]
  refine ⟨(by simp [vb] <;> omega), (by simp [vb] <;> omega), ?_⟩
  exact aw_frame [(0, .ptr 1 0 0), (11, .pv (wordsP [a, b])), (12, .ptr μ.length 0 0)] ⟨rfl, by simp [get, wordsP], rfl, trivial⟩ hy
 | cons q0 qr =>
  refine aw_rowDone (c1 := [.int .i64 t, .int .i64 1, .int .i64 0, .int .i64 0, .int .i64 0, .int .i64 0, .int .i64 0]) (c2 := [.nilsl, .nilsl]) (ps := (q0 :: qr).flatMap queryC) (n := qr.length + 1) (sz := 2) hμ (Nat.le_refl _) (by simp) (by rw [flatMap_length queryC_len]; simp) (fun M => rfl) (by simp [okFrame, bnd, Nat.blt]; omega) ?_
  refine evA ?_
  simp only [mem2_get, mem2_last, mem2_set0, mem2_set1, mem_last, mem_set, mem_len, go_sem]
  try simp only [mem2_get, mem2_last, mem2_set0, mem2_set1, mem_last, mem_set, mem_len, go_sem]
  refine ⟨(by simp [vb] <;> omega), (by simp [vb] <;> omega), ?_⟩
  exact aw_frame [(0, .ptr 1 0 0), (11, .pv (wordsP [a, b])), (12, .ptr μ.length 0 0)] ⟨rfl, by simp [get, wordsP], rfl, trivial⟩ hy
end
section
open Sch
def shapeOf : Nat → Int × Int
 | 0 => (3, 3)
 | 1 => (4, -1)
 | 2 => (2, 2)
 | 3 => (2, 2)
 | 4 => (2, -1)
 | 5 => (1, 1)
 | _ => (2, -1)
theorem kind_cases (w : List UInt8) : (idxW kindWords w = -1 ∧ mpGet (shapesL.map AV.pv) (.str w) (.pv (.agg [.int .i64 0, .int .i64 0])) = .pv (.agg [.int .i64 0, .int .i64 0]) ∧ mpHas (shapesL.map AV.pv) (.str w) = false) ∨
  ∃ K : Nat, K ≤ 6 ∧ idxW kindWords w = K ∧ mpGet (shapesL.map AV.pv) (.str w) (.pv (.agg [.int .i64 0, .int .i64 0])) = .pv (.agg [.int .i64 (shapeOf K).1, .int .i64 (shapeOf K).2]) ∧ mpHas (shapesL.map AV.pv) (.str w) = true := by
 by_cases h0 : w = [115, 117, 98, 109, 105, 116]
 ·subst h0; exact .inr ⟨0, by omega, rfl, rfl, rfl⟩
 by_cases h1 : w = [114, 101, 97, 100]
 ·subst h1; exact .inr ⟨1, by omega, rfl, rfl, rfl⟩
 by_cases h2 : w = [99, 117, 116]
 ·subst h2; exact .inr ⟨2, by omega, rfl, rfl, rfl⟩
 by_cases h3 : w = [104, 101, 97, 108]
 ·subst h3; exact .inr ⟨3, by omega, rfl, rfl, rfl⟩
 by_cases h4 : w = [99, 114, 97, 115, 104]
 ·subst h4; exact .inr ⟨4, by omega, rfl, rfl, rfl⟩
 by_cases h5 : w = [114, 101, 115, 116, 97, 114, 116]
 ·subst h5; exact .inr ⟨5, by omega, rfl, rfl, rfl⟩
 by_cases h6 : w = [118, 111, 116, 101, 114, 115]
 ·subst h6; exact .inr ⟨6, by omega, rfl, rfl, rfl⟩
 have q0 := beq_eq_false_iff_ne.mpr h0
 have q1 := beq_eq_false_iff_ne.mpr h1
 have q2 := beq_eq_false_iff_ne.mpr h2
 have q3 := beq_eq_false_iff_ne.mpr h3
 have q4 := beq_eq_false_iff_ne.mpr h4
 have q5 := beq_eq_false_iff_ne.mpr h5
 have q6 := beq_eq_false_iff_ne.mpr h6
 refine .inl ⟨?_, ?_, ?_⟩
 ·simp [idxW, kindWords, List.findIdx?_cons, h0, h1, h2, h3, h4, h5, h6]
 ·simp [shapesL, mpGet, eqKey, q0, q1, q2, q3, q4, q5, q6]
 ·simp [shapesL, mpHas, eqKey, h0, h1, h2, h3, h4, h5, h6]
def stepOf : List (List UInt8) → Option Step
 | w1 :: w2 :: l =>
  if idxW kindWords w2 < 0 then none else
  if badStep true (numOf w1).isSome l.length (shapeOf (idxW kindWords w2).toNat).1 (shapeOf (idxW kindWords w2).toNat).2 then none else
  if idxW kindWords w2 = 1 then match queriesOf (l.drop 2), numsOf (l.take 2) with
   | some q, some n => some (buildStep 1 (numV w1) q n)
   | _, _ => none
  else match numsOf l with
   | some n => some (buildStep (idxW kindWords w2).toNat (numV w1) [] n)
   | none => none
 | _ => none
theorem buildStep_sizes (K : Nat) (t : Int) (qs : List Query) (n : List Int) (hq : qs.length ≤ 1000000) (hn : n.length ≤ 1000000) : Sizes (buildStep K t qs n) := by
 have hz : Sizes zeroStep := ⟨by simp [zeroStep], by simp [zeroStep], by simp [zeroStep]⟩
 unfold buildStep
 split <;> first | exact hz | exact ⟨by simp; omega, by simp at hn ⊢; try omega, by simp at hn ⊢; try omega⟩
theorem queriesOf_len : ∀ {l : List (List UInt8)} {q : List Query}, queriesOf l = some q → q.length ≤ l.length
 | [], q, h => by simp only [queriesOf, Option.some.injEq] at h; subst h; simp
 | [_], q, h => by simp [queriesOf] at h
 | a :: b :: r, q, h => by
  simp only [queriesOf] at h
  split at h
  ·cases h
  ·split at h
   ·rename_i n q' h1 h2
    injection h with h
    subst h
    have := queriesOf_len h2
    simp
    omega
   ·cases h
theorem lens_of {K : Nat} (hK : K ≤ 6) {ok : Bool} {n : Nat} (h : badStep true ok n (shapeOf K).1 (shapeOf K).2 = false) (h1 : K ≠ 1) : lensOk K n = true := by
 match K, hK, h1 with
 | 0, _, _ | 2, _, _ | 3, _, _ | 5, _, _ => simp [badStep, shapeOf] at h; simp [lensOk]; omega
 | 4, _, _ | 6, _, _ => simp [badStep, shapeOf] at h; simp [lensOk]; omega
 | 1, _, h => exact absurd rfl h
set_option maxHeartbeats 1000000 in
theorem step_all (s : Sched) (w0 : List UInt8) (l : List (List UInt8)) (hm : (w0 :: l).length ≤ 100000) (hw : ∀ x ∈ w0 :: l, x.length ≤ 281474976710656) (r : Bool) (μ' : AM) (hl : (rdM s (intsP s.state) 5).length ≤ μ'.length) (ho : okMem μ' μ'.length = true)
  (hno : stepOf l = none → r = false ∧ μ' = rdM s (intsP s.state) 5)
  (hyes : ∀ x, stepOf l = some x → ∀ own, Aw ctx own 188 (rdM s (intsP s.state) 5).length stepEnd (RetRD [.t 4] (.pv (.bool r)) μ') [(0, .ptr 1 0 0), (12, .ptr (rdM s (intsP s.state) 5).length 0 0)] (rdM s (intsP s.state) 5 ++ [stepBlk x])) :
  RefOK ctx 25 [.ptr 1 0 0, .pv (wordsP (w0 :: l))] (rdM s (intsP s.state) 5) (.pv (.bool r)) μ' := by
 match l, hm, hw, hno, hyes with
 | [], hm, hw, hno, hyes =>
  obtain ⟨rfl, rfl⟩ := hno rfl
  generalize rdM s (intsP s.state) 5 = μ at *
  refine ref_body' (C := ctx) (Fn.of fn25 rfl) rfl hl rfl ho ?_
  unfold c25
  iterate 9 first
   | refine ⟨fun _ => ?_, fun h => by simp at h <;> omega⟩
   | refine ⟨by simp [vb] <;> omega, by simp [vb] <;> omega, ?_⟩
   | (refine evA ?_; iterate 2 (try dsimp only [wordsP, go_sem]))
  exact ⟨⟨trivial, rfl⟩, [], (List.append_nil _).symm⟩
 | [w1], hm, hw, hno, hyes =>
  obtain ⟨rfl, rfl⟩ := hno rfl
  generalize rdM s (intsP s.state) 5 = μ at *
  refine ref_body' (C := ctx) (Fn.of fn25 rfl) rfl hl rfl ho ?_
  unfold c25
  iterate 9 first
   | refine ⟨fun _ => ?_, fun h => by simp at h <;> omega⟩
   | refine ⟨by simp [vb] <;> omega, by simp [vb] <;> omega, ?_⟩
   | (refine evA ?_; iterate 2 (try dsimp only [wordsP, go_sem]))
  exact ⟨⟨trivial, rfl⟩, [], (List.append_nil _).symm⟩
 | w1 :: w2 :: l, hm, hw, hno, hyes =>
  have hlen := rdM_len s (intsP s.state) 5
  have hok := rdM_ok s (intsP s.state) 5
  simp only [List.length_cons] at hm
  rcases kind_cases w2 with ⟨hi, hg, hh⟩ | ⟨K, hK, hi, hg, hh⟩
  ·refine step_pre s _ w0 w1 w2 l (by simp; omega) hw false 0 0 hg hh r μ' hl ho (fun _ => hno (by simp [stepOf, hi])) fun hb => ?_
   simp [badStep] at hb
  ·have hi0 : ¬ idxW kindWords w2 < 0 := by omega
   have hit : (idxW kindWords w2).toNat = K := by omega
   refine step_pre s _ w0 w1 w2 l (by simp; omega) hw true _ _ hg hh r μ' hl ho (fun hb => hno ?_) fun hb own => ?_
   ·simp only [stepOf, hi0, if_false, hit, hb, if_true]
   ·by_cases h1 : K = 1
    ·subst h1
     have h4 : 4 ≤ l.length := by
      simp [badStep, shapeOf] at hb
      omega
     match l, h4, hm, hw, hno, hyes, hb with
     | a :: b :: l, h4, hm, hw, hno, hyes, hb =>
      simp only [List.length_cons] at hm
      have hso : stepOf (w1 :: w2 :: a :: b :: l) = match queriesOf l, numsOf [a, b] with
       | some q, some n => some (buildStep 1 (numV w1) q n)
       | _, _ => none := by
       have hi1 : idxW kindWords w2 = 1 := by simpa using hi
       simp only [stepOf]
       rw [if_neg hi0, hit, if_neg (by rw [hb]; simp), if_pos hi1]
       rfl
      refine step_nine_read _ hok hlen _ own w0 w1 w2 a b l (numV w1) (by simpa using hi) (by omega) (fun x hx => hw x (by simp [hx])) (fun hq f junk hf => ?_) fun qs hqs => ?_
      ·obtain ⟨rfl, rfl⟩ := hno (by rw [hso, hq])
       exact ⟨⟨trivial, hf⟩, junk, rfl⟩
      ·refine step_mid _ hok 1 (numV w1) (.pv (queriesN qs)) (by cases qs <;> rfl) qs (queriesN_weak qs) w0 [a, b] (by simp) (fun x hx => hw x (by simp at hx ⊢; rcases hx with h | h | h <;> simp [h])) rfl r μ' own (fun hn => hno (by rw [hso, hqs, hn])) fun n hn => ?_
       exact hyes _ (by rw [hso, hqs, hn]) own
    ·have hso : stepOf (w1 :: w2 :: l) = match numsOf l with
      | some n => some (buildStep K (numV w1) [] n)
      | none => none := by
      have : ¬ idxW kindWords w2 = 1 := by omega
      simp only [stepOf, hi0, if_false, hit, hb, Bool.false_eq_true, this]
     refine step_nine _ _ own w0 w1 w2 l (numV w1) K hi (by simp; omega) ?_
     refine step_mid _ hok K (numV w1) (.pv .nilsl) rfl [] CW.nil w0 l (by simp; omega) (fun x hx => hw x (by simp at hx ⊢; rcases hx with h | h <;> simp [h])) (lens_of hK hb h1) r μ' own (fun hn => hno (by rw [hso, hn])) fun n hn => ?_
     exact hyes _ (by rw [hso, hn]) own
theorem stepOf_sizes {l : List (List UInt8)} {x : Step} (hm : l.length ≤ 1000000) (h : stepOf l = some x) : Sizes x := by
 match l, h with
 | w1 :: w2 :: l, h =>
  simp only [List.length_cons] at hm
  simp only [stepOf] at h
  split at h
  ·cases h
  ·split at h
   ·cases h
   ·split at h
    ·split at h
     ·rename_i q n h1 h2
      injection h with h
      subst h
      have := queriesOf_len h1
      have h3 := numsOf_len h2
      simp at this h3
      exact buildStep_sizes _ _ _ _ (by omega) (by omega)
     ·cases h
    ·split at h
     ·rename_i n h2
      injection h with h
      subst h
      have h3 := numsOf_len h2
      exact buildStep_sizes _ _ _ _ (by simp) (by omega)
     ·cases h
theorem rdM_app_len (s : Sched) (st : PV) (next : Int) (x : Step) : (rdM s st next).length ≤ (rdM { s with steps := s.steps ++ [x] } st next).length := by
 obtain ⟨a, b, c, d, e, fs, ss⟩ := s
 cases ss <;> simp [rdM, stepsB]
theorem step_ok (s : Sched) (w0 : List UInt8) (l : List (List UInt8)) (hm : (w0 :: l).length ≤ 100000) (hw : ∀ x ∈ w0 :: l, x.length ≤ 281474976710656) (hs : Mild s) (hn : s.steps.length ≤ 1000000) :
  match stepOf l with
  | some x => if follows s x then RefOK ctx 25 [.ptr 1 0 0, .pv (wordsP (w0 :: l))] (rdM s (intsP s.state) 5) (.pv (.bool true)) (rdM { s with steps := s.steps ++ [x] } (intsP s.state) 5)
   else RefOK ctx 25 [.ptr 1 0 0, .pv (wordsP (w0 :: l))] (rdM s (intsP s.state) 5) (.pv (.bool false)) (rdM s (intsP s.state) 5)
  | none => RefOK ctx 25 [.ptr 1 0 0, .pv (wordsP (w0 :: l))] (rdM s (intsP s.state) 5) (.pv (.bool false)) (rdM s (intsP s.state) 5) := by
 have hm2 := hm
 simp only [List.length_cons] at hm2
 cases ho : stepOf l with
 | none => exact step_all s w0 l hm hw false _ (Nat.le_refl _) (rdM_ok _ _ _) (fun _ => ⟨rfl, rfl⟩) fun x hx => by rw [ho] at hx; cases hx
 | some x =>
  have hz := stepOf_sizes (by omega) ho
  simp only
  split
  ·rename_i hf
   refine step_all s w0 l hm hw true _ (rdM_app_len _ _ _ _) (rdM_ok _ _ _) (fun h => by rw [ho] at h; cases h) fun y hy own => ?_
   rw [ho] at hy; injection hy with hy; subst hy
   exact step_end s x hs hz hn hf own _ rfl
  ·rename_i hf
   refine step_all s w0 l hm hw false _ (Nat.le_refl _) (rdM_ok _ _ _) (fun h => by rw [ho] at h; cases h) fun y hy own => ?_
   rw [ho] at hy; injection hy with hy; subst hy
   exact step_end_no s x hs hz hn (by simpa using hf) own
end
section
open Sch
def c29 : ACode := (⟨_, by conv => (lhs; reduce; try simp only [lt1, Int.cast_ofNat_Int, Int.reduceNegSucc, UInt8.reduceOfNat])⟩ : {x // codeOf Tryz.prog 29 (fun d => Nat.beq d 69) = some x}).1
theorem fn29 : fnOf Tryz.prog 29 (fun d => Nat.beq d 69) = some (c29, [.t 4], 128, true) := by kernel_rfl
def headName : Nat → List UInt8
 | 0 => [114, 101, 112, 108, 105, 99, 97, 115]
 | 1 => [115, 101, 115, 115, 105, 111, 110, 115]
 | 2 => [115, 101, 99, 116, 111, 114, 115]
 | 3 => [116, 105, 99, 107, 115]
 | _ => [115, 116, 97, 116, 101]
def headLo : Nat → Int
 | 0 => 1
 | 1 => 0
 | 2 => 8
 | _ => 0
def headHi : Nat → Int
 | 0 => 5
 | 1 => 8
 | 2 => 2048
 | _ => 1048576
def setHead (s : Sched) (k : Nat) (n : Int) : Sched := match k with
 | 0 => { s with replicas := n }
 | 1 => { s with sessions := n }
 | 2 => { s with sectors := n }
 | _ => { s with ticks := n }
def headOf (k : Nat) (w0 : List UInt8) (l : List (List UInt8)) : Option (List Int) := match numsOf l with
 | some ns => if w0 == headName k && (decide (4 ≤ k) || ns.length == 1) then some ns else none
 | none => none
set_option maxHeartbeats 4000000 in
theorem head_none (a b c d : Int) (st : PV) (k : Nat) (hk : k < 5) (w0 : List UInt8) (l : List (List UInt8)) (hm : (w0 :: l).length ≤ 1000000) (hw : ∀ x ∈ w0 :: l, x.length ≤ 281474976710656) (h : headOf k w0 l = none) :
  RefOK ctx 29 [.ptr 1 0 0, .pv (wordsP (w0 :: l))] (rdM ⟨a, b, c, d, [], [], []⟩ st k) (.pv (.bool false)) (rdM ⟨a, b, c, d, [], [], []⟩ st k) := by
 have hT := tail_ok l w0 hm hw
 have e1 : (((l.length + 1 : Nat) : Int) - 1).toNat = l.length := by omega
 have e2 : (l.map PV.str).take l.length = l.map .str := List.take_of_length_le (by simp)
 unfold wordsP at hT
 cases hN : numsOf l with
 | none =>
  rw [hN] at hT
  match k, hk with
  | 0, _ | 1, _ | 2, _ | 3, _ | 4, _ =>
   refine ref_body' (C := ctx) (Fn.of fn29 rfl) rfl (by simp) rfl (rdM_ok _ _ _) ?_
   unfold c29
   iterate 6 first
    | refine ⟨by simp [vb, hT, e1, e2] <;> omega, by simp [vb, hT, e1, e2] <;> omega, ?_⟩
    | (refine evTH [(63, fun _ => some (.tup [.sl 0 [], .bool false]))] [(12, { val := some (.pv (.sl l.length (l.map .str))) })] ?_; iterate 2 (try dsimp only [wordsP, rdM, resB, mapB, readerB, fatesA_nil, fatesB_nil, stepsA_nil, stepsB_nil, go_sem]))
   refine evH [(42, { val := some (.pv (.bool true)) })] ?_
   dsimp only [go_sem]
   try dsimp only [go_sem]
   refine ⟨(by first | exact True.intro | (simp only [vb, lb]; omega) | (simp [vb] <;> omega)), (by first | exact True.intro | ((try dsimp only [go_sem]); first | (simp [vb] <;> omega) | (simp only [vb, and_true, true_implies]; (repeat' (first | assumption | (with_reducible apply And.intro) | intro _)) <;> first | omega | rfl | (simp only [ab]; done) | (simp [Nat.mul_one] <;> omega) | (simp_all; done)))), ?_⟩
   iterate 5 first
    | refine ⟨fun _ => ?_, fun h => by simp at h <;> omega⟩
    | refine ⟨by simp [vb] <;> omega, by simp [vb] <;> omega, ?_⟩
    | (refine evH [(42, { val := some (.pv (.bool true)) })] ?_; iterate 2 (try dsimp only [go_sem]))
   exact ⟨⟨trivial, rfl⟩, [], rfl⟩
 | some ns =>
  rw [hN] at hT
  simp only [intsP] at hT
  unfold headOf at h
  rw [hN] at h
  cases hq : w0 == headName k with
  | false =>
   match k, hk with
   | 0, _ | 1, _ | 2, _ | 3, _ | 4, _ =>
    simp only [headName] at hq
    refine ref_body' (C := ctx) (Fn.of fn29 rfl) rfl (by simp) rfl (rdM_ok _ _ _) ?_
    unfold c29
    iterate 6 first
     | refine ⟨by simp [vb, hT, e1, e2, intsP] <;> omega, by simp [vb, hT, e1, e2, intsP] <;> omega, ?_⟩
     | (refine evTH [(63, fun _ => some (.tup [.sl ns.length (ns.map (.int .i64)), .bool true]))] [(12, { val := some (.pv (.sl l.length (l.map .str))) })] ?_; iterate 2 (try dsimp only [wordsP, rdM, resB, mapB, readerB, fatesA_nil, fatesB_nil, stepsA_nil, stepsB_nil, go_sem]))
    refine evH [(42, { val := some (.pv (.bool true)) })] ?_
    dsimp only [go_sem]
    try dsimp only [go_sem]
    refine ⟨(by first | exact True.intro | (simp only [vb, lb]; omega) | (simp only [vb, lb, hq]; and_intros <;> first | omega | (simp <;> omega)) | (simp [vb, hq] <;> omega)), (by first | exact True.intro | ((try dsimp only [go_sem]); first | (simp [vb, hq] <;> omega) | (simp only [vb, and_true, true_implies]; (repeat' (first | assumption | (with_reducible apply And.intro) | intro _)) <;> first | omega | rfl | (simp only [ab, hq]; done) | (simp [Nat.mul_one, hq] <;> omega) | (simp_all; done)))), ?_⟩
    iterate 5 first
     | refine ⟨fun _ => ?_, fun h => by simp at h <;> omega⟩
     | refine ⟨by simp [vb, hq] <;> omega, by simp [vb, hq] <;> omega, ?_⟩
     | (refine evH [(42, { val := some (.pv (.bool true)) })] ?_; iterate 2 (try dsimp only [go_sem]))
    exact ⟨⟨trivial, rfl⟩, [], rfl⟩
  | true =>
   rw [hq] at h
   have hl : (4 ≤ k) = False ∧ ns.length ≠ 1 := by
    simp at h
    exact ⟨by simp; omega, h.2⟩
   have hl2 : ((ns.length : Int) == 1) = false := by simp; omega
   match k, hk with
   | 0, _ | 1, _ | 2, _ | 3, _ =>
    simp only [headName] at hq
    refine ref_body' (C := ctx) (Fn.of fn29 rfl) rfl (by simp) rfl (rdM_ok _ _ _) ?_
    unfold c29
    iterate 6 first
     | refine ⟨by simp [vb, hT, e1, e2, intsP] <;> omega, by simp [vb, hT, e1, e2, intsP] <;> omega, ?_⟩
     | (refine evTH [(63, fun _ => some (.tup [.sl ns.length (ns.map (.int .i64)), .bool true]))] [(12, { val := some (.pv (.sl l.length (l.map .str))) })] ?_; iterate 2 (try dsimp only [wordsP, rdM, resB, mapB, readerB, fatesA_nil, fatesB_nil, stepsA_nil, stepsB_nil, go_sem]))
    refine evH [(42, { val := some (.pv (.bool true)) })] ?_
    dsimp only [go_sem]
    try dsimp only [go_sem]
    refine ⟨(by first | exact True.intro | (simp only [vb, lb]; omega) | (simp only [vb, lb, hq, hl2, hl.2]; and_intros <;> first | omega | (simp <;> omega)) | (simp [vb, hq, hl2, hl.2] <;> omega)), (by first | exact True.intro | ((try dsimp only [go_sem]); first | (simp [vb, hq, hl2, hl.2] <;> omega) | (simp only [vb, and_true, true_implies]; (repeat' (first | assumption | (with_reducible apply And.intro) | intro _)) <;> first | omega | rfl | (simp only [ab, hq, hl2, hl.2]; done) | (simp [Nat.mul_one, hq, hl2, hl.2] <;> omega) | (simp_all; done)))), ?_⟩
    iterate 5 first
     | refine ⟨fun _ => ?_, fun h => by simp at h <;> omega⟩
     | refine ⟨by simp [vb, hq, hl2, hl.2] <;> omega, by simp [vb, hq, hl2, hl.2] <;> omega, ?_⟩
     | (refine evH [(42, { val := some (.pv (.bool true)) })] ?_; iterate 2 (try dsimp only [go_sem]))
    exact ⟨⟨trivial, rfl⟩, [], rfl⟩
   | 4, _ => simp at hl
end
section
open Sch
def betweenS : List PV → Option PV
 | [.int .i64 n, .int .i64 lo, .int .i64 hi] => some (.bool (between n lo hi))
 | _ => none
set_option maxHeartbeats 4000000 in
theorem head_num (a b c d : Int) (st : PV) (k : Nat) (hk : k < 4) (w0 : List UInt8) (l : List (List UInt8)) (hm : (w0 :: l).length ≤ 1000000) (hw : ∀ x ∈ w0 :: l, x.length ≤ 281474976710656) (n : Int) (h : headOf k w0 l = some [n]) :
  RefOK ctx 29 [.ptr 1 0 0, .pv (wordsP (w0 :: l))] (rdM ⟨a, b, c, d, [], [], []⟩ st k) (.pv (.bool (between n (headLo k) (headHi k)))) (rdM (setHead ⟨a, b, c, d, [], [], []⟩ k n) st (k + 1 : Nat)) := by
 have hT := tail_ok l w0 hm hw
 have e1 : (((l.length + 1 : Nat) : Int) - 1).toNat = l.length := by omega
 have e2 : (l.map PV.str).take l.length = l.map .str := List.take_of_length_le (by simp)
 unfold wordsP at hT
 have hB := between_ok n (headLo k) (headHi k)
 unfold headOf at h
 cases hN : numsOf l with
 | none => rw [hN] at h; cases h
 | some ns =>
  rw [hN] at hT h
  simp only at h
  split at h
  ·rename_i hq
   injection h with h
   subst h
   simp only [Bool.and_eq_true] at hq
   replace hq := hq.1
   simp only [intsP, List.length_cons, List.length_nil, List.map_cons, List.map_nil] at hT
   match k, hk with
   | 0, _ | 1, _ | 2, _ | 3, _ =>
    simp only [headName] at hq
    simp only [headLo, headHi] at hB
    refine ref_body' (C := ctx) (Fn.of fn29 rfl) rfl (by simp [rdM, setHead]) rfl (rdM_ok _ _ _) ?_
    unfold c29
    iterate 6 first
     | refine ⟨by simp [vb, hT, e1, e2, intsP] <;> omega, by simp [vb, hT, e1, e2, intsP] <;> omega, ?_⟩
     | (refine evTH [(63, fun _ => some (.tup [.sl 1 [.int .i64 n], .bool true]))] [(12, { val := some (.pv (.sl l.length (l.map .str))) })] ?_; iterate 2 (try dsimp only [wordsP, rdM, resB, mapB, readerB, fatesA_nil, fatesB_nil, stepsA_nil, stepsB_nil, go_sem]))
    refine evH [(42, { val := some (.pv (.bool false)) })] ?_
    dsimp only [go_sem]
    try dsimp only [go_sem]
    refine ⟨(by first | exact True.intro | (simp only [vb, lb]; omega) | (simp only [vb, lb, hq]; and_intros <;> first | omega | (simp <;> omega)) | (simp [vb, hq] <;> omega)), (by first | exact True.intro | ((try dsimp only [go_sem]); first | (simp [vb, hq] <;> omega) | (simp only [vb, and_true, true_implies]; (repeat' (first | assumption | (with_reducible apply And.intro) | intro _)) <;> first | omega | rfl | (simp only [ab, hq]; done) | (simp [Nat.mul_one, hq] <;> omega) | (simp_all; done)))), ?_⟩
    iterate 7 first
     | refine ⟨fun h => by simp at h <;> omega, fun _ => ?_⟩
     | refine ⟨by simp [vb, hq] <;> omega, by simp [vb, hq] <;> omega, ?_⟩
     | (refine evH [(42, { val := some (.pv (.bool false)) })] ?_; iterate 2 (try dsimp only [go_sem]))
    refine evH [(42, { val := some (.pv (.bool false)) })] ?_
    dsimp only [go_sem]
    refine ⟨fun _ => ?_, fun h => by simp at h <;> omega⟩
    refine evA ?_
    dsimp only [go_sem]
    try dsimp only [go_sem]
    refine ⟨(by first | exact True.intro | (simp only [vb, lb]; omega) | (simp [vb] <;> omega)), (by first | exact True.intro | ((try dsimp only [go_sem]); first | (simp [vb] <;> omega) | (simp only [vb, and_true, true_implies]; (repeat' (first | assumption | (with_reducible apply And.intro) | intro _)) <;> first | omega | rfl | (simp only [ab]; done) | (simp [Nat.mul_one] <;> omega) | (simp_all; done)))), (by first | rfl | trivial), ?_⟩
    refine evA ?_
    dsimp only [go_sem]
    try dsimp only [go_sem]
    refine ⟨(by simp [vb] <;> omega), (by simp [vb] <;> omega), ?_⟩
    refine evT [(69, betweenS)] ?_
    dsimp only [betweenS, go_sem]
    try dsimp only [betweenS, go_sem]
    refine ⟨(by simp [vb, hB] <;> omega), (by simp [vb, hB] <;> omega), ?_⟩
    refine evT [(69, betweenS)] ?_
    dsimp only [betweenS, go_sem]
    exact ⟨⟨trivial, rfl⟩, [⟨[.ptr 1 0 0, .ptr 1 0 1, .ptr 1 0 2, .ptr 1 0 3], 0, 1, 113, false⟩], rfl⟩
  ·cases h
set_option maxHeartbeats 4000000 in
theorem head_state (a b c d : Int) (st : PV) (w0 : List UInt8) (l : List (List UInt8)) (hm : (w0 :: l).length ≤ 1000000) (hw : ∀ x ∈ w0 :: l, x.length ≤ 281474976710656) (ns : List Int) (hns : ns.length ≤ 1000000) (h : headOf 4 w0 l = some ns) :
  RefOK ctx 29 [.ptr 1 0 0, .pv (wordsP (w0 :: l))] (rdM ⟨a, b, c, d, [], [], []⟩ st 4) (.pv (.bool (decide (ns.length ≤ 128) && allIn ns (-1000000) 1000000))) (rdM ⟨a, b, c, d, [], [], []⟩ (intsP ns) 5) := by
 have hT := tail_ok l w0 hm hw
 have e1 : (((l.length + 1 : Nat) : Int) - 1).toNat = l.length := by omega
 have e2 : (l.map PV.str).take l.length = l.map .str := List.take_of_length_le (by simp)
 unfold wordsP at hT
 have hA := all_ok ns (-1000000) 1000000 (by omega)
 unfold headOf at h
 cases hN : numsOf l with
 | none => rw [hN] at h; cases h
 | some ms =>
  rw [hN] at hT h
  simp only at h
  split at h
  ·rename_i hq
   injection h with h
   subst h
   simp only [Bool.and_eq_true] at hq
   replace hq := hq.1
   simp only [intsP] at hT hA
   simp only [headName] at hq
   refine ref_body' (C := ctx) (Fn.of fn29 rfl) rfl (by simp [rdM]) rfl (rdM_ok _ _ _) ?_
   unfold c29
   iterate 6 first
    | refine ⟨by simp [vb, hT, e1, e2] <;> omega, by simp [vb, hT, e1, e2] <;> omega, ?_⟩
    | (refine evTH [(63, fun _ => some (.tup [.sl ms.length (ms.map (.int .i64)), .bool true]))] [(12, { val := some (.pv (.sl l.length (l.map .str))) })] ?_; iterate 2 (try dsimp only [wordsP, rdM, resB, mapB, readerB, fatesA_nil, fatesB_nil, stepsA_nil, stepsB_nil, go_sem]))
   refine evH [(42, { val := some (.pv (.bool false)) })] ?_
   dsimp only [go_sem]
   try dsimp only [go_sem]
   refine ⟨(by first | exact True.intro | (simp only [vb, lb]; omega) | (simp only [vb, lb, hq]; and_intros <;> first | omega | (simp <;> omega)) | (simp [vb, hq] <;> omega)), (by first | exact True.intro | ((try dsimp only [go_sem]); first | (simp [vb, hq] <;> omega) | (simp only [vb, and_true, true_implies]; (repeat' (first | assumption | (with_reducible apply And.intro) | intro _)) <;> first | omega | rfl | (simp only [ab, hq]; done) | (simp [Nat.mul_one, hq] <;> omega) | (simp_all; done)))), ?_⟩
   iterate 14 first
    | refine ⟨fun h => by simp at h <;> omega, fun _ => ?_⟩
    | refine ⟨by simp [vb, hq] <;> omega, by simp [vb, hq] <;> omega, ?_⟩
    | (refine evH [(42, { val := some (.pv (.bool false)) })] ?_; iterate 2 (try dsimp only [go_sem]))
   refine evT [(70, fun _ => some (.bool (allIn ms (-1000000) 1000000)))] ?_
   dsimp only [go_sem]
   try dsimp only [go_sem]
   refine ⟨(by simp [vb, hA] <;> omega), (by simp [vb, hA] <;> omega), ?_⟩
   refine evT [(70, fun _ => some (.bool (allIn ms (-1000000) 1000000)))] ?_
   dsimp only [go_sem]
   refine ⟨⟨trivial, ?_⟩, [], rfl⟩
   have : decide ((ms.length : Int) ≤ 128) = decide (ms.length ≤ 128) := decide_eq_decide.mpr (by omega)
   simp [this]
  ·cases h
end
end Pur
end Go.Proofs.YteokbngllldmdaaGreatDoor
