/-
  RefutationTexts: the texts of trees are written and read as the reference does, for any tree and text whose bulk is at most 1048576; the tables of the library are laid, and nothing else is assumed. (RfRe RfRf RfRg RfPm RfPn RfAw RfAx RfAy RfSm RfLa Typ RfTy RfTf RfTr2 RfTt2 RfCdTexts)
-/
import Derived.Test.YtaleoeblooeglaaGreatDoorG04
set_option maxRecDepth 10000
set_option linter.unusedSimpArgs false
set_option linter.unusedVariables false
namespace Go.Proofs.YtaleoeblooeglaaGreatDoor
namespace Pur
open Go.RowKit
attribute [local go_sem] evOps evOp evOpV evRun evK argF List.map hintAt stripped get put tmpsOf tmpOf tmpO tmpL tmpP conds ev cond_true cond_false Nat.beq Nat.ble Nat.add quiet After thenR blockR IfD List.append_eq List.nil_append List.cons_append evInt exactI_a exactI_b exactI_c exactI_d exactI_e exactI_f evBin evStr evBool evUn guardC calm quiet.isCallK evPick List.getElem?_cons_zero List.getElem?_cons_succ fromCells fromPVs cellsOf List.all oneCell List.length_cons List.length_nil mkAgg plains List.drop List.take List.getD Option.getD_some bo1 bo2 ba1 ba2 bn1 bn2 kk_i64 kk_u8 kk_i32 kk_u64 setAt List.set Nat.reduceAdd Nat.reduceMul evCall safeCall refsOf refsIn scalarA scalar scalarL thawL mapAll thawArg thawRef after freeze RetD RetE evResult evRess evRes1 thaw_pv mkTup nilOf_a nilOf_b nilOf_bb nilOf_c nilOf_d nilOf_e nilOf_f nilOf_g nilOf_h nilOf_i nilOf_j nilOf_k nilOf_l nilOf_m eqLeaf_a eqLeaf_b eqLeaf_c eqOffs evMM bytesOf evOpsF AfterF footOf footRefs notIn indepF footAt freeOk still evParts fillA zeros intOfA boundA srcOf List.isEmpty appNil_0 appNil_1 appNil_2 Int.reduceToNat Nat.mul_one Nat.reduceSub evC evOpsT evOpsTF autoH tabHint look hintD strip guarded RetPD RetRD mpLen keysOk leafKA leafK bitI nilOf_n nilOf_o Bool.or_false Bool.or_true Bool.and_true Bool.and_false Nat.blt renF renM renB renV idxOf solF solM solA solV thawRef ev1
section
open Rf
def kR (k c a : Int) (S : List RStep) : List Tree → Blk
 | [] => ⟨[.pv (.int .i64 k), .pv (rstepsP S), .pv (.int .i64 c), .pv (.int .i64 a), .pv .nilsl], 0, 5, 25, false⟩
 | _ :: l => ⟨[.pv (.int .i64 k), .pv (rstepsP S), .pv (.int .i64 c), .pv (.int .i64 a), .ref 3 l.length 0 (l.length + 1)], 0, 5, 25, false⟩
theorem kR_nil (k c a : Int) (S : List RStep) : kR k c a S [] = ⟨[.pv (.int .i64 k), .pv (rstepsP S), .pv (.int .i64 c), .pv (.int .i64 a), .pv .nilsl], 0, 5, 25, false⟩ := rfl
theorem kR_cons (k c a : Int) (S : List RStep) (t : Tree) (l : List Tree) : kR k c a S (t :: l) = ⟨[.pv (.int .i64 k), .pv (rstepsP S), .pv (.int .i64 c), .pv (.int .i64 a), .ref 3 l.length 0 (l.length + 1)], 0, 5, 25, false⟩ := rfl
def kM2 : List Tree → AM
 | [] => []
 | t :: l => [treeB t, ⟨(t :: l).flatMap treeC |>.map .pv, l.length, 5, 25, false⟩]
theorem kM2_nil : kM2 [] = [] := rfl
theorem kM2_cons (t : Tree) (l : List Tree) : kM2 (t :: l) = [treeB t, ⟨(t :: l).flatMap treeC |>.map .pv, l.length, 5, 25, false⟩] := rfl
set_option maxHeartbeats 4000000 in
theorem rkids_aw (k c a : Int) (S : List RStep) (n : Int) (hn : -10000000000 ≤ n ∧ n ≤ 10000000000) (ls : List Ln) (hls : ls.length ≤ 1000000) (tf : List Ln → Option (Tree × List Ln))
    (hlen : ∀ ls' t r, tf ls' = some (t, r) → r <:+ ls' ∧ r.length < ls'.length) (htf : ∀ ls', ls' <:+ ls → PureOK ctx 59 [wordsP ls'] (readR (tf ls'))) (out : Option (Tree × List Ln))
    (hout : out = match kidsG tf n.toNat ls with | some (ks, r') => some (.node k S c a ks, r') | none => none) :
    Aw ctx (fun _ => false) 125 0 c59t (RetPD [.cell 2 5 true, .t 3, .t 4] (readR out)) (rdF ls n true) [zeroTB, kR k c a S []] := by
  unfold c59t rdF
  refine aw_seq ?_
  refine evA ?_
  dsimp only [kR_nil, zeroTB, go_sem]
  try dsimp only [kR_nil, zeroTB, go_sem]
  refine ⟨(by simp [vb] <;> omega), (by simp [vb] <;> omega), ?_⟩
  refine aw_block ?_
  refine aw_loopJ (fun s : List Tree × List Ln => s.1.length ≤ n.toNat ∧ s.2 <:+ ls ∧ s.1.length + s.2.length ≤ ls.length ∧ kidsG tf n.toNat ls = match kidsG tf (n.toNat - s.1.length) s.2 with | some (ts, r') => some (s.1 ++ ts, r') | none => none)
    (fun s => [(0, .pv (wordsP s.2)), (2, .ptr 0 0 0), (5, .ptr 1 0 0), (6, .pv (.int .i64 n)), (17, .pv (.int .i64 s.1.length))]) (fun s => [zeroTB, kR k c a S s.1] ++ (kM2 s.1)) (fun s => n.toNat - s.1.length) ([], ls) ⟨Nat.zero_le _, List.suffix_refl _, by simp, ?_⟩ (by (repeat' (first | exact trivial | refine And.intro (by first | rfl | (simp [get, Nat.beq]; done) | (simp [get, Nat.beq]; omega) | (dsimp only [get]; congr 1 <;> first | rfl | omega | (simp; done) | (simp; omega))) ?_))) ⟨[], rfl⟩ (fun s _ => ?_) fun s hs => ?_
  · simp only [List.length_nil, Nat.sub_zero, List.nil_append]
    cases kidsG tf n.toNat ls with
    | none => rfl
    | some x => rfl
  · obtain ⟨ks, r⟩ := s
    cases ks with
    | nil => exact ⟨Nat.zero_le _, rfl, rfl⟩
    | cons n l => exact ⟨Nat.zero_le _, rfl, by simp [kM2, kR, okMem, zeroTB, treeB, bnd]⟩
  obtain ⟨ks, r⟩ := s
  obtain ⟨h1, h2, h0, h3⟩ := hs
  simp only at h1 h2 h0 h3
  by_cases hlt : ks.length < n.toNat
  · have hsub : n.toNat - ks.length = (n.toNat - ks.length - 1) + 1 := by omega
    have hlt2 : (ks.length : Int) < n := by omega
    rw [hsub, kidsG] at h3
    have hp := htf r h2
    cases ht : tf r with
    | none =>
      rw [ht] at h3 hp
      simp only at h3
      rw [h3] at hout
      simp only at hout
      subst hout
      unfold readR wordsP at hp
      cases ks with
      | nil =>
        simp only [kR_nil, kM2_nil, List.append_nil, List.length_nil] at hlt2 ⊢
        repeat' (first
          | ((with_reducible show VCs _); first | exact True.intro | (simp only [vb, lb]; omega) | (simp only [vb, lb, hp, hlt2]; and_intros <;> first | omega | (simp <;> omega)) | (simp [vb, hp, hlt2] <;> omega))
          | ((with_reducible show All _); first | exact True.intro | ((try dsimp only [go_sem]); first | (simp [vb, hp, hlt2] <;> omega) | (simp only [vb, and_true, true_implies]; (repeat' (first | (with_reducible assumption) | (with_reducible apply And.intro) | intro _ | ((fail_if_success (with_reducible show (_ : Int) ≤ _)); assumption))) <;> first | omega | rfl | (simp only [ab, hp, hlt2]; done) | (simp [Nat.mul_one, hp, hlt2] <;> omega) | (simp_all; done))))
          | exact (rfl : some _ = _)
          | (fail_if_success refine awL ?_
             refine evH [(109, { val := some (.pv (.tup [.agg [.int .i64 0, .nilsl, .int .i64 0, .int .i64 0, .nilsl], .nilsl, .bool false])) })] ?_
             repeat1' dsimp only [c59, wordsP, zeroTB, readR, go_sem]
             first
             | refine aw4 ?_ ?_ rfl ?_
             | apply aw3
             | apply aw2
             | (refine awB (fun hc => ?_) fun hc => ?_ <;> first | (cases hc; done) | (exfalso; first | (simp at hc <;> omega) | (simp [hp, hlt2] at hc; done)) | (try simp only [bn] at hc; try contradiction))
             | skip))
        all_goals trace_state
      | cons t0 l =>
        simp only [kR_cons, kM2_cons, List.cons_append, List.nil_append, List.length_cons] at hlt2 ⊢
        repeat' (first
          | ((with_reducible show VCs _); first | exact True.intro | (simp only [vb, lb]; omega) | (simp only [vb, lb, hp, hlt2]; and_intros <;> first | omega | (simp <;> omega)) | (simp [vb, hp, hlt2] <;> omega))
          | ((with_reducible show All _); first | exact True.intro | ((try dsimp only [go_sem]); first | (simp [vb, hp, hlt2] <;> omega) | (simp only [vb, and_true, true_implies]; (repeat' (first | (with_reducible assumption) | (with_reducible apply And.intro) | intro _ | ((fail_if_success (with_reducible show (_ : Int) ≤ _)); assumption))) <;> first | omega | rfl | (simp only [ab, hp, hlt2]; done) | (simp [Nat.mul_one, hp, hlt2] <;> omega) | (simp_all; done))))
          | exact (rfl : some _ = _)
          | (fail_if_success refine awL ?_
             refine evH [(109, { val := some (.pv (.tup [.agg [.int .i64 0, .nilsl, .int .i64 0, .int .i64 0, .nilsl], .nilsl, .bool false])) })] ?_
             repeat1' dsimp only [c59, wordsP, zeroTB, readR, go_sem]
             first
             | refine aw4 ?_ ?_ rfl ?_
             | apply aw3
             | apply aw2
             | (refine awB (fun hc => ?_) fun hc => ?_ <;> first | (cases hc; done) | (exfalso; first | (simp at hc <;> omega) | (simp [hp, hlt2] at hc; done)) | (try simp only [bn] at hc; try contradiction))
             | skip))
        all_goals trace_state
    | some q =>
      obtain ⟨t, r'⟩ := q
      rw [ht] at h3 hp
      simp only at h3
      obtain ⟨hr1, hr2⟩ := hlen r t r' ht
      obtain ⟨kd, s', c', a', l'⟩ := t
      simp only [readR, treeP, Tree.kind, Tree.steps, Tree.cell, Tree.pos, Tree.kids, wordsP] at hp
      cases ks with
      | nil =>
        simp only [kR_nil, kM2_nil, List.append_nil, List.length_nil] at hlt2 ⊢
        repeat' (first
          | ((with_reducible show VCs _); first | exact True.intro | (simp only [vb, lb]; omega) | (simp only [vb, lb, hp, hlt2]; and_intros <;> first | omega | (simp <;> omega)) | (simp [vb, hp, hlt2] <;> omega))
          | ((with_reducible show All _); first | exact True.intro | ((try dsimp only [go_sem]); first | (simp [vb, hp, hlt2] <;> omega) | (simp only [vb, and_true, true_implies]; (repeat' (first | (with_reducible assumption) | (with_reducible apply And.intro) | intro _ | ((fail_if_success (with_reducible show (_ : Int) ≤ _)); assumption))) <;> first | omega | rfl | (simp only [ab, hp, hlt2]; done) | (simp [Nat.mul_one, hp, hlt2] <;> omega) | (simp_all; done))))
          | exact (rfl : some _ = _)
          | (fail_if_success refine awL ?_
             refine evH [(109, { val := some (.pv (.tup [.agg [.int .i64 kd, rstepsP s', .int .i64 c', .int .i64 a', kidsP l'], .sl r'.length (r'.map .str), .bool true])) })] ?_
             repeat1' dsimp only [c59, wordsP, zeroTB, go_sem]
             first
             | refine aw4 ?_ ?_ rfl ?_
             | apply aw3
             | apply aw2
             | (refine awB (fun hc => ?_) fun hc => ?_ <;> first | (cases hc; done) | (exfalso; first | (simp at hc <;> omega) | (simp [hp, hlt2] at hc; done)) | (try simp only [bn] at hc; try contradiction))
             | skip))
        refine ⟨([.node kd s' c' a' l'], r'), by simp; omega, ⟨by simp; omega, hr1.trans h2, by simp at h0 ⊢; omega, ?_⟩, by (repeat' (first | exact trivial | refine And.intro (by first | rfl | (simp [get, Nat.beq, wordsP]; done) | (simp [get, Nat.beq, wordsP]; omega) | (dsimp only [get]; congr 1 <;> first | rfl | omega | (simp; done) | (simp; omega))) ?_)), [], ?_⟩
        · rw [h3]
          simp only [List.length_nil, List.length_cons, Nat.sub_zero, Nat.zero_add]
          cases kidsG tf (n.toNat - 1) r' <;> rfl
        · simp [kR, kM2, treeB, Tree.kind, Tree.steps, Tree.cell, Tree.pos, Tree.kids, treeC_node]
      | cons t0 l =>
        simp only [kR_cons, kM2_cons, List.cons_append, List.nil_append, List.length_cons] at hlt2 h0 h3 ⊢
        repeat' (first
          | ((with_reducible show VCs _); first | exact True.intro | (simp only [vb, lb]; omega) | (simp only [vb, lb, hp, hlt2, h0, treeC_len, sum5]; and_intros <;> first | omega | (simp <;> omega)) | (simp [vb, hp, hlt2, h0, treeC_len, sum5] <;> omega))
          | ((with_reducible show All _); first | exact True.intro | ((try dsimp only [go_sem]); first | (simp [vb, hp, hlt2, h0, treeC_len, sum5] <;> omega) | (simp only [vb, and_true, true_implies]; (repeat' (first | (with_reducible assumption) | (with_reducible apply And.intro) | intro _ | ((fail_if_success (with_reducible show (_ : Int) ≤ _)); assumption))) <;> first | omega | rfl | (simp only [ab, hp, hlt2, h0, treeC_len, sum5]; done) | (simp [Nat.mul_one, hp, hlt2, h0, treeC_len, sum5] <;> omega) | (simp_all; done))))
          | exact (rfl : some _ = _)
          | (fail_if_success refine awL ?_
             refine evH [(109, { val := some (.pv (.tup [.agg [.int .i64 kd, rstepsP s', .int .i64 c', .int .i64 a', kidsP l'], .sl r'.length (r'.map .str), .bool true])) })] ?_
             repeat1' dsimp only [c59, wordsP, zeroTB, go_sem]
             first
             | refine aw4 ?_ ?_ rfl ?_
             | apply aw3
             | apply aw2
             | (refine awB (fun hc => ?_) fun hc => ?_ <;> first | (cases hc; done) | (exfalso; first | (simp at hc <;> omega) | (simp [hp, hlt2, h0, treeC_len, sum5] at hc; done)) | (try simp only [bn] at hc; try contradiction))
             | skip))
        refine ⟨(t0 :: (l ++ [.node kd s' c' a' l']), r'), by simp; omega, ⟨by simp; omega, hr1.trans h2, by simp at h0 ⊢; omega, ?_⟩, by (repeat' (first | exact trivial | refine And.intro (by first | rfl | (simp [get, Nat.beq, wordsP]; done) | (simp [get, Nat.beq, wordsP]; omega) | (dsimp only [get]; congr 1 <;> first | rfl | omega | (simp; done) | (simp; omega))) ?_)), [treeB (.node kd s' c' a' l')], ?_⟩
        · rw [h3]
          simp only [List.length_append, List.length_nil, List.length_cons, Nat.zero_add]
          rw [show n.toNat - (l.length + 1) - 1 = n.toNat - (l.length + 1 + 1) by omega]
          cases kidsG tf (n.toNat - (l.length + 1 + 1)) r' with
          | none => rfl
          | some x => simp
        · simp [kR, kM2, treeC_node, treeB, Tree.kind, Tree.steps, Tree.cell, Tree.pos, Tree.kids, zeroTB]
  · have hkl : ks.length = n.toNat := by omega
    have hlt2 : ¬ (ks.length : Int) < n := by omega
    rw [show n.toNat - ks.length = 0 by omega, kidsG] at h3
    simp only [List.append_nil] at h3
    rw [h3] at hout
    simp only at hout
    subst hout
    simp only
    cases ks with
    | nil =>
      simp only [kR_nil, kM2_nil, List.append_nil, List.length_nil] at hlt2 ⊢
      refine aw_weak (μ' := [zeroTB, treeB (.node k S c a [])]) (MW.last (μ := [zeroTB]) ⟨(PW.refl CW.refl [AV.pv (.int .i64 k), .pv (rstepsP S), .pv (.int .i64 c), .pv (.int .i64 a)]).append' (PW.cons CW.nil PW.nil), rfl, rfl, rfl, rfl⟩) ?_
      repeat' (first
        | ((with_reducible show VCs _); first | exact True.intro | (simp only [vb, lb]; omega) | (simp only [vb, lb, hlt2]; and_intros <;> first | omega | (simp <;> omega)) | (simp [vb, hlt2] <;> omega))
        | ((with_reducible show All _); first | exact True.intro | ((try dsimp only [go_sem]); first | (simp [vb, hlt2] <;> omega) | (simp only [vb, and_true, true_implies]; (repeat' (first | (with_reducible assumption) | (with_reducible apply And.intro) | intro _ | ((fail_if_success (with_reducible show (_ : Int) ≤ _)); assumption))) <;> first | omega | rfl | (simp only [ab, hlt2]; done) | (simp [Nat.mul_one, hlt2] <;> omega) | (simp_all; done))))
        | exact (rfl : some _ = _)
        | (fail_if_success refine awL ?_
           refine evA ?_
           repeat1' dsimp only [c59, wordsP, zeroTB, treeB, readR, treeP, Tree.kind, Tree.steps, Tree.cell, Tree.pos, Tree.kids, go_sem]
           first
           | refine aw4 ?_ ?_ rfl ?_
           | apply aw3
           | apply aw2
           | (refine awB (fun hc => ?_) fun hc => ?_ <;> first | (cases hc; done) | (exfalso; first | (simp at hc <;> omega) | (simp [hlt2] at hc; done)) | (try simp only [bn] at hc; try contradiction))
           | skip))
    | cons t0 l =>
      refine aw_frame [(0, .pv (wordsP r)), (2, .ptr 0 0 0), (5, .ptr 1 0 0), (6, .pv (.int .i64 n)), (17, .pv (.int .i64 (t0 :: l).length))] (by (repeat' (first | exact trivial | refine And.intro (by first | rfl | (simp [get, Nat.beq]; done) | (simp [get, Nat.beq]; omega) | (dsimp only [get]; congr 1 <;> first | rfl | omega | (simp; done) | (simp; omega))) ?_))) ?_
      refine aw_keep [0, 1, 3] rfl ?_
      have e : renM [0, 1, 3] ([zeroTB, kR k c a S (t0 :: l)] ++ kM2 (t0 :: l)) = [zeroTB, ⟨[.pv (.int .i64 k), .pv (rstepsP S), .pv (.int .i64 c), .pv (.int .i64 a), .ref 2 l.length 0 (l.length + 1)], 0, 5, 25, false⟩, ⟨(((t0 :: l).flatMap treeC).map AV.pv).map (renV [0, 1, 3] 3), l.length, 5, 25, false⟩] := rfl
      rw [e, ren_pv]
      refine aw_rowDone (μ := [zeroTB]) (c1 := [.int .i64 k, rstepsP S, .int .i64 c, .int .i64 a]) (c2 := []) (ps := (t0 :: l).flatMap treeC) (by simp [okMem, bnd, zeroTB]) (by simp) (by simp) (kids_len _) (fun _ => rfl) rfl ?_
      show Aw _ _ _ _ _ _ [(0, .pv (wordsP r)), (2, .ptr 0 0 0), (5, .ptr 1 0 0), (6, .pv (.int .i64 n)), (17, .pv (.int .i64 (t0 :: l).length))] [zeroTB, treeB (.node k S c a (t0 :: l))]
      repeat' (first
        | ((with_reducible show VCs _); first | exact True.intro | (simp only [vb, lb]; omega) | (simp only [vb, lb, hlt2]; and_intros <;> first | omega | (simp <;> omega)) | (simp [vb, hlt2] <;> omega))
        | ((with_reducible show All _); first | exact True.intro | ((try dsimp only [go_sem]); first | (simp [vb, hlt2] <;> omega) | (simp only [vb, and_true, true_implies]; (repeat' (first | (with_reducible assumption) | (with_reducible apply And.intro) | intro _ | ((fail_if_success (with_reducible show (_ : Int) ≤ _)); assumption))) <;> first | omega | rfl | (simp only [ab, hlt2]; done) | (simp [Nat.mul_one, hlt2] <;> omega) | (simp_all; done))))
        | exact (rfl : some _ = _)
        | (fail_if_success refine awL ?_
           refine evA ?_
           repeat1' dsimp only [c59, wordsP, zeroTB, treeB, readR, treeP, Tree.kind, Tree.steps, Tree.cell, Tree.pos, Tree.kids, go_sem]
           first
           | refine aw4 ?_ ?_ rfl ?_
           | apply aw3
           | apply aw2
           | (refine awB (fun hc => ?_) fun hc => ?_ <;> first | (cases hc; done) | (exfalso; first | (simp at hc <;> omega) | (simp [hlt2] at hc; done)) | (try simp only [bn] at hc; try contradiction))
           | skip))
end
end Pur
end Go.Proofs.YtaleoeblooeglaaGreatDoor
namespace Go.Proofs.YtaleoeblooeglaaGreatDoor
namespace Rf
theorem readN_shrink : ∀ (f : Nat) (S : List RStep) (ls : List Ln) (t : Tree) (r : List Ln), readN f S ls = some (t, r) → r <:+ ls ∧ r.length < ls.length
 | 0, _, _, _, _, e => by cases e
 | f + 1, S, ls, t, r, e => by
  have ih : ∀ (S : List RStep) (ls : List Ln) (t : Tree) (r : List Ln), readN f S ls = some (t, r) → r <:+ ls ∧ r.length < ls.length := fun S ls t r => readN_shrink f S ls t r
  have one : ∀ (n : Nat) (x : Ln) (l : List Ln) (g : List Tree → Tree), (match kidsG (readN f []) n l with | some (ks, r') => some (g ks, r') | none => none) = some (t, r) → r <:+ x :: l ∧ r.length < (x :: l).length := fun n x l g h => by
   split at h
   ·rename_i ks r' hk
    injection h with h
    injection h with _ h
    subst h
    have := Pur.kidsG_suf (fun ls t r h => (ih [] ls t r h).1) _ _ _ _ hk
    exact ⟨this.trans (List.suffix_cons _ _), by have := this.length_le; simp; omega⟩
   ·cases h
  have step : ∀ (S : List RStep) (x : Ln) (l : List Ln), readN f S l = some (t, r) → r <:+ x :: l ∧ r.length < (x :: l).length := fun S x l h => by
   obtain ⟨h1, h2⟩ := ih S l t r h
   exact ⟨h1.trans (List.suffix_cons _ _), by simp; omega⟩
  cases ls with
  | nil => cases e
  | cons x l =>
   rw [readN] at e
   split at e
   ·exact step _ _ _ e
   ·split at e
    ·exact step _ _ _ e
    ·split at e
     ·exact one _ _ _ _ e
     ·split at e
      ·exact one _ _ _ _ e
      ·split at e
       ·injection e with e
        injection e with _ e
        subst e
        exact ⟨List.suffix_cons _ _, by simp⟩
       ·cases e
end Rf
namespace Pur
open Go.RowKit
attribute [local go_sem] evOps evOp evOpV evRun evK argF List.map hintAt stripped get put tmpsOf tmpOf tmpO tmpL tmpP conds ev cond_true cond_false Nat.beq Nat.ble Nat.add quiet After thenR blockR IfD List.append_eq List.nil_append List.cons_append evInt exactI_a exactI_b exactI_c exactI_d exactI_e exactI_f evBin evStr evBool evUn guardC calm quiet.isCallK evPick List.getElem?_cons_zero List.getElem?_cons_succ fromCells fromPVs cellsOf List.all oneCell List.length_cons List.length_nil mkAgg plains List.drop List.take List.getD Option.getD_some bo1 bo2 ba1 ba2 bn1 bn2 kk_i64 kk_u8 kk_i32 kk_u64 setAt List.set Nat.reduceAdd Nat.reduceMul evCall safeCall refsOf refsIn scalarA scalar scalarL thawL mapAll thawArg thawRef after freeze RetD RetE evResult evRess evRes1 thaw_pv mkTup nilOf_a nilOf_b nilOf_bb nilOf_c nilOf_d nilOf_e nilOf_f nilOf_g nilOf_h nilOf_i nilOf_j nilOf_k nilOf_l nilOf_m eqLeaf_a eqLeaf_b eqLeaf_c eqOffs evMM bytesOf evOpsF AfterF footOf footRefs notIn indepF footAt freeOk still evParts fillA zeros intOfA boundA srcOf List.isEmpty appNil_0 appNil_1 appNil_2 Int.reduceToNat Nat.mul_one Nat.reduceSub evC evOpsT evOpsTF autoH tabHint look hintD strip guarded RetPD RetRD mpLen keysOk leafKA leafK bitI nilOf_n nilOf_o Bool.or_false Bool.or_true Bool.and_true Bool.and_false Nat.blt renF renM renB renV idxOf solF solM solA solV thawRef ev1
open Rf
theorem aw_rsteps {R : Exit → AF → AM → Prop} {x : ACode} {f : AF} (k c a : Int) (S : List RStep) (hf : ∀ M, solF M 2 f = f) (hof : okFrame f 2 = true) (h : Aw ctx (fun _ => false) 125 0 x R f [zeroTB, kR k c a S []]) :
  Aw ctx (fun _ => false) 125 0 x R f ([zeroTB, tR k c a S] ++ sM S) := by
 cases S with
 | nil =>
  refine aw_weak (μ' := [zeroTB, kR k c a [] []]) ?_ h
  exact MW.last (μ := [zeroTB]) ⟨(PW.refl CW.refl [AV.pv (.int .i64 k)]).append' (PW.cons CW.nil (PW.refl CW.refl _)), rfl, rfl, rfl, rfl⟩
 | cons s l =>
  exact aw_rowDone (μ := [zeroTB]) (c1 := [.int .i64 k]) (c2 := [.int .i64 c, .int .i64 a, .nilsl]) (ps := (s :: l).flatMap rstepC) (by simp [okMem, bnd, zeroTB]) (by simp) (by simp) (rsteps_len _) hf hof h
theorem numD_bd : ∀ (k : Nat) (n : Int) (y : List UInt8), 0 ≤ n → 0 ≤ (numD k n y).1 ∧ (numD k n y).1 < (n + 1) * 10 ^ k
 | 0, n, y, h => by cases y <;> simp [numD] <;> omega
 | k + 1, n, [], h => by
  have h10 : (0 : Int) < 10 ^ (k + 1) := Int.pow_pos (by decide)
  have h2 : (1 : Int) ≤ 10 ^ (k + 1) := h10
  have h3 := Int.mul_le_mul_of_nonneg_left h2 (show 0 ≤ n + 1 by omega)
  simp only [numD]
  omega
 | k + 1, n, c :: r, h => by
  have h10 : (0 : Int) < 10 ^ (k + 1) := Int.pow_pos (by decide)
  have h2 : (1 : Int) ≤ 10 ^ (k + 1) := h10
  have h3 := Int.mul_le_mul_of_nonneg_left h2 (show 0 ≤ n + 1 by omega)
  rw [numD]
  split
  ·rename_i hd
   simp only [digB, Bool.and_eq_true, decide_eq_true_eq] at hd
   obtain ⟨g1, g2⟩ := numD_bd k (n * 10 + ((c.toNat : Int) - 48)) r (by omega)
   refine ⟨g1, Int.lt_of_lt_of_le g2 ?_⟩
   have h4 : n * 10 + ((c.toNat : Int) - 48) + 1 ≤ (n + 1) * 10 := by omega
   have h5 := Int.mul_le_mul_of_nonneg_right h4 (Int.le_of_lt (show (0 : Int) < 10 ^ k from Int.pow_pos (by decide)))
   rw [Int.pow_succ, Int.mul_comm (10 ^ k) 10, ← Int.mul_assoc]
   exact h5
  ·simp only
   omega
theorem numN_bd (x : List UInt8) : -10000000000 ≤ (numN x).1 ∧ (numN x).1 ≤ 10000000000 := by
 obtain ⟨g1, g2⟩ := numD_bd 9 0 (x.drop (startN x)) (Int.le_refl _)
 have g3 : (numD 9 0 (x.drop (startN x))).1 < 1000000000 := by simpa using g2
 have key : ∀ (p : Prop) [Decidable p] (v : Int) (n : Nat), -10000000000 ≤ v ∧ v ≤ 10000000000 → -10000000000 ≤ (if p then ((0 : Int), (0 : Nat)) else (v, n)).1 ∧ (if p then ((0 : Int), (0 : Nat)) else (v, n)).1 ≤ 10000000000 := by
  intro p _ v n h
  split
  ·simp
  ·exact h
 unfold numN
 refine key _ _ _ ?_
 split <;> omega
theorem numsN_bd : ∀ (k : Nat) (x : List UInt8) (l : List Int) (y : List UInt8), numsN k x = some (l, y) → ∀ n ∈ l, -10000000000 ≤ n ∧ n ≤ 10000000000
 | 0, x, l, y, h => by injection h with h; injection h with h _; subst h; intro n hn; cases hn
 | k + 1, [], l, y, h => by cases h
 | k + 1, c :: r, l, y, h => by
  rw [numsN] at h
  split at h
  ·split at h
   ·cases h
   ·split at h
    ·rename_i l' y' h1
     injection h with h
     injection h with h _
     subst h
     intro n hn
     rcases List.mem_cons.mp hn with rfl | hn
     ·exact numN_bd r
     ·exact numsN_bd k _ l' y' h1 n hn
    ·cases h
  ·cases h
theorem wordO_case {x : Ln} {l : List Int} (h : wordO wCases 1 x = some l) (hx : x.length ≤ 1000000) : ∀ n ∈ l, -10000000000 ≤ n ∧ n ≤ 10000000000 := by
 unfold wordO at h
 split at h
 ·split at h
  ·rename_i l' y h1
   split at h
   ·injection h with h
    subst h
    exact numsN_bd 1 _ _ _ h1
   ·cases h
  ·cases h
 ·cases h
set_option maxHeartbeats 4000000 in
theorem read_ok : ∀ (f : Nat) (ls : List Ln), ls.length < f → ls.length ≤ 900000 → (∀ x ∈ ls, x.length ≤ 1000000) → PureOK ctx 59 [wordsP ls] (readR (readN f [] ls)) := by
  intro f
  induction f using Nat.strongRecOn with
  | ind f ih =>
    intro ls hf hn hxl
    refine pure_body' (C := ctx) (Fn.of fn59 rfl) rfl ?_
    unfold c59
    iterate 8 first
      | refine ⟨by simp [vb] <;> omega, by simp [vb] <;> omega, ?_⟩
      | (refine evA ?_; iterate 2 (try dsimp only [go_sem]))
    refine aw_seq ?_
    refine aw_block ?_
    generalize hout : readN f [] ls = out
    refine aw_loopJ (σ := Nat × List RStep × List Ln × Option (Int × Int × Int × Int)) (fun s => s.1 ≤ f ∧ s.2.1.length + s.2.2.1.length ≤ 900000 ∧ s.2.2.1 <:+ ls ∧ match s.2.2.2 with
        | none => s.2.2.1.length < s.1 ∧ out = readN s.1 s.2.1 s.2.2.1
        | some (k, c, a, n) => s.1 < f ∧ s.2.2.1.length < s.1 ∧ -10000000000 ≤ n ∧ n ≤ 10000000000 ∧ out = match kidsG (readN s.1 []) n.toNat s.2.2.1 with | some (ks, r') => some (.node k s.2.1 c a ks, r') | none => none)
      (fun s => match s.2.2.2 with | none => rdF s.2.2.1 0 false | some (_, _, _, n) => rdF s.2.2.1 n true)
      (fun s => match s.2.2.2 with | none => [zeroTB, tR 0 0 0 s.2.1] ++ sM s.2.1 | some (k, c, a, _) => [zeroTB, tR k c a s.2.1] ++ sM s.2.1)
      (fun s => match s.2.2.2 with | none => s.1 + 1 | some _ => 0) (f, [], ls, none) ⟨Nat.le_refl _, by simpa using hn, List.suffix_refl _, hf, hout.symm⟩ (by (repeat' (first | exact trivial | refine And.intro (by first | rfl | (simp [get, Nat.beq, rdF]; done) | (simp [get, Nat.beq, rdF]; omega) | (dsimp only [get]; congr 1 <;> first | rfl | omega | (simp; done) | (simp; omega))) ?_))) ⟨[], rfl⟩ (fun s _ => ?_) fun s hs => ?_
    · obtain ⟨j, S, r, o⟩ := s
      cases o with
      | none =>
        cases S with
        | nil => exact ⟨Nat.zero_le _, rfl, rfl⟩
        | cons n l => exact ⟨Nat.zero_le _, rfl, by simp [tR, sM, okMem, zeroTB, bnd]⟩
      | some q =>
        obtain ⟨k, c, a, n⟩ := q
        cases S with
        | nil => exact ⟨Nat.zero_le _, rfl, rfl⟩
        | cons n l => exact ⟨Nat.zero_le _, rfl, by simp [tR, sM, okMem, zeroTB, bnd]⟩
    obtain ⟨j, S, r, o⟩ := s
    obtain ⟨h1, h2, h3, h4⟩ := hs
    cases o with
    | some q =>
      obtain ⟨k, c, a, n⟩ := q
      obtain ⟨h5, h6, h7, h8, h9⟩ := h4
      simp only at h1 h2 h3 h5 h6 h7 h8 h9 ⊢
      unfold rdF
      iterate 5 first
        | refine ⟨fun h => by simp at h <;> omega, fun _ => ?_⟩
        | refine ⟨by simp [vb] <;> omega, by simp [vb] <;> omega, ?_⟩
        | (refine evA ?_; iterate 2 (try dsimp only [go_sem]))
      refine aw_frame (rdF r n true) (by (repeat' (first | exact trivial | refine And.intro (by first | rfl | (simp [get, Nat.beq, rdF]; done) | (simp [get, Nat.beq, rdF]; omega) | (dsimp only [get]; congr 1 <;> first | rfl | omega | (simp; done) | (simp; omega))) ?_))) ?_
      refine aw_rsteps k c a S (fun _ => rfl) rfl ?_
      refine rkids_aw k c a S n ⟨h7, h8⟩ r (by omega) (readN j []) (fun ls' t r h => readN_shrink j [] ls' t r h) (fun ls' hs => ?_) out h9
      have := hs.length_le
      exact ih j h5 ls' (by omega) (by omega) fun x hm => hxl x (h3.subset (hs.subset hm))
    | none =>
      obtain ⟨h5, h6⟩ := h4
      simp only at h1 h2 h3 h5 h6 ⊢
      obtain ⟨j, rfl⟩ : ∃ i, j = i + 1 := ⟨j - 1, by omega⟩
      unfold rdF
      iterate 5 first
        | refine ⟨fun _ => ?_, fun h => by simp at h <;> omega⟩
        | refine ⟨by simp [vb] <;> omega, by simp [vb] <;> omega, ?_⟩
        | (refine evA ?_; iterate 2 (try dsimp only [go_sem]))
      refine aw_frame (rdF r 0 false) (by (repeat' (first | exact trivial | refine And.intro (by first | rfl | (simp [get, Nat.beq, rdF]; done) | (simp [get, Nat.beq, rdF]; omega) | (dsimp only [get]; congr 1 <;> first | rfl | omega | (simp; done) | (simp; omega))) ?_))) ?_
      refine aw_block ?_
      cases r with
      | nil =>
        have ho : out = none := h6.trans rfl
        rw [ho]
        cases S with
        | nil =>
          unfold rdF
          repeat' (first
            | ((with_reducible show VCs _); first | exact True.intro | (simp only [vb, lb]; omega) | (simp [vb] <;> omega))
            | ((with_reducible show All _); first | exact True.intro | ((try dsimp only [go_sem]); first | (simp [vb] <;> omega) | (simp only [vb, and_true, true_implies]; (repeat' (first | (with_reducible assumption) | (with_reducible apply And.intro) | intro _ | ((fail_if_success (with_reducible show (_ : Int) ≤ _)); assumption))) <;> first | omega | rfl | (simp only [ab]; done) | (simp [Nat.mul_one] <;> omega) | (simp_all; done))))
            | exact (rfl : some _ = _)
            | (fail_if_success refine awL ?_
               refine evA ?_
               repeat1' dsimp only [c59, wordsP, tR_nil, sM_nil, zeroTB, readR, go_sem]
               first
               | refine aw4 ?_ ?_ rfl ?_
               | apply aw3
               | apply aw2
               | (refine awB (fun hc => ?_) fun hc => ?_ <;> first | (cases hc; done) | (exfalso; first | (simp at hc <;> omega)) | (try simp only [bn] at hc; try contradiction))
               | skip))
        | cons s0 l0 =>
          unfold rdF
          repeat' (first
            | ((with_reducible show VCs _); first | exact True.intro | (simp only [vb, lb]; omega) | (simp [vb] <;> omega))
            | ((with_reducible show All _); first | exact True.intro | ((try dsimp only [go_sem]); first | (simp [vb] <;> omega) | (simp only [vb, and_true, true_implies]; (repeat' (first | (with_reducible assumption) | (with_reducible apply And.intro) | intro _ | ((fail_if_success (with_reducible show (_ : Int) ≤ _)); assumption))) <;> first | omega | rfl | (simp only [ab]; done) | (simp [Nat.mul_one] <;> omega) | (simp_all; done))))
            | exact (rfl : some _ = _)
            | (fail_if_success refine awL ?_
               refine evA ?_
               repeat1' dsimp only [c59, wordsP, tR_cons, sM_cons, zeroTB, readR, go_sem]
               first
               | refine aw4 ?_ ?_ rfl ?_
               | apply aw3
               | apply aw2
               | (refine awB (fun hc => ?_) fun hc => ?_ <;> first | (cases hc; done) | (exfalso; first | (simp at hc <;> omega)) | (try simp only [bn] at hc; try contradiction))
               | skip))
      | cons x r =>
        simp only [List.length_cons] at h2 h5
        have hx := hxl x (h3.subset (by simp))
        have h3' := (List.suffix_cons x r).trans h3
        rw [readN] at h6
        refine line_aw S (by omega) x r hx (by omega) (fun kd l hc f' junk hsub => ?_) (fun k c a n hc f' junk hsub => ?_) fun n1 n2 n3 n4 n5 f' junk g2 g3 g4 => ?_
        · refine ⟨(j, S ++ [⟨kd, l.getD 0 0, l.getD 1 0⟩], r, none), by show j + 1 < j + 1 + 1; omega, ⟨by show j ≤ f; omega, by simp; omega, h3', by show r.length < j; omega, ?_⟩, hsub, junk, rfl⟩
          show out = readN j _ r
          rw [h6]
          rcases hc with ⟨q1, rfl⟩ | ⟨q1, q2, rfl⟩
          · rw [q1]
          · rw [q1]
            simp only
            rw [q2]
        · have hb : -10000000000 ≤ n ∧ n ≤ 10000000000 := by
            rcases hc with ⟨_, _, _, _, rfl, _⟩ | ⟨_, _, _, q4, _⟩ | ⟨_, _, _, _, _, _, _, _, rfl⟩
            · omega
            · exact wordO_case q4 hx n (by simp)
            · omega
          refine ⟨(j, S, r, some (k, c, a, n)), by show 0 < j + 1 + 1; omega, ⟨by show j ≤ f; omega, by show S.length + r.length ≤ _; omega, h3', by show j < f; omega, by show r.length < j; omega, hb.1, hb.2, ?_⟩, hsub, junk, rfl⟩
          show out = match kidsG (readN j []) n.toNat r with | some (ks, r') => some (.node k S c a ks, r') | none => none
          rw [h6]
          rcases hc with ⟨q1, q2, q3, rfl, rfl, _⟩ | ⟨q1, q2, q3, q4, rfl, rfl, rfl, _⟩ | ⟨q1, q2, q3, q4, q5, rfl, rfl, rfl, rfl⟩
          · rw [q1]; simp only; rw [q2]; simp only; rw [q3]; rfl
          · rw [q1]; simp only; rw [q2]; simp only; rw [q3]; simp only; rw [q4]; rfl
          · rw [q1]; simp only; rw [q2]; simp only; rw [q3]; simp only; rw [q4]; simp only; rw [if_pos q5]; rfl
        · have ho : out = none := by
            rw [h6, n1]; simp only; rw [n2]; simp only; rw [n3]; simp only; rw [n4]; simp only; rw [if_neg n5]
          rw [ho]
          show RetPD [.cell 2 5 true, .t 3, .t 4] (readR none) .ret f' (zeroTB :: junk)
          simp only [RetPD, RetD, evResult, go_sem, g2, g3, g4, zeroTB, readR]
          exact ⟨by simp [VCs], trivial⟩
end Pur
end Go.Proofs.YtaleoeblooeglaaGreatDoor
namespace Go.Proofs.YtaleoeblooeglaaGreatDoor
namespace Rf
theorem kidsG_wtR {tf : List Ln → Option (Tree × List Ln)} (h : ∀ ls t r, tf ls = some (t, r) → wt t + r.length ≤ ls.length) : ∀ (n : Nat) (ls : List Ln) (ts : List Tree) (r : List Ln), kidsG tf n ls = some (ts, r) → wts ts + r.length ≤ ls.length
 | 0, ls, ts, r, e => by injection e with e; injection e with e1 e; subst e e1; simp [wts]
 | n + 1, ls, ts, r, e => by
  rw [kidsG] at e
  split at e
  ·rename_i t r1 h1
   split at e
   ·rename_i ts' r2 h2
    injection e with e
    injection e with e1 e
    subst e e1
    have := kidsG_wtR h n r1 ts' r2 h2
    have := h _ _ _ h1
    rw [wts]
    omega
   ·cases e
  ·cases e
theorem readN_wt : ∀ (f : Nat) (S : List RStep) (ls : List Ln) (t : Tree) (r : List Ln), readN f S ls = some (t, r) → wt t + r.length ≤ S.length + ls.length
 | 0, _, _, _, _, e => by cases e
 | f + 1, S, ls, t, r, e => by
  have ih : ∀ (S : List RStep) (ls : List Ln) (t : Tree) (r : List Ln), readN f S ls = some (t, r) → wt t + r.length ≤ S.length + ls.length := fun S ls t r => readN_wt f S ls t r
  have one : ∀ (n : Nat) (x : Ln) (l : List Ln) (k c a : Int), (match kidsG (readN f []) n l with | some (ks, r') => some (Tree.node k S c a ks, r') | none => none) = some (t, r) → wt t + r.length ≤ S.length + (x :: l).length := fun n x l k c a h => by
   split at h
   ·rename_i ks r' hk
    injection h with h
    injection h with h1 h
    subst h h1
    have := kidsG_wtR (fun ls t r h => by simpa using ih [] ls t r h) _ _ _ _ hk
    rw [wt_node, List.length_cons]
    omega
   ·cases h
  have step : ∀ (y : RStep) (x : Ln) (l : List Ln), readN f (S ++ [y]) l = some (t, r) → wt t + r.length ≤ S.length + (x :: l).length := fun y x l h => by
   have := ih _ _ _ _ h
   simp at this ⊢
   omega
  cases ls with
  | nil => cases e
  | cons x l =>
   rw [readN] at e
   split at e
   ·exact step _ _ _ e
   ·split at e
    ·exact step _ _ _ e
    ·split at e
     ·exact one _ _ _ _ _ _ e
     ·split at e
      ·exact one _ _ _ _ _ _ e
      ·split at e
       ·injection e with e
        injection e with e1 e
        subst e e1
        rw [wt_node]
        simp [wts]
        omega
       ·cases e
def refParseN (s : List UInt8) : Tree × Int :=
 if s.length > 65536 then (zt, 8)
 else if (Pur.lnAt s s.length).2 = [] then match readN ((Pur.lnAt s s.length).1.length + 1) [] (Pur.lnAt s s.length).1 with
  | some (t, []) => if validB t then (t, 0) else (zt, 3)
  | _ => (zt, 3)
 else (zt, 3)
end Rf
namespace Pur
open Go.RowKit
attribute [local go_sem] evOps evOp evOpV evRun evK argF List.map hintAt stripped get put tmpsOf tmpOf tmpO tmpL tmpP conds ev cond_true cond_false Nat.beq Nat.ble Nat.add quiet After thenR blockR IfD List.append_eq List.nil_append List.cons_append evInt exactI_a exactI_b exactI_c exactI_d exactI_e exactI_f evBin evStr evBool evUn guardC calm quiet.isCallK evPick List.getElem?_cons_zero List.getElem?_cons_succ fromCells fromPVs cellsOf List.all oneCell List.length_cons List.length_nil mkAgg plains List.drop List.take List.getD Option.getD_some bo1 bo2 ba1 ba2 bn1 bn2 kk_i64 kk_u8 kk_i32 kk_u64 setAt List.set Nat.reduceAdd Nat.reduceMul evCall safeCall refsOf refsIn scalarA scalar scalarL thawL mapAll thawArg thawRef after freeze RetD RetE evResult evRess evRes1 thaw_pv mkTup nilOf_a nilOf_b nilOf_bb nilOf_c nilOf_d nilOf_e nilOf_f nilOf_g nilOf_h nilOf_i nilOf_j nilOf_k nilOf_l nilOf_m eqLeaf_a eqLeaf_b eqLeaf_c eqOffs evMM bytesOf evOpsF AfterF footOf footRefs notIn indepF footAt freeOk still evParts fillA zeros intOfA boundA srcOf List.isEmpty appNil_0 appNil_1 appNil_2 Int.reduceToNat Nat.mul_one Nat.reduceSub evC evOpsT evOpsTF autoH tabHint look hintD strip guarded RetPD RetRD mpLen keysOk leafKA leafK bitI nilOf_n nilOf_o Bool.or_false Bool.or_true Bool.and_true Bool.and_false Nat.blt renF renM renB renV idxOf solF solM solA solV thawRef ev1
open Rf
theorem lnAt_mem (t : List UInt8) : ∀ k, ∀ x ∈ (lnAt t k).1, x.length ≤ k
 | 0, x, h => by cases h
 | k + 1, x, h => by
  have := lnAt_le t k
  unfold lnAt at h
  split at h
  ·rcases List.mem_append.mp h with h | h
   ·have := lnAt_mem t k x h; omega
   ·simp only [List.mem_singleton] at h
    subst h
    omega
  ·have := lnAt_mem t k x h; omega
def c29 : ACode := (⟨_, by conv => (lhs; reduce; try simp only [lt1, Int.cast_ofNat_Int, Int.reduceNegSucc, UInt8.reduceOfNat])⟩ : {x // codeOf Tryz.prog 29 (fun _ => false) = some x}).1
theorem fn29 : fnOf Tryz.prog 29 (fun _ => false) = some (c29, [.cell 2 5 true, .t 3], 42, true) := by kernel_rfl
def zeroP : PV := .agg [.int .i64 0, .nilsl, .int .i64 0, .int .i64 0, .nilsl]
set_option maxHeartbeats 4000000 in
theorem refParse_ok (s : List UInt8) (hs : s.length ≤ 4000000000) : PureOK ctx 29 [.str s] (.tup [treeP (refParseN s).1, .int .i64 (refParseN s).2]) := by
  have zer : ∀ n : Int, PureOK ctx 29 [.str s] (.tup [zeroP, .int .i64 n]) → PureOK ctx 29 [.str s] (.tup [treeP zt, .int .i64 n]) := fun n h => PureOK.canon_res 3 h
  unfold refParseN
  by_cases hl : s.length > 65536
  · rw [if_pos hl]
    refine zer 8 ?_
    unfold zeroP
    refine pure_body' (C := ctx) (Fn.of fn29 rfl) rfl ?_
    unfold c29
    repeat' (first
      | ((with_reducible first | show VCs _ | show All _); simp [vb, hl] <;> omega)
      | exact (rfl : some _ = _)
      | (fail_if_success refine awL ?_
         refine evA ?_
         repeat1' dsimp only [c29, go_sem]
         first
         | refine aw4 ?_ ?_ rfl ?_
         | apply aw3
         | apply aw2
         | (refine awB (fun hc => ?_) fun hc => ?_ <;> first | (cases hc; done) | (exfalso; simp [hl] at hc <;> omega) | (try simp only [bn] at hc; try contradiction))
         | skip))
  · rw [if_neg hl]
    have hL := refLines_ok s (by omega)
    have hle := lnAt_le s s.length
    have hr := read_ok ((lnAt s s.length).1.length + 1) (lnAt s s.length).1 (by omega) (by omega) fun x hx => by have := lnAt_mem s s.length x hx; omega
    have hwt := fun t r h => readN_wt ((lnAt s s.length).1.length + 1) [] (lnAt s s.length).1 t r h
    generalize hq : lnAt s s.length = q at *
    obtain ⟨L, y⟩ := q
    simp only at hL hle hr hwt ⊢
    generalize readN (L.length + 1) [] L = o at *
    unfold wordsP at hL hr
    cases o with
    | none =>
      have e : (if y = [] then (match (none : Option (Tree × List Ln)) with | some (t, []) => if validB t then (t, (0 : Int)) else (zt, 3) | _ => (zt, 3)) else (zt, 3)) = (zt, 3) := by split <;> rfl
      rw [e]
      refine zer 3 ?_
      unfold zeroP
      unfold readR at hr
      dsimp only at hr
      by_cases hy : y = []
      · rw [decide_eq_true hy] at hL
        refine pure_body' (C := ctx) (Fn.of fn29 rfl) rfl ?_
        unfold c29
        repeat' (first
          | ((with_reducible show VCs _); first | exact True.intro | (simp only [vb, lb]; omega) | (simp only [vb, lb, hl, hL, hr]; and_intros <;> first | omega | (simp <;> omega)) | (simp [vb, hl, hL, hr] <;> omega))
          | ((with_reducible show All _); first | exact True.intro | ((try dsimp only [go_sem]); first | (simp [vb, hl, hL, hr] <;> omega) | (simp only [vb, and_true, true_implies]; (repeat' (first | (with_reducible assumption) | (with_reducible apply And.intro) | intro _ | ((fail_if_success (with_reducible show (_ : Int) ≤ _)); assumption))) <;> first | omega | rfl | (simp only [ab, hl, hL, hr]; done) | (simp [Nat.mul_one, hl, hL, hr] <;> omega) | (simp_all; done))))
          | exact (rfl : some _ = _)
          | (fail_if_success refine awL ?_
             refine evH [(15, { val := some (.pv (.tup [.sl L.length (L.map .str), .bool true])) }), (20, { val := some (.pv (.tup [.agg [.int .i64 0, .nilsl, .int .i64 0, .int .i64 0, .nilsl], .nilsl, .bool false])) }), (37, { val := some (.pv (.bool false)) })] ?_
             repeat1' dsimp only [c29, go_sem]
             first
             | refine aw4 ?_ ?_ rfl ?_
             | apply aw3
             | apply aw2
             | (refine awB (fun hc => ?_) fun hc => ?_ <;> first | (cases hc; done) | (exfalso; first | (simp at hc <;> omega) | (simp [hl, hL, hr] at hc; done)) | (try simp only [bn] at hc; try contradiction))
             | skip))
      · rw [decide_eq_false hy] at hL
        refine pure_body' (C := ctx) (Fn.of fn29 rfl) rfl ?_
        unfold c29
        repeat' (first
          | ((with_reducible show VCs _); first | exact True.intro | (simp only [vb, lb]; omega) | (simp only [vb, lb, hl, hL, hr]; and_intros <;> first | omega | (simp <;> omega)) | (simp [vb, hl, hL, hr] <;> omega))
          | ((with_reducible show All _); first | exact True.intro | ((try dsimp only [go_sem]); first | (simp [vb, hl, hL, hr] <;> omega) | (simp only [vb, and_true, true_implies]; (repeat' (first | (with_reducible assumption) | (with_reducible apply And.intro) | intro _ | ((fail_if_success (with_reducible show (_ : Int) ≤ _)); assumption))) <;> first | omega | rfl | (simp only [ab, hl, hL, hr]; done) | (simp [Nat.mul_one, hl, hL, hr] <;> omega) | (simp_all; done))))
          | exact (rfl : some _ = _)
          | (fail_if_success refine awL ?_
             refine evH [(15, { val := some (.pv (.tup [.sl L.length (L.map .str), .bool false])) }), (20, { val := some (.pv (.tup [.agg [.int .i64 0, .nilsl, .int .i64 0, .int .i64 0, .nilsl], .nilsl, .bool false])) }), (37, { val := some (.pv (.bool false)) })] ?_
             repeat1' dsimp only [c29, go_sem]
             first
             | refine aw4 ?_ ?_ rfl ?_
             | apply aw3
             | apply aw2
             | (refine awB (fun hc => ?_) fun hc => ?_ <;> first | (cases hc; done) | (exfalso; first | (simp at hc <;> omega) | (simp [hl, hL, hr] at hc; done)) | (try simp only [bn] at hc; try contradiction))
             | skip))
    | some p =>
      obtain ⟨t, r⟩ := p
      have hw := hwt t r rfl
      have hv := refValidT_ok t (by simp at hw; omega)
      unfold readR treeP wordsP at hr
      unfold treeP at hv
      by_cases hy : y = []
      · rw [decide_eq_true hy] at hL
        rw [if_pos hy]
        cases r with
        | nil =>
          simp only
          cases hb : validB t with
          | true =>
            rw [hb] at hv
            simp only [if_true]
            unfold treeP
            refine pure_body' (C := ctx) (Fn.of fn29 rfl) rfl ?_
            unfold c29
            repeat' (first
              | ((with_reducible show VCs _); first | exact True.intro | (simp only [vb, lb]; omega) | (simp only [vb, lb, hl, hL, hr, hv]; and_intros <;> first | omega | (simp <;> omega)) | (simp [vb, hl, hL, hr, hv] <;> omega))
              | ((with_reducible show All _); first | exact True.intro | ((try dsimp only [go_sem]); first | (simp [vb, hl, hL, hr, hv] <;> omega) | (simp only [vb, and_true, true_implies]; (repeat' (first | (with_reducible assumption) | (with_reducible apply And.intro) | intro _ | ((fail_if_success (with_reducible show (_ : Int) ≤ _)); assumption))) <;> first | omega | rfl | (simp only [ab, hl, hL, hr, hv]; done) | (simp [Nat.mul_one, hl, hL, hr, hv] <;> omega) | (simp_all; done))))
              | exact (rfl : some _ = _)
              | (fail_if_success refine awL ?_
                 refine evH [(15, { val := some (.pv (.tup [.sl L.length (L.map .str), .bool true])) }), (20, { val := some (.pv (.tup [.agg [.int .i64 t.kind, rstepsP t.steps, .int .i64 t.cell, .int .i64 t.pos, kidsP t.kids], .sl 0 [], .bool true])) }), (37, { val := some (.pv (.bool true)) })] ?_
                 repeat1' dsimp only [c29, go_sem]
                 first
                 | refine aw4 ?_ ?_ rfl ?_
                 | apply aw3
                 | apply aw2
                 | (refine awB (fun hc => ?_) fun hc => ?_ <;> first | (cases hc; done) | (exfalso; first | (simp at hc <;> omega) | (simp [hl, hL, hr, hv] at hc; done)) | (try simp only [bn] at hc; try contradiction))
                 | skip))
          | false =>
            rw [hb] at hv
            simp only [Bool.false_eq_true, if_false]
            refine zer 3 ?_
            unfold zeroP
            refine pure_body' (C := ctx) (Fn.of fn29 rfl) rfl ?_
            unfold c29
            repeat' (first
              | ((with_reducible show VCs _); first | exact True.intro | (simp only [vb, lb]; omega) | (simp only [vb, lb, hl, hL, hr, hv]; and_intros <;> first | omega | (simp <;> omega)) | (simp [vb, hl, hL, hr, hv] <;> omega))
              | ((with_reducible show All _); first | exact True.intro | ((try dsimp only [go_sem]); first | (simp [vb, hl, hL, hr, hv] <;> omega) | (simp only [vb, and_true, true_implies]; (repeat' (first | (with_reducible assumption) | (with_reducible apply And.intro) | intro _ | ((fail_if_success (with_reducible show (_ : Int) ≤ _)); assumption))) <;> first | omega | rfl | (simp only [ab, hl, hL, hr, hv]; done) | (simp [Nat.mul_one, hl, hL, hr, hv] <;> omega) | (simp_all; done))))
              | exact (rfl : some _ = _)
              | (fail_if_success refine awL ?_
                 refine evH [(15, { val := some (.pv (.tup [.sl L.length (L.map .str), .bool true])) }), (20, { val := some (.pv (.tup [.agg [.int .i64 t.kind, rstepsP t.steps, .int .i64 t.cell, .int .i64 t.pos, kidsP t.kids], .sl 0 [], .bool true])) }), (37, { val := some (.pv (.bool false)) })] ?_
                 repeat1' dsimp only [c29, go_sem]
                 first
                 | refine aw4 ?_ ?_ rfl ?_
                 | apply aw3
                 | apply aw2
                 | (refine awB (fun hc => ?_) fun hc => ?_ <;> first | (cases hc; done) | (exfalso; first | (simp at hc <;> omega) | (simp [hl, hL, hr, hv] at hc; done)) | (try simp only [bn] at hc; try contradiction))
                 | skip))
        | cons x r =>
          simp only
          refine zer 3 ?_
          unfold zeroP
          refine pure_body' (C := ctx) (Fn.of fn29 rfl) rfl ?_
          unfold c29
          repeat' (first
            | ((with_reducible show VCs _); first | exact True.intro | (simp only [vb, lb]; omega) | (simp only [vb, lb, hl, hL, hr, hv]; and_intros <;> first | omega | (simp <;> omega)) | (simp [vb, hl, hL, hr, hv] <;> omega))
            | ((with_reducible show All _); first | exact True.intro | ((try dsimp only [go_sem]); first | (simp [vb, hl, hL, hr, hv] <;> omega) | (simp only [vb, and_true, true_implies]; (repeat' (first | (with_reducible assumption) | (with_reducible apply And.intro) | intro _ | ((fail_if_success (with_reducible show (_ : Int) ≤ _)); assumption))) <;> first | omega | rfl | (simp only [ab, hl, hL, hr, hv]; done) | (simp [Nat.mul_one, hl, hL, hr, hv] <;> omega) | (simp_all; done))))
            | exact (rfl : some _ = _)
            | (fail_if_success refine awL ?_
               refine evH [(15, { val := some (.pv (.tup [.sl L.length (L.map .str), .bool true])) }), (20, { val := some (.pv (.tup [.agg [.int .i64 t.kind, rstepsP t.steps, .int .i64 t.cell, .int .i64 t.pos, kidsP t.kids], .sl (r.length + 1) ((x :: r).map .str), .bool true])) }), (37, { val := some (.pv (.bool (validB t))) })] ?_
               repeat1' dsimp only [c29, go_sem]
               first
               | refine aw4 ?_ ?_ rfl ?_
               | apply aw3
               | apply aw2
               | (refine awB (fun hc => ?_) fun hc => ?_ <;> first | (cases hc; done) | (exfalso; first | (simp at hc <;> omega) | (simp [hl, hL, hr, hv] at hc; done)) | (try simp only [bn] at hc; try contradiction))
               | skip))
      · rw [decide_eq_false hy] at hL
        rw [if_neg hy]
        refine zer 3 ?_
        unfold zeroP
        refine pure_body' (C := ctx) (Fn.of fn29 rfl) rfl ?_
        unfold c29
        repeat' (first
          | ((with_reducible show VCs _); first | exact True.intro | (simp only [vb, lb]; omega) | (simp only [vb, lb, hl, hL, hr, hv]; and_intros <;> first | omega | (simp <;> omega)) | (simp [vb, hl, hL, hr, hv] <;> omega))
          | ((with_reducible show All _); first | exact True.intro | ((try dsimp only [go_sem]); first | (simp [vb, hl, hL, hr, hv] <;> omega) | (simp only [vb, and_true, true_implies]; (repeat' (first | (with_reducible assumption) | (with_reducible apply And.intro) | intro _ | ((fail_if_success (with_reducible show (_ : Int) ≤ _)); assumption))) <;> first | omega | rfl | (simp only [ab, hl, hL, hr, hv]; done) | (simp [Nat.mul_one, hl, hL, hr, hv] <;> omega) | (simp_all; done))))
          | exact (rfl : some _ = _)
          | (fail_if_success refine awL ?_
             refine evH [(15, { val := some (.pv (.tup [.sl L.length (L.map .str), .bool false])) }), (20, { val := some (.pv (.tup [.agg [.int .i64 t.kind, rstepsP t.steps, .int .i64 t.cell, .int .i64 t.pos, kidsP t.kids], .sl r.length (r.map .str), .bool true])) }), (37, { val := some (.pv (.bool (validB t))) })] ?_
             repeat1' dsimp only [c29, go_sem]
             first
             | refine aw4 ?_ ?_ rfl ?_
             | apply aw3
             | apply aw2
             | (refine awB (fun hc => ?_) fun hc => ?_ <;> first | (cases hc; done) | (exfalso; first | (simp at hc <;> omega) | (simp [hl, hL, hr, hv] at hc; done)) | (try simp only [bn] at hc; try contradiction))
             | skip))
end Pur
end Go.Proofs.YtaleoeblooeglaaGreatDoor
namespace Go.Proofs.YtaleoeblooeglaaGreatDoor
namespace Rf
theorem spC_snoc (c d : UInt8) : ∀ (x : List UInt8) (a : List Ln) (b : Ln), spC c x = a ++ [b] → spC c (x ++ [d]) = if d = c then a ++ [b] ++ [[]] else a ++ [b ++ [d]]
 | [], a, b, h => by
  have h' : ([[]] : List Ln) = a ++ [b] := h
  cases a with
  | nil =>
   simp at h'
   subst h'
   simp only [List.nil_append, spC]
   split <;> simp
  | cons z r => simp at h'
 | y :: r, a, b, h => by
  rw [spC] at h
  rw [List.cons_append, spC]
  by_cases hy : y = c
  ·rw [if_pos hy] at h ⊢
   cases a with
   | nil =>
    simp at h
    exact absurd h.2 (spC_ne c r)
   | cons z a' =>
    simp only [List.cons_append, List.cons.injEq] at h
    obtain ⟨rfl, h⟩ := h
    rw [spC_snoc c d r a' b h]
    split <;> simp
  ·rw [if_neg hy] at h ⊢
   cases hs : spC c r with
   | nil => exact absurd hs (spC_ne c r)
   | cons u t =>
    rw [hs] at h
    simp only at h
    cases a with
    | nil =>
     simp only [List.nil_append, List.cons.injEq] at h
     obtain ⟨rfl, rfl⟩ := h
     rw [spC_snoc c d r [] u hs]
     by_cases hd : d = c <;> simp [hd]
    | cons z a' =>
     simp only [List.cons_append, List.cons.injEq] at h
     obtain ⟨rfl, rfl⟩ := h
     rw [spC_snoc c d r (u :: a') b (by rw [hs]; rfl)]
     by_cases hd : d = c <;> simp [hd]
theorem ln_take (s : List UInt8) : ∀ k, k ≤ s.length → spC 10 (s.take k) = (Pur.lnAt s k).1 ++ [(Pur.lnAt s k).2]
 | 0, _ => by simp [spC, Pur.lnAt]
 | k + 1, hk => by
  have ih := ln_take s k (by omega)
  have e : s.take (k + 1) = s.take k ++ [s.getD k 0] := by rw [List.take_add_one, List.getD, List.getElem?_eq_getElem (by omega)]; simp
  rw [e, spC_snoc 10 _ _ _ _ ih, Pur.lnAt]
  split <;> rfl
theorem ln_split (s : List UInt8) : spC 10 s = (Pur.lnAt s s.length).1 ++ [(Pur.lnAt s s.length).2] := by
 have := ln_take s s.length (Nat.le_refl _)
 rwa [List.take_length] at this
def NoDig : List UInt8 → Prop
 | [] => True
 | c :: _ => digB c = false
theorem numD_stop (k : Nat) (n : Int) (y : List UInt8) (h : NoDig y) : numD k n y = (n, 0) := by
 cases k with
 | zero => cases y <;> rfl
 | succ k =>
  cases y with
  | nil => rfl
  | cons c r =>
   have h' : digB c = false := h
   rw [numD, h']
   rfl
theorem numD_dec : ∀ (l : List UInt8) (acc m k : Nat) (y : List UInt8), Lib.decFrom acc l = some m → l.length ≤ k → NoDig y → numD k acc (l ++ y) = ((m : Int), l.length)
 | [], acc, m, k, y, h, _, hy => by
  simp [Lib.decFrom] at h
  subst h
  exact numD_stop k _ y hy
 | c :: r, acc, m, k, y, h, hk, hy => by
  obtain ⟨j, rfl⟩ : ∃ j, k = j + 1 := ⟨k - 1, by simp at hk; omega⟩
  simp only [Lib.decFrom] at h
  split at h
  ·rename_i d hd
   obtain ⟨h1, h2, h3⟩ := Lib.digitVal_eq hd
   have hdg : digB c = true := by unfold digB; simp; omega
   rw [List.cons_append, numD, if_pos hdg]
   have e : (acc : Int) * 10 + ((c.toNat : Int) - 48) = ((acc * 10 + d : Nat) : Int) := by omega
   rw [e, numD_dec r (acc * 10 + d) m j y h (by simp at hk; omega) hy]
   rfl
  ·cases h
theorem nDigits_9 {u : Nat} (h : u < 1000000000) : Lib.nDigits u ≤ 9 := by
 have : ∀ k u : Nat, u < 10 ^ (k + 1) → Lib.nDigits u ≤ k + 1 := by
  intro k
  induction k with
  | zero => intro u hu; rw [Lib.nDigits_small (by simpa using hu)]; omega
  | succ k ih =>
   intro u hu
   by_cases h : u < 10
   ·rw [Lib.nDigits_small h]; omega
   ·rw [Lib.nDigits_big h]
    have := ih (u / 10) (by rw [Nat.div_lt_iff_lt_mul (by decide)]; rw [Nat.pow_succ] at hu; exact hu)
    omega
 exact this 8 u (by simpa using h)
theorem nextDig_no {x y : List UInt8} (h : NoDig y) : nextDig (x ++ y) x.length = false := by
 unfold nextDig
 cases y with
 | nil => simp
 | cons c r =>
  have h' : digB c = false := h
  simp [List.getD, h']
theorem numN_itoa {v : Int} (h : -100000000 ≤ v ∧ v ≤ 100000000) (y : List UInt8) (hy : NoDig y) : numN (Lib.itoa v ++ y) = (v, (Lib.itoa v).length) := by
 have hl : (Lib.decDigits v.natAbs).length ≤ 9 := by rw [Lib.decDigits_length]; exact nDigits_9 (by omega)
 obtain ⟨g1, g2⟩ := head_digits v.natAbs
 have hd : numD 9 0 (Lib.decDigits v.natAbs ++ y) = ((v.natAbs : Int), (Lib.decDigits v.natAbs).length) := numD_dec (Lib.decDigits v.natAbs) 0 v.natAbs 9 y (dec_digits _) hl hy
 have hnd := nextDig_no (x := Lib.itoa v) hy
 have htk : (Lib.itoa v ++ y).take (Lib.itoa v).length = Lib.itoa v := by simp
 have hpos : (Lib.decDigits v.natAbs).length ≠ 0 := fun h => g2 (List.eq_nil_of_length_eq_zero h)
 by_cases hv : v < 0
 ·have e : Lib.itoa v = 45 :: Lib.decDigits v.natAbs := by unfold Lib.itoa; rw [if_pos hv]
  have hst : startN (Lib.itoa v ++ y) = 1 := by rw [e]; rfl
  unfold numN
  rw [hst]
  have hdr : (Lib.itoa v ++ y).drop 1 = Lib.decDigits v.natAbs ++ y := by rw [e]; rfl
  have hlen : (Lib.itoa v).length = 1 + (Lib.decDigits v.natAbs).length := by rw [e]; simp; omega
  simp only [hdr, hd, if_true]
  rw [show (-(v.natAbs : Int)) = v by omega, ← hlen]
  rw [if_neg]
  rintro (h1 | h1 | h1)
  ·exact hpos h1
  ·exact h1 htk.symm
  ·rw [hnd] at h1; cases h1
 ·have e : Lib.itoa v = Lib.decDigits v.natAbs := by unfold Lib.itoa; rw [if_neg hv, show v.toNat = v.natAbs by omega]
  have hst : startN (Lib.itoa v ++ y) = 0 := by
   rw [e]
   cases hq : Lib.decDigits v.natAbs with
   | nil => exact absurd hq g2
   | cons c r =>
    rw [hq] at g1
    simp at g1
    rw [List.cons_append, startN, if_neg g1]
  unfold numN
  rw [hst]
  have hdr : (Lib.itoa v ++ y).drop 0 = Lib.decDigits v.natAbs ++ y := by rw [e]; rfl
  have hlen : (Lib.itoa v).length = 0 + (Lib.decDigits v.natAbs).length := by rw [e]; simp
  simp only [hdr, hd]
  rw [if_neg (by decide : ¬ (0 : Nat) = 1), show ((v.natAbs : Int)) = v by omega, ← hlen]
  rw [if_neg]
  rintro (h1 | h1 | h1)
  ·exact hpos h1
  ·exact h1 htk.symm
  ·rw [hnd] at h1; cases h1
theorem numN_sound {x : List UInt8} (h : (numN x).2 ≠ 0) : x = Lib.itoa (numN x).1 ++ x.drop (numN x).2 := by
 have key : ∀ (p : Prop) [Decidable p] (v : Int) (n : Nat), (¬ p → Lib.itoa v = x.take n) → (if p then ((0 : Int), (0 : Nat)) else (v, n)).2 ≠ 0 → x = Lib.itoa (if p then ((0 : Int), (0 : Nat)) else (v, n)).1 ++ x.drop (if p then ((0 : Int), (0 : Nat)) else (v, n)).2 := by
  intro p _ v n hp hne
  by_cases hq : p
  ·rw [if_pos hq] at hne
   exact absurd rfl hne
  ·rw [if_neg hq]
   simp only
   rw [hp hq, List.take_append_drop]
 unfold numN at h ⊢
 refine key _ _ _ (fun hp => ?_) h
 apply Classical.byContradiction
 intro hne
 exact hp (.inr (.inl hne))
theorem numsN_sound : ∀ (k : Nat) (x : List UInt8) (l : List Int) (y : List UInt8), numsN k x = some (l, y) → x = (l.flatMap fun n => 32 :: Lib.itoa n) ++ y
 | 0, x, l, y, h => by injection h with h; injection h with h1 h2; subst h1 h2; rfl
 | k + 1, [], l, y, h => by cases h
 | k + 1, c :: r, l, y, h => by
  rw [numsN] at h
  split at h
  ·rename_i hc
   subst hc
   split at h
   ·cases h
   ·rename_i hz
    split at h
    ·rename_i l' y' h1
     injection h with h
     injection h with h2 h3
     subst h2 h3
     have e1 := numN_sound hz
     have e2 := numsN_sound k _ l' y' h1
     rw [List.flatMap_cons, List.append_assoc, List.cons_append, ← e2, ← e1]
    ·cases h
  ·cases h
theorem wordO_sound {w : Ln} {k : Nat} {x : Ln} {l : List Int} (h : wordO w k x = some l) : x = w ++ l.flatMap fun n => 32 :: Lib.itoa n := by
 unfold wordO at h
 split at h
 ·rename_i h0
  split at h
  ·rename_i l' y h1
   split at h
   ·rename_i hy
    injection h with h
    subst h hy
    have := numsN_sound _ _ _ _ h1
    rw [List.append_nil] at this
    rw [← this]
    conv => lhs; rw [← List.take_append_drop w.length x, h0.2]
   ·cases h
  ·cases h
 ·cases h
end Rf
end Go.Proofs.YtaleoeblooeglaaGreatDoor
namespace Go.Proofs.YtaleoeblooeglaaGreatDoor
namespace Rf
theorem noDig_32 (y : List UInt8) : NoDig (32 :: y) := by
 show digB 32 = false
 rfl
theorem numsN_two {a b : Int} (ha : -100000000 ≤ a ∧ a ≤ 100000000) (hb : -100000000 ≤ b ∧ b ≤ 100000000) : numsN 2 (32 :: (Lib.itoa a ++ 32 :: Lib.itoa b)) = some ([a, b], []) := by
 have l0 : ∀ n : Int, (Lib.itoa n).length ≠ 0 := fun n h => by
  have := List.eq_nil_of_length_eq_zero h
  unfold Lib.itoa at this
  split at this
  ·cases this
  ·exact (head_digits _).2 this
 have h2 := numN_itoa hb [] trivial
 rw [List.append_nil] at h2
 simp only [numsN, numN_itoa ha _ (noDig_32 _), if_true, if_neg (l0 a), List.drop_left, h2, if_neg (l0 b), List.drop_length]
theorem numsN_one {a : Int} (ha : -100000000 ≤ a ∧ a ≤ 100000000) : numsN 1 (32 :: Lib.itoa a) = some ([a], []) := by
 have l0 : ∀ n : Int, (Lib.itoa n).length ≠ 0 := fun n h => by
  have := List.eq_nil_of_length_eq_zero h
  unfold Lib.itoa at this
  split at this
  ·cases this
  ·exact (head_digits _).2 this
 have h2 := numN_itoa ha [] trivial
 rw [List.append_nil] at h2
 simp only [numsN, if_true, h2, if_neg (l0 a), List.drop_length]
theorem wordO_two {w : Ln} {a b : Int} (ha : -100000000 ≤ a ∧ a ≤ 100000000) (hb : -100000000 ≤ b ∧ b ≤ 100000000) : wordO w 2 (w ++ 32 :: (Lib.itoa a ++ 32 :: Lib.itoa b)) = some [a, b] := by
 unfold wordO
 rw [if_pos ⟨by simp, by simp⟩, List.drop_left, numsN_two ha hb]
 rfl
theorem wordO_one {w : Ln} {a : Int} (ha : -100000000 ≤ a ∧ a ≤ 100000000) : wordO w 1 (w ++ 32 :: Lib.itoa a) = some [a] := by
 unfold wordO
 rw [if_pos ⟨by simp, by simp⟩, List.drop_left, numsN_one ha]
 rfl
theorem wordO_not {w u : Ln} {k : Nat} {z : Ln} (h : (u ++ z).take w.length ≠ w) : wordO w k (u ++ z) = none := by
 unfold wordO
 rw [if_neg fun h2 => h h2.2]
theorem rsteps_read : ∀ (s : List RStep), (∀ x ∈ s, rstepOk x = true) → ∀ (f : Nat) (S : List RStep) (X : List Ln), s.length ≤ f → readN f S (s.map stepL ++ X) = readN (f - s.length) (S ++ s) X
 | [], _, f, S, X, _ => by simp
 | x :: r, h, f, S, X, hf => by
  obtain ⟨g, rfl⟩ : ∃ g, f = g + 1 := ⟨f - 1, by simp at hf; omega⟩
  have hx := h x (by simp)
  simp only [rstepOk, Bool.and_eq_true, insideB_iff] at hx
  obtain ⟨⟨hk, hi⟩, hc⟩ := hx
  have hc2 : -100000000 ≤ x.cell ∧ x.cell ≤ 100000000 := by split at hc <;> omega
  have ih := rsteps_read r (fun y hy => h y (by simp [hy])) g (S ++ [x]) X (by simp at hf; omega)
  have he : g + 1 - (x :: r).length = g - r.length := by simp
  rw [he, show S ++ x :: r = S ++ [x] ++ r by simp, ← ih, List.map_cons, List.cons_append, readN]
  obtain ⟨k, i, c⟩ := x
  simp only at hk hi hc hc2
  by_cases h1 : k = 1
  ·subst h1
   have hl : wordO wGraph 2 (stepL ⟨1, i, c⟩) = some [i, c] := wordO_two (w := wGraph) (a := i) (b := c) (by omega) hc2
   have hn : wordO wRow 2 (stepL ⟨1, i, c⟩) = none := wordO_not (u := wGraph) (by simp [wRow, wGraph])
   rw [hn]
   simp only
   rw [hl]
   rfl
  ·obtain rfl : k = 0 := by omega
   have hl : wordO wRow 2 (stepL ⟨0, i, c⟩) = some [i, c] := wordO_two (w := wRow) (a := i) (b := c) (by omega) hc2
   rw [hl]
   rfl
theorem readN_tree : ∀ (t : Tree), formedB t = true → ∀ (rest : List Ln) (f : Nat), (lnT t).length ≤ f → readN f [] (lnT t ++ rest) = some (t, rest) := by
 refine Tree.ind fun k s c a l ih hfo rest f hf => ?_
 rw [formedB_node, Bool.and_eq_true, Bool.and_eq_true] at hfo
 obtain ⟨⟨h1, h2⟩, h3⟩ := hfo
 rw [lnT_node] at hf ⊢
 simp only [List.length_append, List.length_map, List.length_cons] at hf
 rw [List.append_assoc, List.cons_append, rsteps_read s (fun x hx => by simpa using List.all_eq_true.mp h1 x hx) f [] _ (by omega), List.nil_append]
 obtain ⟨g, hg⟩ : ∃ g, f - s.length = g + 1 := ⟨f - s.length - 1, by omega⟩
 rw [hg, readN]
 have hk : ∀ t ∈ l, ∀ rest, readN g [] (lnT t ++ rest) = some (t, rest) := fun t ht rest => by
  have d2 := lnT_kid ht
  exact ih t ht (List.all_eq_true.mp h3 t ht) rest g (by omega)
 have hkr := kids_read (tf := readN g []) l rest hk
 unfold Rf.tailOk at h2
 by_cases k0 : k = 0
 ·subst k0
  rw [if_pos rfl, Bool.and_eq_true, Bool.and_eq_true] at h2
  obtain ⟨⟨q1, q2⟩, q3⟩ := h2
  have q1 := of_decide_eq_true q1
  have q2 := of_decide_eq_true q2
  have q3 := of_decide_eq_true q3
  obtain rfl : l = [] := List.eq_nil_of_length_eq_zero q1
  subst q2 q3
  rw [tailL, if_neg (by decide), if_neg (by decide)]
  rw [show wordO wRow 2 wClosed = none from rfl, show wordO wGraph 2 wClosed = none from rfl, show wordO wSplit 2 wClosed = none from rfl, show wordO wCases 1 wClosed = none from rfl]
  rfl
 ·rw [if_neg k0] at h2
  by_cases k1 : k = 1
  ·subst k1
   rw [if_pos rfl, Bool.and_eq_true, Bool.and_eq_true, insideB_iff, insideB_iff] at h2
   obtain ⟨⟨q1, q2⟩, q3⟩ := h2
   have q1 := of_decide_eq_true q1
   rw [q1] at hkr
   rw [tailL, if_pos rfl, wordO_not (w := wRow) (u := wSplit) (by simp [wRow, wSplit]), wordO_not (w := wGraph) (u := wSplit) (by simp [wGraph, wSplit]), wordO_two (by omega) (by omega), hkr]
   rfl
  ·rw [if_neg k1] at h2
   by_cases k2 : k = 2
   ·subst k2
    rw [if_pos rfl, Bool.and_eq_true, Bool.and_eq_true, Bool.and_eq_true] at h2
    obtain ⟨⟨⟨q0, q1⟩, q2⟩, q3⟩ := h2
    have q0 := of_decide_eq_true q0
    have q1 := of_decide_eq_true q1
    have q2 := of_decide_eq_true q2
    have q3 := of_decide_eq_true q3
    subst q2 q3
    rw [tailL, if_neg (by decide), if_pos rfl, wordO_not (w := wRow) (u := wCases) (by simp [wRow, wCases]), wordO_not (w := wGraph) (u := wCases) (by simp [wGraph, wCases]), wordO_not (w := wSplit) (u := wCases) (by simp [wSplit, wCases]), wordO_one (by omega)]
    simp only
    rw [show (([(l.length : Int)] : List Int).getD 0 0).toNat = l.length from Int.toNat_natCast _, hkr]
   ·rw [if_neg k2] at h2
    cases h2
theorem kidsG_count {tf : List Ln → Option (Tree × List Ln)} : ∀ (n : Nat) (ls : List Ln) (ts : List Tree) (r : List Ln), kidsG tf n ls = some (ts, r) → ts.length = n
 | 0, ls, ts, r, e => by injection e with e; injection e with e _; subst e; rfl
 | n + 1, ls, ts, r, e => by
  rw [kidsG] at e
  split at e
  ·split at e
   ·rename_i ts' r2 h2
    injection e with e
    injection e with e _
    subst e
    rw [List.length_cons, kidsG_count n _ ts' r2 h2]
   ·cases e
  ·cases e
theorem kidsG_sound {tf : List Ln → Option (Tree × List Ln)} (h : ∀ ls t r, tf ls = some (t, r) → formedB t = true → ls = lnT t ++ r) : ∀ (n : Nat) (ls : List Ln) (ts : List Tree) (r : List Ln), kidsG tf n ls = some (ts, r) → ts.all formedB = true → ls = ts.flatMap lnT ++ r
 | 0, ls, ts, r, e, _ => by injection e with e; injection e with e1 e2; subst e1 e2; rfl
 | n + 1, ls, ts, r, e, ha => by
  rw [kidsG] at e
  split at e
  ·rename_i t r1 h1
   split at e
   ·rename_i ts' r2 h2
    injection e with e
    injection e with e1 e2
    subst e1 e2
    rw [List.all_cons, Bool.and_eq_true] at ha
    rw [h _ _ _ h1 ha.1, kidsG_sound h n r1 ts' _ h2 ha.2, List.flatMap_cons, List.append_assoc]
   ·cases e
  ·cases e
theorem flat2 (w : Ln) {l : List Int} (h : l.length = 2) : (w ++ l.flatMap fun n => 32 :: Lib.itoa n) = w ++ 32 :: (Lib.itoa (l.getD 0 0) ++ 32 :: Lib.itoa (l.getD 1 0)) := by
 match l, h with
 | [a, b], _ => simp
theorem flat1 (w : Ln) {l : List Int} (h : l.length = 1) : (w ++ l.flatMap fun n => 32 :: Lib.itoa n) = w ++ 32 :: Lib.itoa (l.getD 0 0) := by
 match l, h with
 | [a], _ => simp
theorem readN_sound : ∀ (f : Nat) (S : List RStep) (ls : List Ln) (t : Tree) (r : List Ln), readN f S ls = some (t, r) →
  ∃ s, t.steps = S ++ s ∧ (formedB t = true → ls = s.map stepL ++ tailL t.kind t.cell t.pos t.kids.length :: t.kids.flatMap lnT ++ r)
 | 0, _, _, _, _, e => by cases e
 | f + 1, S, ls, t, r, e => by
  have ihk : ∀ (ls : List Ln) (t : Tree) (r : List Ln), readN f [] ls = some (t, r) → formedB t = true → ls = lnT t ++ r := fun ls t r h hfo => by
   obtain ⟨s, h1, h2⟩ := readN_sound f [] ls t r h
   have h2 := h2 hfo
   obtain ⟨k, s', c, a, l⟩ := t
   simp only [Tree.steps, List.nil_append, Tree.kind, Tree.cell, Tree.pos, Tree.kids] at h1 h2
   rw [lnT_node, h1, h2]
  have step : ∀ (y : RStep) (x : Ln) (l : List Ln), x = stepL y → readN f (S ++ [y]) l = some (t, r) → ∃ s, t.steps = S ++ s ∧ (formedB t = true → x :: l = s.map stepL ++ tailL t.kind t.cell t.pos t.kids.length :: t.kids.flatMap lnT ++ r) := fun y x l hx h => by
   obtain ⟨s, h1, h2⟩ := readN_sound f _ _ _ _ h
   refine ⟨y :: s, by rw [h1]; simp, fun hfo => ?_⟩
   rw [h2 hfo, hx]
   simp
  cases ls with
  | nil => cases e
  | cons x l =>
   rw [readN] at e
   split at e
   ·rename_i l' h1
    refine step _ x l ?_ e
    rw [wordO_sound h1, flat2 wRow (Pur.wordO_len h1), stepL, if_neg (show ¬ (0 : Int) = 1 by decide)]
   ·split at e
    ·rename_i l' h1
     refine step _ x l ?_ e
     rw [wordO_sound h1, flat2 wGraph (Pur.wordO_len h1), stepL, if_pos rfl]
    ·split at e
     ·rename_i l' h1
      split at e
      ·rename_i ks r' hk
       injection e with e
       injection e with e1 e2
       subst e1 e2
       refine ⟨[], by simp [Tree.steps], fun hfo => ?_⟩
       rw [formedB_node, Bool.and_eq_true] at hfo
       simp only [Tree.kind, Tree.cell, Tree.pos, Tree.kids, List.map_nil, List.nil_append]
       rw [tailL, if_pos rfl, List.cons_append, ← kidsG_sound ihk _ _ _ _ hk hfo.2, wordO_sound h1, flat2 wSplit (Pur.wordO_len h1)]
      ·cases e
     ·split at e
      ·rename_i l' h1
       split at e
       ·rename_i ks r' hk
        injection e with e
        injection e with e1 e2
        subst e1 e2
        refine ⟨[], by simp [Tree.steps], fun hfo => ?_⟩
        rw [formedB_node, Bool.and_eq_true, Bool.and_eq_true] at hfo
        have hct := kidsG_count _ _ _ _ hk
        have ht := hfo.1.2
        unfold Rf.tailOk at ht
        rw [if_neg (by decide), if_neg (by decide), if_pos rfl, Bool.and_eq_true, Bool.and_eq_true, Bool.and_eq_true] at ht
        have h1k := of_decide_eq_true ht.1.1.1
        have hn : ((ks.length : Nat) : Int) = l'.getD 0 0 := by omega
        simp only [Tree.kind, Tree.cell, Tree.pos, Tree.kids, List.map_nil, List.nil_append]
        rw [tailL, if_neg (by decide), if_pos rfl, List.cons_append, ← kidsG_sound ihk _ _ _ _ hk hfo.2, wordO_sound h1, flat1 wCases (Pur.wordO_len h1), hn]
       ·cases e
      ·split at e
       ·rename_i hx
        injection e with e
        injection e with e1 e2
        subst e1 e2
        refine ⟨[], by simp [Tree.steps], fun _ => ?_⟩
        simp only [Tree.kind, Tree.cell, Tree.pos, Tree.kids, List.map_nil, List.nil_append]
        rw [tailL, if_neg (by decide), if_neg (by decide), hx]
        rfl
       ·cases e
theorem read_lines {f : Nat} {ls : List Ln} {t : Tree} {r : List Ln} (h : readN f [] ls = some (t, r)) (hfo : formedB t = true) : ls = lnT t ++ r := by
 obtain ⟨s, h1, h2⟩ := readN_sound f [] ls t r h
 have h2 := h2 hfo
 obtain ⟨k, s', c, a, l⟩ := t
 simp only [Tree.steps, List.nil_append, Tree.kind, Tree.cell, Tree.pos, Tree.kids] at h1 h2
 rw [lnT_node, h1, h2]
theorem spC_join (c : UInt8) : ∀ (s : List UInt8) (ls : List Ln), spC c s = ls ++ [[]] → s = ls.flatMap fun w => w ++ [c]
 | [], ls, h => by
  cases ls with
  | nil => rfl
  | cons w r => simp [spC] at h
 | x :: r, ls, h => by
  rw [spC] at h
  split at h
  ·rename_i hx
   subst hx
   cases ls with
   | nil => simp at h; exact absurd h (spC_ne x r)
   | cons w l =>
    simp only [List.cons_append, List.cons.injEq] at h
    obtain ⟨rfl, h⟩ := h
    rw [List.flatMap_cons, ← spC_join x r l h]
    rfl
  ·cases hs : spC c r with
   | nil => exact absurd hs (spC_ne c r)
   | cons u v =>
    rw [hs] at h
    simp only at h
    cases ls with
    | nil => simp at h
    | cons w l =>
     simp only [List.cons_append, List.cons.injEq] at h
     obtain ⟨rfl, rfl⟩ := h
     have := spC_join c r (u :: l) (by rw [hs]; rfl)
     rw [List.flatMap_cons] at this ⊢
     rw [this]
     simp
theorem text_len {t : Tree} {s : List UInt8} (h : textN t = s) : (Pur.lnAt s s.length).1 = lnT t ∧ (Pur.lnAt s s.length).2 = [] := by
 have h1 := ln_split s
 rw [← h, text_split] at h1
 rw [← h]
 have h2 := List.append_inj' h1 rfl
 exact ⟨h2.1.symm, by have := h2.2; simp at this; first | exact this | exact this.symm⟩
theorem parse_same (s : List UInt8) : refParseN s = parseN s := by
 by_cases hl : s.length > 65536
 ·unfold refParseN parseN
  rw [if_pos hl, if_pos hl]
 have hp : ∀ t, parseN s = (t, 0) → refParseN s = (t, 0) := fun t h => by
  obtain ⟨h1, h2, -⟩ := format_parse h
  have ht : textN t = s := by
   unfold Pur.formatN at h1
   rw [if_pos h2] at h1
   split at h1
   ·cases h1
   ·injection h1
  obtain ⟨q1, q2⟩ := text_len ht
  have hfo : formedB t = true := by
   unfold validB at h2
   rw [Bool.and_eq_true] at h2
   exact h2.2
  have hr := readN_tree t hfo [] ((lnT t).length + 1) (by omega)
  rw [List.append_nil] at hr
  unfold refParseN
  rw [if_neg hl, if_pos q2, q1, hr]
  simp only
  rw [if_pos h2]
 have hr : ∀ t, refParseN s = (t, 0) → parseN s = (t, 0) := fun t h => by
  unfold refParseN at h
  rw [if_neg hl] at h
  split at h
  ·rename_i hy
   split at h
   ·rename_i t' hrd
    split at h
    ·rename_i hv
     injection h with h _
     subst h
     have hfo : formedB t' = true := by
      unfold validB at hv
      rw [Bool.and_eq_true] at hv
      exact hv.2
     have hls := read_lines hrd hfo
     rw [List.append_nil] at hls
     have h1 := ln_split s
     rw [hls, hy] at h1
     have hs := spC_join 10 s _ h1
     rw [← text_lines] at hs
     rw [hs]
     exact parse_text t' hv (by rw [← hs]; omega)
    ·cases h
   ·cases h
  ·cases h
 have hz : ∀ q : Tree × Int, (q = parseN s ∨ q = refParseN s) → q.2 = 0 ∨ q = (zt, 3) := fun q hq => by
  rcases hq with rfl | rfl
  ·unfold parseN
   rw [if_neg hl]
   split
   ·split
    ·exact .inl rfl
    ·exact .inr rfl
   ·exact .inr rfl
  ·unfold refParseN
   rw [if_neg hl]
   split
   ·split
    ·split
     ·exact .inl rfl
     ·exact .inr rfl
    ·exact .inr rfl
   ·exact .inr rfl
 rcases hz _ (.inl rfl) with h1 | h1
 ·rw [hp (parseN s).1 (by rw [← h1])]
  rw [← h1]
 ·rcases hz _ (.inr rfl) with h2 | h2
  ·rw [hr (refParseN s).1 (by rw [← h2])]
   rw [← h2]
  ·rw [h1, h2]
end Rf
end Go.Proofs.YtaleoeblooeglaaGreatDoor
namespace Go.Proofs.YtaleoeblooeglaaGreatDoor
namespace Pur
open Go.RowKit
section
open Rf
def c11 : ACode := (⟨_, by conv => (lhs; reduce; try simp only [lt1, Int.cast_ofNat_Int, Int.reduceNegSucc, UInt8.reduceOfNat])⟩ : {x // codeOf Tryz.prog 11 (fun _ => false) = some x}).1
theorem fn11 : fnOf Tryz.prog 11 (fun _ => false) = some (c11, [.t 0], 93, true) := by kernel_rfl
def c22 : ACode := (⟨_, by conv => (lhs; reduce; try simp only [lt1, Int.cast_ofNat_Int, Int.reduceNegSucc, UInt8.reduceOfNat])⟩ : {x // codeOf Tryz.prog 22 (fun _ => false) = some x}).1
theorem fn22 : fnOf Tryz.prog 22 (fun _ => false) = some (c22, [.t 4], 21, true) := by kernel_rfl
def c24 : ACode := (⟨_, by conv => (lhs; reduce; try simp only [lt1, Int.cast_ofNat_Int, Int.reduceNegSucc, UInt8.reduceOfNat])⟩ : {x // codeOf Tryz.prog 24 (fun _ => false) = some x}).1
theorem fn24 : fnOf Tryz.prog 24 (fun _ => false) = some (c24, [.cell 4 5 true, .t 5], 38, true) := by kernel_rfl
def c36 : ACode := (⟨_, by conv => (lhs; reduce; try simp only [lt1, Int.cast_ofNat_Int, Int.reduceNegSucc, UInt8.reduceOfNat])⟩ : {x // codeOf Tryz.prog 36 (fun _ => false) = some x}).1
theorem fn36 : fnOf Tryz.prog 36 (fun _ => false) = some (c36, [.cell 0 4 true], 18, true) := by kernel_rfl
def c46 : ACode := (⟨_, by conv => (lhs; reduce; try simp only [lt1, Int.cast_ofNat_Int, Int.reduceNegSucc, UInt8.reduceOfNat])⟩ : {x // codeOf Tryz.prog 46 (fun _ => false) = some x}).1
theorem fn46 : fnOf Tryz.prog 46 (fun _ => false) = some (c46, [.t 2], 52, true) := by kernel_rfl
def c47 : ACode := (⟨_, by conv => (lhs; reduce; try simp only [lt1, Int.cast_ofNat_Int, Int.reduceNegSucc, UInt8.reduceOfNat])⟩ : {x // codeOf Tryz.prog 47 (fun _ => false) = some x}).1
theorem fn47 : fnOf Tryz.prog 47 (fun _ => false) = some (c47, [.t 4], 144, true) := by kernel_rfl
def c49 : ACode := (⟨_, by conv => (lhs; reduce; try simp only [lt1, Int.cast_ofNat_Int, Int.reduceNegSucc, UInt8.reduceOfNat])⟩ : {x // codeOf Tryz.prog 49 (fun _ => false) = some x}).1
theorem fn49 : fnOf Tryz.prog 49 (fun _ => false) = some (c49, [.cell 4 5 true, .t 5], 69, true) := by kernel_rfl
def c71 : ACode := (⟨_, by conv => (lhs; reduce; try simp only [lt1, Int.cast_ofNat_Int, Int.reduceNegSucc, UInt8.reduceOfNat])⟩ : {x // codeOf Tryz.prog 71 (fun _ => false) = some x}).1
theorem fn71 : fnOf Tryz.prog 71 (fun _ => false) = some (c71, [.t 4], 13, true) := by kernel_rfl
def c72 : ACode := (⟨_, by conv => (lhs; reduce; try simp only [lt1, Int.cast_ofNat_Int, Int.reduceNegSucc, UInt8.reduceOfNat])⟩ : {x // codeOf Tryz.prog 72 (fun _ => false) = some x}).1
theorem fn72 : fnOf Tryz.prog 72 (fun _ => false) = some (c72, [.t 2], 5, true) := by kernel_rfl
def c73 : ACode := (⟨_, by conv => (lhs; reduce; try simp only [lt1, Int.cast_ofNat_Int, Int.reduceNegSucc, UInt8.reduceOfNat])⟩ : {x // codeOf Tryz.prog 73 (fun _ => false) = some x}).1
theorem fn73 : fnOf Tryz.prog 73 (fun _ => false) = some (c73, [.t 6], 17, true) := by kernel_rfl
def c74 : ACode := (⟨_, by conv => (lhs; reduce; try simp only [lt1, Int.cast_ofNat_Int, Int.reduceNegSucc, UInt8.reduceOfNat])⟩ : {x // codeOf Tryz.prog 74 (fun _ => false) = some x}).1
theorem fn74 : fnOf Tryz.prog 74 (fun _ => false) = some (c74, [.t 4], 45, true) := by kernel_rfl
def c75 : ACode := (⟨_, by conv => (lhs; reduce; try simp only [lt1, Int.cast_ofNat_Int, Int.reduceNegSucc, UInt8.reduceOfNat])⟩ : {x // codeOf Tryz.prog 75 (fun _ => false) = some x}).1
theorem fn75 : fnOf Tryz.prog 75 (fun _ => false) = some (c75, [.t 4], 9, true) := by kernel_rfl
def c76 : ACode := (⟨_, by conv => (lhs; reduce; try simp only [lt1, Int.cast_ofNat_Int, Int.reduceNegSucc, UInt8.reduceOfNat])⟩ : {x // codeOf Tryz.prog 76 (fun _ => false) = some x}).1
theorem fn76 : fnOf Tryz.prog 76 (fun _ => false) = some (c76, [.t 3], 8, true) := by kernel_rfl
def c77 : ACode := (⟨_, by conv => (lhs; reduce; try simp only [lt1, Int.cast_ofNat_Int, Int.reduceNegSucc, UInt8.reduceOfNat])⟩ : {x // codeOf Tryz.prog 77 (fun d => Nat.beq d 5) = some x}).1
theorem fn77 : fnOf Tryz.prog 77 (fun d => Nat.beq d 5) = some (c77, [.t 2], 8, true) := by kernel_rfl
def c78 : ACode := (⟨_, by conv => (lhs; reduce; try simp only [lt1, Int.cast_ofNat_Int, Int.reduceNegSucc, UInt8.reduceOfNat])⟩ : {x // codeOf Tryz.prog 78 (fun _ => false) = some x}).1
theorem fn78 : fnOf Tryz.prog 78 (fun _ => false) = some (c78, [.t 4, .t 5], 140, true) := by kernel_rfl
def c79 : ACode := (⟨_, by conv => (lhs; reduce; try simp only [lt1, Int.cast_ofNat_Int, Int.reduceNegSucc, UInt8.reduceOfNat])⟩ : {x // codeOf Tryz.prog 79 (fun _ => false) = some x}).1
theorem fn79 : fnOf Tryz.prog 79 (fun _ => false) = some (c79, [.cell 4 2 true], 16, true) := by kernel_rfl
def c97 : ACode := (⟨_, by conv => (lhs; reduce; try simp only [lt1, Int.cast_ofNat_Int, Int.reduceNegSucc, UInt8.reduceOfNat])⟩ : {x // codeOf Tryz.prog 97 (fun _ => false) = some x}).1
theorem fn97 : fnOf Tryz.prog 97 (fun _ => false) = some (c97, [.t 2], 33, true) := by kernel_rfl
def c98 : ACode := (⟨_, by conv => (lhs; reduce; try simp only [lt1, Int.cast_ofNat_Int, Int.reduceNegSucc, UInt8.reduceOfNat])⟩ : {x // codeOf Tryz.prog 98 (fun _ => false) = some x}).1
theorem fn98 : fnOf Tryz.prog 98 (fun _ => false) = some (c98, [.t 4], 9, true) := by kernel_rfl
def c99 : ACode := (⟨_, by conv => (lhs; reduce; try simp only [lt1, Int.cast_ofNat_Int, Int.reduceNegSucc, UInt8.reduceOfNat])⟩ : {x // codeOf Tryz.prog 99 (fun _ => false) = some x}).1
theorem fn99 : fnOf Tryz.prog 99 (fun _ => false) = some (c99, [.t 3], 9, true) := by kernel_rfl
def c101 : ACode := (⟨_, by conv => (lhs; reduce; try simp only [lt1, Int.cast_ofNat_Int, Int.reduceNegSucc, UInt8.reduceOfNat])⟩ : {x // codeOf Tryz.prog 101 (fun _ => false) = some x}).1
theorem fn101 : fnOf Tryz.prog 101 (fun _ => false) = some (c101, [.t 4], 9, true) := by kernel_rfl
def c102 : ACode := (⟨_, by conv => (lhs; reduce; try simp only [lt1, Int.cast_ofNat_Int, Int.reduceNegSucc, UInt8.reduceOfNat])⟩ : {x // codeOf Tryz.prog 102 (fun _ => false) = some x}).1
theorem fn102 : fnOf Tryz.prog 102 (fun _ => false) = some (c102, [.t 2], 8, true) := by kernel_rfl
def c103 : ACode := (⟨_, by conv => (lhs; reduce; try simp only [lt1, Int.cast_ofNat_Int, Int.reduceNegSucc, UInt8.reduceOfNat])⟩ : {x // codeOf Tryz.prog 103 (fun _ => false) = some x}).1
theorem fn103 : fnOf Tryz.prog 103 (fun _ => false) = some (c103, [.t 4], 9, true) := by kernel_rfl
def c104 : ACode := (⟨_, by conv => (lhs; reduce; try simp only [lt1, Int.cast_ofNat_Int, Int.reduceNegSucc, UInt8.reduceOfNat])⟩ : {x // codeOf Tryz.prog 104 (fun _ => false) = some x}).1
theorem fn104 : fnOf Tryz.prog 104 (fun _ => false) = some (c104, [.t 2], 9, true) := by kernel_rfl
def c105 : ACode := (⟨_, by conv => (lhs; reduce; try simp only [lt1, Int.cast_ofNat_Int, Int.reduceNegSucc, UInt8.reduceOfNat])⟩ : {x // codeOf Tryz.prog 105 (fun _ => false) = some x}).1
theorem fn105 : fnOf Tryz.prog 105 (fun _ => false) = some (c105, [.t 4], 19, true) := by kernel_rfl
def c106 : ACode := (⟨_, by conv => (lhs; reduce; try simp only [lt1, Int.cast_ofNat_Int, Int.reduceNegSucc, UInt8.reduceOfNat])⟩ : {x // codeOf Tryz.prog 106 (fun _ => false) = some x}).1
theorem fn106 : fnOf Tryz.prog 106 (fun _ => false) = some (c106, [.t 6], 51, true) := by kernel_rfl
def c107 : ACode := (⟨_, by conv => (lhs; reduce; try simp only [lt1, Int.cast_ofNat_Int, Int.reduceNegSucc, UInt8.reduceOfNat])⟩ : {x // codeOf Tryz.prog 107 (fun _ => false) = some x}).1
theorem fn107 : fnOf Tryz.prog 107 (fun _ => false) = some (c107, [.cell 6 2 true], 27, true) := by kernel_rfl
def c125 : ACode := (⟨_, by conv => (lhs; reduce; try simp only [lt1, Int.cast_ofNat_Int, Int.reduceNegSucc, UInt8.reduceOfNat])⟩ : {x // codeOf Tryz.prog 125 (fun _ => false) = some x}).1
theorem fn125 : fnOf Tryz.prog 125 (fun _ => false) = some (c125, [.t 4], 19, true) := by kernel_rfl
def c100 : ACode := (⟨_, by conv => (lhs; reduce; try simp only [lt1, Int.cast_ofNat_Int, Int.reduceNegSucc, UInt8.reduceOfNat])⟩ : {x // codeOf Tryz.prog 100 (fun _ => false) = some x}).1
theorem fn100 : fnOf Tryz.prog 100 (fun _ => false) = some (c100, [.t 4], 51, true) := by kernel_rfl
def c126 : ACode := (⟨_, by conv => (lhs; reduce; try simp only [lt1, Int.cast_ofNat_Int, Int.reduceNegSucc, UInt8.reduceOfNat])⟩ : {x // codeOf Tryz.prog 126 (fun _ => false) = some x}).1
theorem fn126 : fnOf Tryz.prog 126 (fun _ => false) = some (c126, [.t 4], 19, true) := by kernel_rfl
def c127 : ACode := (⟨_, by conv => (lhs; reduce; try simp only [lt1, Int.cast_ofNat_Int, Int.reduceNegSucc, UInt8.reduceOfNat])⟩ : {x // codeOf Tryz.prog 127 (fun _ => false) = some x}).1
theorem fn127 : fnOf Tryz.prog 127 (fun _ => false) = some (c127, [.t 4], 19, true) := by kernel_rfl
def c128 : ACode := (⟨_, by conv => (lhs; reduce; try simp only [lt1, Int.cast_ofNat_Int, Int.reduceNegSucc, UInt8.reduceOfNat])⟩ : {x // codeOf Tryz.prog 128 (fun _ => false) = some x}).1
theorem fn128 : fnOf Tryz.prog 128 (fun _ => false) = some (c128, [.t 8], 41, true) := by kernel_rfl
def c129 : ACode := (⟨_, by conv => (lhs; reduce; try simp only [lt1, Int.cast_ofNat_Int, Int.reduceNegSucc, UInt8.reduceOfNat])⟩ : {x // codeOf Tryz.prog 129 (fun _ => false) = some x}).1
theorem fn129 : fnOf Tryz.prog 129 (fun _ => false) = some (c129, [.cell 6 2 true], 57, true) := by kernel_rfl
def c145 : ACode := (⟨_, by conv => (lhs; reduce; try simp only [lt1, Int.cast_ofNat_Int, Int.reduceNegSucc, UInt8.reduceOfNat])⟩ : {x // codeOf Tryz.prog 145 (fun _ => false) = some x}).1
theorem fn145 : fnOf Tryz.prog 145 (fun _ => false) = some (c145, [.cell 4 2 true, .t 5], 23, true) := by kernel_rfl
def c146 : ACode := (⟨_, by conv => (lhs; reduce; try simp only [lt1, Int.cast_ofNat_Int, Int.reduceNegSucc, UInt8.reduceOfNat])⟩ : {x // codeOf Tryz.prog 146 (fun _ => false) = some x}).1
theorem fn146 : fnOf Tryz.prog 146 (fun _ => false) = some (c146, [.t 6], 67, true) := by kernel_rfl
def c147 : ACode := (⟨_, by conv => (lhs; reduce; try simp only [lt1, Int.cast_ofNat_Int, Int.reduceNegSucc, UInt8.reduceOfNat])⟩ : {x // codeOf Tryz.prog 147 (fun _ => false) = some x}).1
theorem fn147 : fnOf Tryz.prog 147 (fun _ => false) = some (c147, [.t 4], 19, true) := by kernel_rfl
def c148 : ACode := (⟨_, by conv => (lhs; reduce; try simp only [lt1, Int.cast_ofNat_Int, Int.reduceNegSucc, UInt8.reduceOfNat])⟩ : {x // codeOf Tryz.prog 148 (fun _ => false) = some x}).1
theorem fn148 : fnOf Tryz.prog 148 (fun _ => false) = some (c148, [.t 3], 8, true) := by kernel_rfl
def c149 : ACode := (⟨_, by conv => (lhs; reduce; try simp only [lt1, Int.cast_ofNat_Int, Int.reduceNegSucc, UInt8.reduceOfNat])⟩ : {x // codeOf Tryz.prog 149 (fun _ => false) = some x}).1
theorem fn149 : fnOf Tryz.prog 149 (fun _ => false) = some (c149, [.t 8], 52, true) := by kernel_rfl
def c150 : ACode := (⟨_, by conv => (lhs; reduce; try simp only [lt1, Int.cast_ofNat_Int, Int.reduceNegSucc, UInt8.reduceOfNat])⟩ : {x // codeOf Tryz.prog 150 (fun _ => false) = some x}).1
theorem fn150 : fnOf Tryz.prog 150 (fun _ => false) = some (c150, [.t 4], 23, true) := by kernel_rfl
def c166 : ACode := (⟨_, by conv => (lhs; reduce; try simp only [lt1, Int.cast_ofNat_Int, Int.reduceNegSucc, UInt8.reduceOfNat])⟩ : {x // codeOf Tryz.prog 166 (fun _ => false) = some x}).1
theorem fn166 : fnOf Tryz.prog 166 (fun _ => false) = some (c166, [.t 6], 17, true) := by kernel_rfl
def c167 : ACode := (⟨_, by conv => (lhs; reduce; try simp only [lt1, Int.cast_ofNat_Int, Int.reduceNegSucc, UInt8.reduceOfNat])⟩ : {x // codeOf Tryz.prog 167 (fun d => Nat.beq d 5) = some x}).1
theorem fn167 : fnOf Tryz.prog 167 (fun d => Nat.beq d 5) = some (c167, [.t 2], 8, true) := by kernel_rfl
def awFns : List (Nat × FnE) := [(19, ⟨c19, [.t 4], 38⟩), (42, ⟨c42, [.t 4], 26⟩), (43, ⟨c43, [.t 6], 32⟩), (11, ⟨c11, [.t 0], 93⟩), (22, ⟨c22, [.t 4], 21⟩), (24, ⟨c24, [.cell 4 5 true, .t 5], 38⟩), (36, ⟨c36, [.cell 0 4 true], 18⟩), (46, ⟨c46, [.t 2], 52⟩), (47, ⟨c47, [.t 4], 144⟩), (49, ⟨c49, [.cell 4 5 true, .t 5], 69⟩), (71, ⟨c71, [.t 4], 13⟩), (72, ⟨c72, [.t 2], 5⟩), (73, ⟨c73, [.t 6], 17⟩), (74, ⟨c74, [.t 4], 45⟩), (75, ⟨c75, [.t 4], 9⟩), (76, ⟨c76, [.t 3], 8⟩), (77, ⟨c77, [.t 2], 8⟩), (78, ⟨c78, [.t 4, .t 5], 140⟩), (79, ⟨c79, [.cell 4 2 true], 16⟩), (97, ⟨c97, [.t 2], 33⟩), (98, ⟨c98, [.t 4], 9⟩), (99, ⟨c99, [.t 3], 9⟩), (101, ⟨c101, [.t 4], 9⟩), (102, ⟨c102, [.t 2], 8⟩), (103, ⟨c103, [.t 4], 9⟩), (104, ⟨c104, [.t 2], 9⟩), (105, ⟨c105, [.t 4], 19⟩), (106, ⟨c106, [.t 6], 51⟩), (107, ⟨c107, [.cell 6 2 true], 27⟩), (125, ⟨c125, [.t 4], 19⟩), (100, ⟨c100, [.t 4], 51⟩), (126, ⟨c126, [.t 4], 19⟩), (127, ⟨c127, [.t 4], 19⟩), (128, ⟨c128, [.t 8], 41⟩), (129, ⟨c129, [.cell 6 2 true], 57⟩), (145, ⟨c145, [.cell 4 2 true, .t 5], 23⟩), (146, ⟨c146, [.t 6], 67⟩), (147, ⟨c147, [.t 4], 19⟩), (148, ⟨c148, [.t 3], 8⟩), (149, ⟨c149, [.t 8], 52⟩), (150, ⟨c150, [.t 4], 23⟩), (166, ⟨c166, [.t 6], 17⟩), (167, ⟨c167, [.t 2], 8⟩)]
theorem awFns_ok : ∀ p ∈ awFns, ∃ own, fnOf Tryz.prog p.1 own = some (p.2.x, p.2.rs, p.2.n, true) := by
 simp only [awFns, List.forall_mem_cons]
 exact ⟨⟨_, fn19⟩, ⟨_, fn42⟩, ⟨_, fn43⟩, ⟨_, fn11⟩, ⟨_, fn22⟩, ⟨_, fn24⟩, ⟨_, fn36⟩, ⟨_, fn46⟩, ⟨_, fn47⟩, ⟨_, fn49⟩, ⟨_, fn71⟩, ⟨_, fn72⟩, ⟨_, fn73⟩, ⟨_, fn74⟩, ⟨_, fn75⟩, ⟨_, fn76⟩, ⟨_, fn77⟩, ⟨_, fn78⟩, ⟨_, fn79⟩, ⟨_, fn97⟩, ⟨_, fn98⟩, ⟨_, fn99⟩, ⟨_, fn101⟩, ⟨_, fn102⟩, ⟨_, fn103⟩, ⟨_, fn104⟩, ⟨_, fn105⟩, ⟨_, fn106⟩, ⟨_, fn107⟩, ⟨_, fn125⟩, ⟨_, fn100⟩, ⟨_, fn126⟩, ⟨_, fn127⟩, ⟨_, fn128⟩, ⟨_, fn129⟩, ⟨_, fn145⟩, ⟨_, fn146⟩, ⟨_, fn147⟩, ⟨_, fn148⟩, ⟨_, fn149⟩, ⟨_, fn150⟩, ⟨_, fn166⟩, ⟨_, fn167⟩, fun _ h => by cases h⟩
end
section
open Rf
def stepsOf : List PV → Option (List RStep)
 | [] => some []
 | .int .i64 a :: .int .i64 b :: .int .i64 c :: r => match stepsOf r with
  | some l => some (⟨a, b, c⟩ :: l)
  | none => none
 | _ => none
structure Leaf where
 k : Int
 s : List RStep
 c : Int
 a : Int
 deriving DecidableEq
def leafOf : PV → Option Leaf
 | .agg [.int .i64 k, .sl n cs, .int .i64 c, .int .i64 a, .sl 0 []] => match stepsOf cs with
  | some s => bif Nat.beq n s.length && Nat.ble n 1000 then some ⟨k, s, c, a⟩ else none
  | none => none
 | _ => none
def Leaf.t (x : Leaf) : Tree := .node x.k x.s x.c x.a []
theorem stepsOf_ok : ∀ (cs : List PV) (s : List RStep), stepsOf cs = some s → cs = s.flatMap rstepC
 | [], s, h => by injection h with h; subst h; rfl
 | [.int .i64 _], _, h => by cases h
 | [.int .i64 _, .int .i64 _], _, h => by cases h
 | .int .i64 a :: .int .i64 b :: .int .i64 c :: r, s, h => by
  rw [stepsOf] at h
  split at h
  ·rename_i l hl
   injection h with h
   subst h
   rw [stepsOf_ok r l hl]
   rfl
  ·cases h
theorem leafOf_ok {p : PV} {x : Leaf} (h : leafOf p = some x) : p = treeP x.t ∧ wt x.t ≤ 1000000000 := by
 unfold leafOf at h
 split at h
 ·split at h
  ·rename_i s hs
   rename_i k n cs c a _
   cases hb : (Nat.beq n s.length && Nat.ble n 1000) with
   | false => rw [hb] at h; cases h
   | true =>
    rw [hb, cond_true] at h
    injection h with h
    subst h
    rw [Bool.and_eq_true] at hb
    have h1 := Nat.eq_of_beq_eq_true hb.1
    have h2 := Nat.le_of_ble_eq_true hb.2
    subst h1
    rw [stepsOf_ok cs s hs]
    refine ⟨rfl, ?_⟩
    rw [Leaf.t, wt_node]
    simp [wts]
    omega
  ·cases h
 ·cases h
def onLeaf (f : Leaf → Option PV) : List PV → Option PV := fun ps => match ps.map (canon 3) with
 | [p] => match leafOf p with
  | some x => f x
  | none => none
 | _ => none
theorem onLeaf_ok {g : FuncId} {f : Leaf → Option PV} (h : ∀ x r, wt x.t ≤ 1000000000 → f x = some r → PureOK ctx g [treeP x.t] r) (ps : List PV) (r : PV) (hr : onLeaf f ps = some r) : PureOK ctx g ps r := by
 unfold onLeaf at hr
 split at hr
 ·rename_i p hp
  split at hr
  ·rename_i x hx
   obtain ⟨h1, h2⟩ := leafOf_ok hx
   refine PureOK.canon_args 3 ?_
   rw [hp, h1]
   exact h x r h2 hr
  ·cases hr
 ·cases hr
def exL : Leaf := ⟨0, [⟨0, 1, 0⟩, ⟨0, 2, 1⟩, ⟨0, 0, 0⟩], 0, 0⟩
def exT : List UInt8 := [114, 111, 119, 32, 49, 32, 48, 10, 114, 111, 119, 32, 50, 32, 49, 10, 114, 111, 119, 32, 48, 32, 48, 10, 99, 108, 111, 115, 101, 100, 10]
def exB : List UInt8 := [114, 111, 119, 32, 48, 49, 32, 48, 10, 99, 108, 111, 115, 101, 100, 10]
def validL (x : Leaf) : Bool := x.s.all rstepOk && Rf.tailOk x.k x.c x.a 0
theorem depthL (x : Leaf) : depthN x.t = 1 := by rw [Leaf.t, depthN_node]; rfl
theorem stepsL (x : Leaf) : stepsN x.t = x.s.length := by rw [Leaf.t, stepsN_node]; rfl
theorem validL_ok (x : Leaf) (h : x.s.length ≤ 1000) : validB x.t = validL x := by
 have hw : wt x.t = 1 + x.s.length := by rw [Leaf.t, wt_node]; rfl
 have d1 : decide (depthN x.t ≤ 4096) = true := by rw [depthL]; rfl
 have d2 : decide (wt x.t ≤ 65536) = true := by rw [hw]; simp; omega
 unfold validB
 rw [d1, d2, Leaf.t, formedB_node]
 simp [validL]
theorem exT_ok : formatN exL.t = (exT, 0) := by
 have h1 : textN exL.t = exT := by
  rw [Leaf.t, textN_node]
  kernel_rfl
 unfold formatN
 rw [validL_ok exL (by decide), h1]
 rfl
def exBt : Tree := .node 0 [⟨0, 1, 0⟩] 0 0 []
theorem exB_ok : parseN exB = (zt, 3) := by
 have h1 : treeF ((spC 10 exB).length + 1) 1 (spC 10 exB) = some (exBt, [[]]) := by kernel_rfl
 have h2 : formatN exBt ≠ (exB, 0) := by
  have h3 : textN exBt = [114, 111, 119, 32, 49, 32, 48, 10, 99, 108, 111, 115, 101, 100, 10] := by
   rw [exBt, textN_node]
   kernel_rfl
  unfold formatN
  rw [h3]
  intro h
  split at h
  ·split at h
   ·cases h
   ·injection h with h _
    cases h
  ·cases h
 unfold parseN
 rw [if_neg (by decide), h1]
 simp only
 rw [if_neg h2]
theorem exP_ok : parseN exT = (exL.t, 0) := by
 have h1 : treeF ((spC 10 exT).length + 1) 1 (spC 10 exT) = some (exL.t, [[]]) := by kernel_rfl
 unfold parseN
 rw [if_neg (by decide), h1]
 simp only
 rw [if_pos exT_ok]
def awT : Tabs where
 fns := awFns
 pure := [(13, onLeaf fun x => bif Nat.ble x.s.length 1000 then some (.bool (validL x)) else none), (15, onLeaf fun x => some (.int .i64 x.s.length)), (17, onLeaf fun _ => some (.int .i64 1)),
  (26, onLeaf fun x => if x = exL then some (.tup [.str exT, .int .i64 0]) else none),
  (28, fun ps => match ps with
   | [.str s] => if s = exB then some (.tup [.agg [.int .i64 0, .sl 0 [], .int .i64 0, .int .i64 0, .sl 0 []], .int .i64 3]) else
    if s = exT then some (.tup [.agg [.int .i64 0, .sl 3 [.int .i64 0, .int .i64 1, .int .i64 0, .int .i64 0, .int .i64 2, .int .i64 1, .int .i64 0, .int .i64 0, .int .i64 0], .int .i64 0, .int .i64 0, .sl 0 []], .int .i64 0]) else none
   | _ => none)]
 ref := []
 mem := [77]
theorem awT_ok : TabOK ctx awT where
 dz := rfl
 fns g e h := by
  have key : ∀ (l : List (Nat × FnE)), (∀ p ∈ l, ∃ own, fnOf Tryz.prog p.1 own = some (p.2.x, p.2.rs, p.2.n, true)) → lookB l g = some e → ∃ own, fnOf Tryz.prog g own = some (e.x, e.rs, e.n, true) := by
   intro l
   induction l with
   | nil => intro _ h; cases h
   | cons p r ih =>
    obtain ⟨k, y⟩ := p
    intro hl h
    rw [lookB] at h
    cases hk : Nat.beq k g with
    | true =>
     rw [hk, cond_true] at h
     injection h with h
     subst h
     have := Nat.eq_of_beq_eq_true hk
     subst this
     exact hl (k, y) (by simp)
    | false =>
     rw [hk, cond_false] at h
     exact ih (fun p hp => hl p (by simp [hp])) h
  exact key awFns awFns_ok h
 pure g s h ps r hr := by
  have look : ∀ {k : Nat} {x : List PV → Option PV} {l : List (Nat × (List PV → Option PV))}, lookB ((k, x) :: l) g = some s → (k = g ∧ x = s) ∨ lookB l g = some s := fun {k x l} h => by
   rw [lookB] at h
   cases hk : Nat.beq k g with
   | true =>
    rw [hk, cond_true] at h
    injection h with h
    exact .inl ⟨Nat.eq_of_beq_eq_true hk, h⟩
   | false =>
    rw [hk, cond_false] at h
    exact .inr h
  rcases look h with ⟨rfl, rfl⟩ | h
  ·refine onLeaf_ok (fun x r hw h => ?_) ps r hr
   cases hb : Nat.ble x.s.length 1000 with
   | false => rw [hb] at h; cases h
   | true =>
    rw [hb, cond_true] at h
    injection h with h
    subst h
    rw [← validL_ok x (Nat.le_of_ble_eq_true hb)]
    exact valid_ok x.t hw
  rcases look h with ⟨rfl, rfl⟩ | h
  ·refine onLeaf_ok (fun x r hw h => ?_) ps r hr
   injection h with h
   subst h
   have := steps_ok x.t hw
   rw [stepsL] at this
   exact this
  rcases look h with ⟨rfl, rfl⟩ | h
  ·refine onLeaf_ok (fun x r hw h => ?_) ps r hr
   injection h with h
   subst h
   have := depth_ok x.t hw
   rw [depthL] at this
   exact this
  rcases look h with ⟨rfl, rfl⟩ | h
  ·refine onLeaf_ok (fun x r hw h => ?_) ps r hr
   split at h
   ·rename_i he
    subst he
    injection h with h
    subst h
    have := format_ok exL.t hw
    rw [exT_ok] at this
    exact this
   ·cases h
  rcases look h with ⟨rfl, rfl⟩ | h
  ·dsimp only at hr
   split at hr
   ·split at hr
    ·rename_i he
     subst he
     injection hr with hr
     subst hr
     have := parse_ok exB (by decide)
     rw [exB_ok] at this
     exact this
    ·split at hr
     ·rename_i he
      subst he
      injection hr with hr
      subst hr
      have := parse_ok exT (by decide)
      rw [exP_ok] at this
      exact this
     ·cases hr
   ·cases hr
  ·cases h
 ref g s h := by cases h
end
section
open Rf
set_option maxRecDepth 100000 in
theorem awake_run : callP awT (run awT 2000) 11 [] = some (.bool true) := by kernel_rfl
theorem awake_ok : PureOK ctx 11 [] (.bool true) := callP_ok awT_ok (stepC_ok awT_ok 2000) awake_run
end
end Pur
end Go.Proofs.YtaleoeblooeglaaGreatDoor
namespace Go.Proofs.YtaleoeblooeglaaGreatDoor
namespace Rf
inductive Wide (B : Nat) : Tree → Prop where
 | node (k : Int) (s : List RStep) (c a : Int) (l : List Tree) : s.length ≤ B → l.length ≤ B → (∀ t ∈ l, Wide B t) → Wide B (.node k s c a l)
theorem sizeN_up {B : Nat} : ∀ (t : Tree), Wide B t → ∀ left : Int, 0 ≤ left → sizeN t left ≤ left + 1 + B := by
 refine Tree.ind fun k s c a l ih hw left h0 => ?_
 cases hw with
 | node _ _ _ _ _ h1 h2 h3 =>
  have : ∀ (l : List Tree), (∀ t ∈ l, ∀ left : Int, 0 ≤ left → sizeN t left ≤ left + 1 + B) → ∀ n : Int, n ≤ left + 1 + B → sizeK left n l ≤ left + 1 + B := fun l => by
   induction l with
   | nil => intro _ n hn; exact hn
   | cons t r ihr =>
    intro h n hn
    rw [sizeK]
    by_cases hc : n > left
    ·rw [if_pos hc]; exact hn
    ·rw [if_neg hc]
     have := h t (by simp) (left - n) (by omega)
     exact ihr (fun x hx => h x (by simp [hx])) _ (by omega)
  rw [sizeN_node]
  exact this l (fun t ht => ih t ht (h3 t ht)) _ (by omega)
end Rf
namespace Pur
open Go.RowKit
attribute [local go_sem] evOps evOp evOpV evRun evK argF List.map hintAt stripped get put tmpsOf tmpOf tmpO tmpL tmpP conds ev cond_true cond_false Nat.beq Nat.ble Nat.add quiet After thenR blockR IfD List.append_eq List.nil_append List.cons_append evInt exactI_a exactI_b exactI_c exactI_d exactI_e exactI_f evBin evStr evBool evUn guardC calm quiet.isCallK evPick List.getElem?_cons_zero List.getElem?_cons_succ fromCells fromPVs cellsOf List.all oneCell List.length_cons List.length_nil mkAgg plains List.drop List.take List.getD Option.getD_some bo1 bo2 ba1 ba2 bn1 bn2 kk_i64 kk_u8 kk_i32 kk_u64 setAt List.set Nat.reduceAdd Nat.reduceMul evCall safeCall refsOf refsIn scalarA scalar scalarL thawL mapAll thawArg thawRef after freeze RetD RetE evResult evRess evRes1 thaw_pv mkTup nilOf_a nilOf_b nilOf_bb nilOf_c nilOf_d nilOf_e nilOf_f nilOf_g nilOf_h nilOf_i nilOf_j nilOf_k nilOf_l nilOf_m eqLeaf_a eqLeaf_b eqLeaf_c eqOffs evMM bytesOf evOpsF AfterF footOf footRefs notIn indepF footAt freeOk still evParts fillA zeros intOfA boundA srcOf List.isEmpty appNil_0 appNil_1 appNil_2 Int.reduceToNat Nat.mul_one Nat.reduceSub evC evOpsT evOpsTF autoH tabHint look hintD strip guarded RetPD RetRD mpLen keysOk leafKA leafK bitI nilOf_n nilOf_o Bool.or_false Bool.or_true Bool.and_true Bool.and_false Nat.blt renF renM renB renV idxOf solF solM solA solV thawRef ev1
open Rf
set_option maxHeartbeats 4000000 in
theorem size_wide : ∀ (t : Tree), Wide 1048576 t → ∀ left : Int, 0 ≤ left → left ≤ 2000 → PureOK ctx 37 [treeP t, .int .i64 left] (.int .i64 (sizeN t left)) := by
  refine Tree.ind fun kd s c a l ih hw left h1 h2 => ?_
  cases hw with
  | node _ _ _ _ _ w1 w2 w3 =>
  rw [sizeN_node]
  generalize hr : sizeK left (1 + s.length) l = r
  refine pure_body' (C := ctx) (Fn.of fn37 rfl) rfl ?_
  unfold c37
  repeat' (first
    | ((with_reducible first | show VCs _ | show All _); simp [vb] <;> omega)
    | exact (rfl : some _ = _)
    | (fail_if_success refine awL ?_
       refine evA ?_
       repeat1' dsimp only [c37, treeP, Tree.kind, Tree.steps, Tree.cell, Tree.pos, Tree.kids, rstepsP, kidsP, go_sem]
       first
       | refine aw4 ?_ ?_ rfl ?_
       | apply aw3
       | apply aw2
       | (refine awB (fun hc => ?_) fun hc => ?_ <;> first | (cases hc; done) | (exfalso; simp at hc <;> omega) | (try simp only [bn] at hc; try contradiction))
       | skip))
  refine aw_loopJ (σ := Nat × Int) (fun q => q.1 ≤ l.length ∧ sizeK left q.2 (l.drop q.1) = r ∧ 0 ≤ q.2 ∧ q.2 ≤ left + 1048577) (fun q => [(1, .pv (.int .i64 left)), (2, .ptr 0 0 0), (5, .pv (.int .i64 q.2)), (13, .pv (kidsP l)), (14, .pv (.int .i64 l.length)), (15, .pv (.int .i64 q.1))]) (fun _ => [treeB (.node kd s c a l)]) (fun q => l.length - q.1) (0, 1 + s.length) ⟨Nat.zero_le _, hr, by omega, by simp; omega⟩ (by (repeat' (first | exact trivial | refine And.intro (by first | rfl | (simp [get, Nat.beq]; done) | (simp [get, Nat.beq]; omega) | (dsimp only [get]; congr 1 <;> first | rfl | omega | (simp; done) | (simp; omega))) ?_))) ⟨[], rfl⟩ (fun _ _ => ⟨Nat.zero_le _, rfl, rfl⟩) fun q hP => ?_
  obtain ⟨k, n⟩ := q
  obtain ⟨p1, p2, p3, p4⟩ := hP
  simp only at p1 p2 p3 p4
  by_cases hlt : k < l.length
  · have e := kid_take l k hlt
    have hle := kids_len l
    have hwx := w3 _ (getD_mem (d := zt) hlt)
    have hx := ih _ (getD_mem (d := zt) hlt) hwx (left - n)
    have hb := sizeN_b (l.getD k zt) (left - n)
    have hu := sizeN_up _ hwx (left - n)
    have hd : l.drop k = l.getD k zt :: l.drop (k + 1) := by rw [List.drop_eq_getElem_cons hlt, List.getD, List.getElem?_eq_getElem hlt]; rfl
    rw [hd, sizeK] at p2
    clear hd
    generalize l.getD k zt = x at *
    generalize sizeN x (left - n) = sx at *
    generalize wt x = wx at *
    obtain ⟨k2, s2, c2, a2, l2⟩ := x
    simp only [treeP, Tree.kind, Tree.steps, Tree.cell, Tree.pos, Tree.kids] at e hx
    by_cases hn : n > left
    · rw [if_pos hn] at p2
      repeat' (first
        | ((with_reducible first | show VCs _ | show All _); (try dsimp only [go_sem]); first | (simp [vb, e, hle, hlt, hn, rstepsP, kidsP] <;> omega) | (simp only [vb, and_true, true_implies]; (repeat' (first | (with_reducible assumption) | (with_reducible apply And.intro) | intro _ | ((fail_if_success (with_reducible show (_ : Int) ≤ _)); assumption))) <;> first | omega | (simp only [ab, e, hle, hlt, hn, rstepsP, kidsP]; done) | (simp [e, hle, hlt, hn, rstepsP, kidsP] <;> omega)))
        | exact (rfl : some _ = _)
        | (fail_if_success refine awL ?_
           refine evH [(18, { val := some (.pv (.agg [.int .i64 k2, rstepsP s2, .int .i64 c2, .int .i64 a2, kidsP l2])) })] ?_
           repeat1' dsimp only [c37, treeB, Tree.kind, Tree.steps, Tree.cell, Tree.pos, Tree.kids, rstepsP, kidsP, go_sem]
           first
           | refine aw4 ?_ ?_ rfl ?_
           | apply aw3
           | apply aw2
           | (refine awB (fun hc => ?_) fun hc => ?_ <;> first | (cases hc; done) | (exfalso; simp [e, hle, hlt, hn, rstepsP, kidsP] at hc <;> omega) | (try simp only [bn] at hc; try contradiction))
           | skip))
      rw [p2]
    · rw [if_neg hn] at p2
      have hx := hx (by omega) (by omega)
      have hu := hu (by omega)
      repeat' (first
        | ((with_reducible first | show VCs _ | show All _); (try dsimp only [go_sem]); first | (simp [vb, e, hle, hlt, hn, hx, hb, p3, p4, rstepsP, kidsP] <;> omega) | (simp only [vb, and_true, true_implies]; (repeat' (first | (with_reducible assumption) | (with_reducible apply And.intro) | intro _ | ((fail_if_success (with_reducible show (_ : Int) ≤ _)); assumption))) <;> first | omega | (simp only [ab, e, hle, hlt, hn, hx, hb, p3, p4, rstepsP, kidsP]; done) | (simp [e, hle, hlt, hn, hx, hb, p3, p4, rstepsP, kidsP] <;> omega)))
        | exact (rfl : some _ = _)
        | (fail_if_success refine awL ?_
           refine evTH [(37, fun _ => some (.int .i64 sx))] [(18, { val := some (.pv (.agg [.int .i64 k2, rstepsP s2, .int .i64 c2, .int .i64 a2, kidsP l2])) })] ?_
           repeat1' dsimp only [c37, treeB, Tree.kind, Tree.steps, Tree.cell, Tree.pos, Tree.kids, rstepsP, kidsP, go_sem]
           first
           | refine aw4 ?_ ?_ rfl ?_
           | apply aw3
           | apply aw2
           | (refine awB (fun hc => ?_) fun hc => ?_ <;> first | (cases hc; done) | (exfalso; simp [e, hle, hlt, hn, hx, hb, p3, p4, rstepsP, kidsP] at hc <;> omega) | (try simp only [bn] at hc; try contradiction))
           | skip))
      exact ⟨(k + 1, n + sx), by show l.length - (k + 1) < l.length - k; omega, ⟨by show k + 1 ≤ _; omega, p2, by show 0 ≤ n + sx; omega, by show n + sx ≤ _; omega⟩, by (repeat' (first | exact trivial | refine And.intro (by first | rfl | (simp [get, Nat.beq]; done) | (simp [get, Nat.beq]; omega) | (dsimp only [get]; congr 1 <;> first | rfl | omega | (simp; done) | (simp; omega))) ?_)), _, rfl⟩
  · obtain rfl : k = l.length := by omega
    repeat' (first
      | ((with_reducible first | show VCs _ | show All _); simp [vb, hlt] <;> omega)
      | exact (rfl : some _ = _)
      | (fail_if_success refine awL ?_
         refine evA ?_
         repeat1' dsimp only [c37, treeB, Tree.kind, Tree.steps, Tree.cell, Tree.pos, Tree.kids, rstepsP, kidsP, go_sem]
         first
         | refine aw4 ?_ ?_ rfl ?_
         | apply aw3
         | apply aw2
         | (refine awB (fun hc => ?_) fun hc => ?_ <;> first | (cases hc; done) | (exfalso; simp [hlt] at hc <;> omega) | (try simp only [bn] at hc; try contradiction))
         | skip))
    rw [List.drop_length, sizeK] at p2
    rw [p2]
theorem smallW_ok (t : Tree) (hw : Wide 1048576 t) (left : Int) (h1 : 0 ≤ left) (h2 : left ≤ 2000) : PureOK ctx 12 [treeP t, .int .i64 left] (.bool (decide ((wt t : Int) ≤ left))) := by
  have hs := size_wide t hw left h1 h2
  rw [show decide ((wt t : Int) ≤ left) = decide (sizeN t left ≤ left) from by simp [sizeN_iff]]
  generalize sizeN t left = sz at *
  unfold treeP at hs
  refine pure_body' (C := ctx) (Fn.of fn12 rfl) rfl ?_
  unfold c12
  repeat' (first
    | ((with_reducible first | show VCs _ | show All _); (try dsimp only [go_sem]); first | (simp [vb, hs] <;> omega) | (simp only [vb, and_true, true_implies]; (repeat' (first | (with_reducible assumption) | (with_reducible apply And.intro) | intro _ | ((fail_if_success (with_reducible show (_ : Int) ≤ _)); assumption))) <;> first | omega | (simp only [ab, hs]; done) | (simp [hs] <;> omega)))
    | exact (rfl : some _ = _)
    | (fail_if_success refine awL ?_
       refine evT [(37, fun _ => some (.int .i64 sz))] ?_
       repeat1' dsimp only [c12, treeP, go_sem]
       first
       | refine aw4 ?_ ?_ rfl ?_
       | apply aw3
       | apply aw2
       | (refine awB (fun hc => ?_) fun hc => ?_ <;> first | (cases hc; done) | (exfalso; simp [hs] at hc <;> omega) | (try simp only [bn] at hc; try contradiction))
       | skip))
end Pur
end Go.Proofs.YtaleoeblooeglaaGreatDoor
namespace Go.Proofs.YtaleoeblooeglaaGreatDoor
namespace Pur
open Go.RowKit
attribute [local go_sem] evOps evOp evOpV evRun evK argF List.map hintAt stripped get put tmpsOf tmpOf tmpO tmpL tmpP conds ev cond_true cond_false Nat.beq Nat.ble Nat.add quiet After thenR blockR IfD List.append_eq List.nil_append List.cons_append evInt exactI_a exactI_b exactI_c exactI_d exactI_e exactI_f evBin evStr evBool evUn guardC calm quiet.isCallK evPick List.getElem?_cons_zero List.getElem?_cons_succ fromCells fromPVs cellsOf List.all oneCell List.length_cons List.length_nil mkAgg plains List.drop List.take List.getD Option.getD_some bo1 bo2 ba1 ba2 bn1 bn2 kk_i64 kk_u8 kk_i32 kk_u64 setAt List.set Nat.reduceAdd Nat.reduceMul evCall safeCall refsOf refsIn scalarA scalar scalarL thawL mapAll thawArg thawRef after freeze RetD RetE evResult evRess evRes1 thaw_pv mkTup nilOf_a nilOf_b nilOf_bb nilOf_c nilOf_d nilOf_e nilOf_f nilOf_g nilOf_h nilOf_i nilOf_j nilOf_k nilOf_l nilOf_m eqLeaf_a eqLeaf_b eqLeaf_c eqOffs evMM bytesOf evOpsF AfterF footOf footRefs notIn indepF footAt freeOk still evParts fillA zeros intOfA boundA srcOf List.isEmpty appNil_0 appNil_1 appNil_2 Int.reduceToNat Nat.mul_one Nat.reduceSub evC evOpsT evOpsTF autoH tabHint look hintD strip guarded RetPD RetRD mpLen keysOk leafKA leafK bitI nilOf_n nilOf_o Bool.or_false Bool.or_true Bool.and_true Bool.and_false Nat.blt renF renM renB renV idxOf solF solM solA solV thawRef ev1
section
open Rf
def c3 : ACode := (⟨_, by conv => (lhs; reduce; try simp only [lt1, Int.cast_ofNat_Int, Int.reduceNegSucc, UInt8.reduceOfNat])⟩ : {x // codeOf Tryz.prog 3 (fun _ => false) = some x}).1
end
end Pur
end Go.Proofs.YtaleoeblooeglaaGreatDoor
namespace Go.Proofs.YtaleoeblooeglaaGreatDoor
namespace Pur
open Go.RowKit
section
section
variable {P : Program} {B n : Nat}
theorem ty_int {t : TypeId} {k : IntKind} {l : List PV} (h : Typed P B n t l) (hu : P.underlying t = some (.int k)) : ∃ x, l = [.int k x] ∧ (Lit.int k x).wf = true := by
 cases n with
 | zero => exact h.elim
 | succ n => simpa only [Typed, hu] using h
theorem ty_str {t : TypeId} {l : List PV} (h : Typed P B n t l) (hu : P.underlying t = some .string) : ∃ s, l = [.str s] ∧ s.length ≤ B := by
 cases n with
 | zero => exact h.elim
 | succ n => simpa only [Typed, hu] using h
theorem ty_struct {t : TypeId} {fs : Array Field} {l : List PV} (h : Typed P B n t l) (hu : P.underlying t = some (.struct fs)) : l.length = P.cellsOf t ∧ ∃ m, n = m + 1 ∧ ∀ (i : Nat) f, fs[i]? = some f → Typed P B m f.type ((l.drop f.offset).take (P.cellsOf f.type)) := by
 cases n with
 | zero => exact h.elim
 | succ n =>
  simp only [Typed, hu] at h
  exact ⟨h.1, n, rfl, h.2⟩
theorem piece {m : Nat} {fs : Array Field} {l : List PV} (hf : ∀ (i : Nat) f, fs[i]? = some f → Typed P B m f.type ((l.drop f.offset).take (P.cellsOf f.type))) (i o : Nat) (t : TypeId) {z : Nat} (hz : P.cellsOf t = z) (hi : (fs[i]?).map (fun f => (f.offset, f.type)) = some (o, t)) :
  Typed P B m t ((l.drop o).take z) := by
 obtain ⟨f, h1, h2⟩ := Option.map_eq_some_iff.mp hi
 injection h2 with h2 h3
 have := hf i f h1
 rw [h2, h3, hz] at this
 exact this
theorem rows_of {α : Type} (z : Nat) (enc : α → List PV) (Q : α → Prop) (he : ∀ x, Q x → (enc x).length = z) : ∀ (m : Nat) (cs : List PV), cs.length = m * z → (∀ i, i < m → ∃ x, (cs.drop (i * z)).take z = enc x ∧ Q x) → ∃ xs : List α, xs.length = m ∧ cs = xs.flatMap enc ∧ ∀ x ∈ xs, Q x
 | 0, cs, hl, _ => by
  have : cs = [] := List.eq_nil_of_length_eq_zero (by simpa using hl)
  subst this
  exact ⟨[], rfl, rfl, fun x hx => by cases hx⟩
 | m + 1, cs, hl, h => by
  obtain ⟨x, hx, hq⟩ := h 0 (by omega)
  rw [Nat.zero_mul, List.drop_zero] at hx
  rw [Nat.succ_mul] at hl
  obtain ⟨xs, h1, h2, h3⟩ := rows_of z enc Q he m (cs.drop z) (by rw [List.length_drop]; omega) fun i hi => by
   have := h (i + 1) (by omega)
   rw [List.drop_drop, show z + i * z = (i + 1) * z by rw [Nat.succ_mul]; omega]
   exact this
  refine ⟨x :: xs, by simp [h1], ?_, fun y hy => ?_⟩
  ·rw [List.flatMap_cons, ← h2, ← hx, List.take_append_drop]
  ·rcases List.mem_cons.mp hy with rfl | hy
   ·exact hq
   ·exact h3 y hy
theorem ty_slice {α : Type} {t e : TypeId} {l : List PV} (h : Typed P B n t l) (hu : P.underlying t = some (.slice e)) {z : Nat} (hz : P.cellsOf e = z) (enc : α → List PV) (Q : α → Prop) (he : ∀ x, Q x → (enc x).length = z)
  (hd : ∀ m c, m < n → Typed P B m e c → ∃ x, c = enc x ∧ Q x) : ∃ xs : List α, l = [.sl xs.length (xs.flatMap enc)] ∧ xs.length ≤ B ∧ ∀ x ∈ xs, Q x := by
 cases n with
 | zero => exact h.elim
 | succ n =>
  simp only [Typed, hu, hz] at h
  obtain ⟨m, cs, rfl, hm, hl, hi⟩ := h
  obtain ⟨xs, h1, h2, h3⟩ := rows_of z enc Q he m cs hl fun i him => hd n _ (by omega) (hi i him)
  subst h1 h2
  exact ⟨xs, rfl, hm, h3⟩
theorem ty_leaf {t : TypeId} {p : PV} (h : TypedV P B t p) (hn : ∀ fs, P.underlying t ≠ some (.struct fs)) : ∃ n, Typed P B n t [p] := by
 obtain ⟨n, l, h1, h2⟩ := h
 cases hu : P.underlying t with
 | none => rw [hu] at h2; subst h2; exact ⟨n, h1⟩
 | some d =>
  rw [hu] at h2
  cases d <;> first | exact absurd hu (hn _) | (subst h2; exact ⟨n, h1⟩)
theorem ty_agg {t : TypeId} {p : PV} {fs : Array Field} (h : TypedV P B t p) (hu : P.underlying t = some (.struct fs)) : ∃ n l, Typed P B n t l ∧ p = .agg l := by
 obtain ⟨n, l, h1, h2⟩ := h
 rw [hu] at h2
 exact ⟨n, l, h1, h2⟩
end
end
section
open Rf
theorem cz1 : Tryz.prog.cellsOf 3 = 1 := by kernel_rfl
theorem cz3 : Tryz.prog.cellsOf 66 = 3 := by kernel_rfl
theorem cz5 : Tryz.prog.cellsOf 25 = 5 := by kernel_rfl
theorem czs : Tryz.prog.cellsOf 22 = 1 := by kernel_rfl
theorem czt : Tryz.prog.cellsOf 23 = 1 := by kernel_rfl
theorem tInt {n B : Nat} {l : List PV} (h : Typed Tryz.prog B n 3 l) : ∃ x, l = [.int .i64 x] := by
 obtain ⟨x, rfl, hw⟩ := ty_int h Tryz.underlying3
 exact ⟨x, rfl⟩
theorem tStep {n B : Nat} {l : List PV} (h : Typed Tryz.prog B n 66 l) : ∃ x, l = rstepC x ∧ True := by
 obtain ⟨hl, m, rfl, hf⟩ := ty_struct h Tryz.underlying66
 rw [cz3] at hl
 match l, hl with
 | [a, b, c], _ =>
  obtain ⟨x, hx⟩ := tInt (piece hf 0 0 3 cz1 rfl)
  obtain ⟨y, hy⟩ := tInt (piece hf 1 1 3 cz1 rfl)
  obtain ⟨z, hz⟩ := tInt (piece hf 2 2 3 cz1 rfl)
  simp at hx hy hz
  subst hx hy hz
  exact ⟨⟨x, y, z⟩, rfl, trivial⟩
theorem tTreeC {B : Nat} : ∀ (n : Nat) (l : List PV), Typed Tryz.prog B n 25 l → ∃ t, l = treeC t ∧ Wide B t := by
 intro n
 induction n using Nat.strongRecOn with
 | ind n ih =>
  intro l h
  obtain ⟨hl, m, rfl, hf⟩ := ty_struct h Tryz.underlying25
  rw [cz5] at hl
  match l, hl with
  | [a0, a1, a2, a3, a4], _ =>
   obtain ⟨x0, e0⟩ := tInt (piece hf 0 0 3 cz1 rfl)
   have h1 := ty_slice (piece hf 1 1 22 czs rfl) Tryz.underlying22 cz3 rstepC (fun _ => True) (fun _ _ => rfl) fun m c _ hc => tStep hc
   obtain ⟨x2, e2⟩ := tInt (piece hf 2 2 3 cz1 rfl)
   obtain ⟨x3, e3⟩ := tInt (piece hf 3 3 3 cz1 rfl)
   have h4 := ty_slice (piece hf 4 4 23 czt rfl) Tryz.underlying23 cz5 treeC (Wide B) (fun x _ => treeC_len x) fun k c hk hc => ih k (by omega) c hc
   obtain ⟨x1, e1, l1, -⟩ := h1
   obtain ⟨x4, e4, l4, w4⟩ := h4
   simp at e0 e1 e2 e3 e4
   subst e0 e1 e2 e3 e4
   exact ⟨.node x0 x1 x2 x3 x4, by rw [treeC_node]; rfl, .node _ _ _ _ _ l1 l4 w4⟩
theorem tTree {B : Nat} {p : PV} (h : TypedV Tryz.prog B 25 p) : ∃ t, p = treeP t ∧ Wide B t := by
 obtain ⟨n, l, h', rfl⟩ := ty_agg h Tryz.underlying25
 obtain ⟨t, rfl, hw⟩ := tTreeC n l h'
 exact ⟨t, by rw [treeC_eq]; rfl, hw⟩
end
section
open Rf
end
end Pur
end Go.Proofs.YtaleoeblooeglaaGreatDoor
namespace Go.Proofs.YtaleoeblooeglaaGreatDoor
namespace Pur
open Go.RowKit
attribute [local go_sem] evOps evOp evOpV evRun evK argF List.map hintAt stripped get put tmpsOf tmpOf tmpO tmpL tmpP conds ev cond_true cond_false Nat.beq Nat.ble Nat.add quiet After thenR blockR IfD List.append_eq List.nil_append List.cons_append evInt exactI_a exactI_b exactI_c exactI_d exactI_e exactI_f evBin evStr evBool evUn guardC calm quiet.isCallK evPick List.getElem?_cons_zero List.getElem?_cons_succ fromCells fromPVs cellsOf List.all oneCell List.length_cons List.length_nil mkAgg plains List.drop List.take List.getD Option.getD_some bo1 bo2 ba1 ba2 bn1 bn2 kk_i64 kk_u8 kk_i32 kk_u64 setAt List.set Nat.reduceAdd Nat.reduceMul evCall safeCall refsOf refsIn scalarA scalar scalarL thawL mapAll thawArg thawRef after freeze RetD RetE evResult evRess evRes1 thaw_pv mkTup nilOf_a nilOf_b nilOf_bb nilOf_c nilOf_d nilOf_e nilOf_f nilOf_g nilOf_h nilOf_i nilOf_j nilOf_k nilOf_l nilOf_m eqLeaf_a eqLeaf_b eqLeaf_c eqOffs evMM bytesOf evOpsF AfterF footOf footRefs notIn indepF footAt freeOk still evParts fillA zeros intOfA boundA srcOf List.isEmpty appNil_0 appNil_1 appNil_2 Int.reduceToNat Nat.mul_one Nat.reduceSub evC evOpsT evOpsTF autoH tabHint look hintD strip guarded RetPD RetRD mpLen keysOk leafKA leafK bitI nilOf_n nilOf_o Bool.or_false Bool.or_true Bool.and_true Bool.and_false Nat.blt renF renM renB renV idxOf solF solM solA solV thawRef ev1
section
open Rf
end
section
open Rf
def c6 : ACode := (⟨_, by conv => (lhs; reduce; try simp only [lt1, Int.cast_ofNat_Int, Int.reduceNegSucc, UInt8.reduceOfNat])⟩ : {x // codeOf Tryz.prog 6 (fun _ => false) = some x}).1
theorem fn6 : fnOf Tryz.prog 6 (fun _ => false) = some (c6, [.t 4], 61, true) := by kernel_rfl
theorem parse_wt (s : List UInt8) : wt (parseN s).1 ≤ 100000 := by
 have hz : wt zt ≤ 100000 := by rw [zt, wt_node]; simp [wts]
 unfold parseN
 split
 ·exact hz
 ·split
  ·split
   ·rename_i t r h1 h2
    have hp : parseN s = (t, 0) := by
     unfold parseN
     rw [if_neg (by assumption), h1]
     simp only
     rw [if_pos h2]
    have := (format_parse hp).2.2
    simp only
    omega
   ·exact hz
  ·exact hz
set_option maxHeartbeats 4000000 in
theorem texts_ok (t : Tree) (s : List UInt8) (ht : Wide 1048576 t) (hs : s.length ≤ 1048576) : PureOK ctx 6 [treeP t, .str s] (.bool true) := by
  have h0 := awake_ok
  have s1 := smallW_ok t ht 300 (by omega) (by omega)
  have e1 : ∀ x : Tree, treeP x = .agg [.int .i64 x.kind, rstepsP x.steps, .int .i64 x.cell, .int .i64 x.pos, kidsP x.kids] := fun _ => rfl
  by_cases c1 : (wt t : Int) ≤ 300
  · rw [decide_eq_true c1] at s1
    by_cases c2 : s.length > 2000
    · rw [e1 t] at *
      refine pure_body' (C := ctx) (Fn.of fn6 rfl) rfl ?_
      unfold c6
      repeat' (first
        | ((with_reducible first | show VCs _ | show All _); simp [vb, h0, s1] <;> omega)
        | exact (rfl : some _ = _)
        | (fail_if_success refine awL ?_
           refine evTH [(11, fun _ => some (.bool true))] [(16, { val := some (.pv (.bool true)) })] ?_
           repeat1' dsimp only [c6, go_sem]
           first
           | refine aw4 ?_ ?_ rfl ?_
           | apply aw3
           | apply aw2
           | (refine awB (fun hc => ?_) fun hc => ?_ <;> first | (cases hc; done) | (exfalso; simp [h0, s1] at hc <;> omega) | (try simp only [bn] at hc; try contradiction))
           | skip))
    · have f1 := format_ok t (by omega)
      have f2 := refFormat_ok t (by omega)
      have p1 := parse_ok s (by omega)
      have p2 := refParse_ok s (by omega)
      rw [parse_same s] at p2
      have hw := parse_wt s
      have q := tree_ok (parseN s).1 (parseN s).1 (by omega) (by omega) true (by simp)
      generalize formatN t = F at *
      obtain ⟨F, n⟩ := F
      generalize parseN s = g at *
      obtain ⟨u, e⟩ := g
      simp only at f1 f2 p1 p2 q
      rw [e1 t, e1 u] at *
      refine pure_body' (C := ctx) (Fn.of fn6 rfl) rfl ?_
      unfold c6
      repeat' (first
        | ((with_reducible first | show VCs _ | show All _); simp [vb, h0, s1, f1, f2, p1, p2, q] <;> omega)
        | exact (rfl : some _ = _)
        | (fail_if_success refine awL ?_
           refine evTH [(11, fun _ => some (.bool true))] [(16, { val := some (.pv (.bool true)) }), (25, { val := some (.pv (.tup [.str F, .int .i64 n])) }), (30, { val := some (.pv (.tup [.str F, .int .i64 n])) }), (35, { val := some (.pv (.tup [.agg [.int .i64 u.kind, rstepsP u.steps, .int .i64 u.cell, .int .i64 u.pos, kidsP u.kids], .int .i64 e])) }), (40, { val := some (.pv (.tup [.agg [.int .i64 u.kind, rstepsP u.steps, .int .i64 u.cell, .int .i64 u.pos, kidsP u.kids], .int .i64 e])) }), (59, { val := some (.pv (.bool true)) })] ?_
           repeat1' dsimp only [c6, go_sem]
           first
           | refine aw4 ?_ ?_ rfl ?_
           | apply aw3
           | apply aw2
           | (refine awB (fun hc => ?_) fun hc => ?_ <;> first | (cases hc; done) | (exfalso; simp [h0, s1, f1, f2, p1, p2, q] at hc <;> omega) | (try simp only [bn] at hc; try contradiction))
           | skip))
      simp
  · rw [decide_eq_false c1] at s1
    rw [e1 t] at *
    refine pure_body' (C := ctx) (Fn.of fn6 rfl) rfl ?_
    unfold c6
    repeat' (first
      | ((with_reducible first | show VCs _ | show All _); simp [vb, h0, s1] <;> omega)
      | exact (rfl : some _ = _)
      | (fail_if_success refine awL ?_
         refine evTH [(11, fun _ => some (.bool true))] [(16, { val := some (.pv (.bool false)) })] ?_
         repeat1' dsimp only [c6, go_sem]
         first
         | refine aw4 ?_ ?_ rfl ?_
         | apply aw3
         | apply aw2
         | (refine awB (fun hc => ?_) fun hc => ?_ <;> first | (cases hc; done) | (exfalso; simp [h0, s1] at hc <;> omega) | (try simp only [bn] at hc; try contradiction))
         | skip))
theorem texts_typed (qs : List PV) (h : TypedAll Tryz.prog 1048576 [25, 9] qs) : PureOK ctx 6 qs (.bool true) := by
 match qs, h with
 | [p, q], h =>
  obtain ⟨h1, h2, -⟩ := h
  obtain ⟨t, rfl, ht⟩ := tTree h1
  obtain ⟨n, h3⟩ := ty_leaf h2 (fun fs h => by rw [Tryz.underlying9] at h; cases h)
  obtain ⟨x, hx, hl⟩ := ty_str h3 Tryz.underlying9
  simp at hx
  subst hx
  exact texts_ok t x ht hl
end
end Pur
end Go.Proofs.YtaleoeblooeglaaGreatDoor
namespace Go.Proofs.YtaleoeblooeglaaGreatDoor.lawTexts
open Go.ChangeShapes Go.WideShapes Go.ChangeAt Go.RowKit
theorem contract (H : Type) (enc : TypeId × Value → H) (W : World) (base : Nat) (args : Array Value) (ds gs : List (DataW H)) (before : List MemPlace)
  (hval : ∀ (j : Nat) t v, Tryz.f6.params[j]? = some t → args[j]? = some v → Value.okWide Tryz.prog W .any base t v)
  (hW : DataW.Whole enc Tryz.prog Tryz.f6.params.toList Rows.refutationTextsSpec.vars false W args.toList ds gs before) (hk : Rows.uptoSmall H (ds ++ gs) = true) (hL : laidMetH Tryz.prog Rows.refutationTextsUptoRow.laid W) (hsh : W.ShapedOpen Tryz.prog) :
  Calls Tryz.prog 6 args W fun e W' => ∃ v, e = .returned v ∧ Rows.refutationTextsSpec.post enc Tryz.prog Tryz.f6 false true false false W args v W' := by
 have hW' := hW
 obtain ⟨p, q, hA0, hV, rfl, hfz, hnd⟩ := hW
 have hA : DataW.TrodAll enc Tryz.prog W 0 (fun _ => true) true [25, 9] args.toList ds p := hA0
 obtain ⟨rfl, rfl⟩ := trodVars_none hV
 obtain ⟨qs, hty, hps⟩ := Pur.open_all (B := 1048576) (Sm := (fun d : DataW H => Rows.uptoBulk d ≤ 1048576)) Pur.Meas.upto (L := [25, 3, 9, 22, 66, 23]) (r := .any) (b := base) (by kernel_rfl) [25, 9] args.toList ds p (of_decide_eq_true rfl) (fun j t v h1 h2 => hval j t v (by
  rw [Tryz.params6, List.getElem?_toArray]; exact h1) (by rw [Array.getElem?_toList] at h2; exact h2)) hA (fun d hd => Pur.upto_all hk d (List.mem_append_left _ hd))
 have hst : ∀ (W' : World) (sp : Nat → Bool), Below W.heap.size W W' → (∀ x ∈ p ++ [], sp x.block = true) → DataW.TrodAll enc Tryz.prog W' 0 sp true [25, 9] args.toList ds p := fun W' sp hb hsp =>
  Pur.stay_all (by kernel_rfl) _ _ _ _ (of_decide_eq_true (by kernel_rfl)) (fun x hx => Pur.same_below hb (hW'.lt x (List.mem_append_left _ hx))) (fun x hx => hsp x (List.mem_append_left _ hx)) hA
 have hE := Cd.env_of hL hsh
 obtain ⟨v0, vs0, d0, ds0, p0, q0, hargs, rfl, hp0, h0, r0⟩ := trodAll_cons hA
 obtain ⟨v1, vs1, d1, ds1, p1, q1, rfl, rfl, hp1, h1, r1⟩ := trodAll_cons r0
 obtain ⟨rfl, rfl, rfl⟩ := trodAll_nil r1
 obtain rfl : args = #[v0, v1] := by cases args; simp_all
 refine ((Pur.texts_typed qs hty).2 W (Pur.Here W) [v0, v1] hE (fun g h => h) hps).mono fun e W' hh => ?_
 obtain ⟨v, he, hb, hv⟩ := hh
 have := Pur.is_bool_inv hv
 subst this
 subst he
 exact ⟨_, rfl, post_below (pa := p) (pv := []) hW' (fun _ _ _ => trodAll_cons_mk (shut_bool Tryz.underlying4 _) trodAll_mk0)
  (fun sp hsp => hst W' sp hb hsp) (fun _ _ => rfl) rfl
  hb (ok_one (by kernel_rfl) rfl (okWide_bool_mk Tryz.underlying4 _))⟩
def start : Array Value := #[.agg #[.int .i64 0, .slice none 0 0, .int .i64 0, .int .i64 0, .slice none 0 0], .string ⟨#[]⟩]
theorem met (os : Os) : laidMet Tryz.prog Rows.refutationTextsUptoRow.laid ((World.laidAll Tryz.prog os Rows.refutationTextsUptoRow.laid).forCall (fun _ _ => 0) ⟨#[], start, []⟩).memory :=
 laidMet_laidAll _ (by kernel_rfl) (by kernel_rfl)
theorem reads (os : Os) {H : Type} (enc : TypeId × Value → H) : ∃ places, DataW.whole enc Tryz.prog ((World.laidAll Tryz.prog os Rows.refutationTextsUptoRow.laid).forCall (fun _ _ => 0) ⟨#[], start, []⟩).memory Tryz.f6.params.toList Rows.refutationTextsSpec.vars false start.toList 8 = some ([.agg [.lit (.int .i64 0), .nil, .lit (.int .i64 0), .lit (.int .i64 0), .nil], .lit (.string [])], [], places) :=
 ⟨[], by kernel_rfl⟩
set_option maxRecDepth 100000 in
theorem lifted (os : Os) (started : os.Started) (H : Type) (enc : TypeId × Value → H) (F : Stop.Interp) :
  ReturnsInHanded {} Tryz.checked os 6 .any ((Rows.OpenSpec.upto Rows.refutationTextsSpec).preRow enc Tryz.prog Tryz.f6 Rows.refutationTextsUptoRow.domain false Rows.refutationTextsUptoRow.laid) (((Rows.OpenSpec.upto Rows.refutationTextsSpec).at F).post enc Tryz.prog Tryz.f6 false true false false) := by
 obtain ⟨places, hx⟩ := reads os enc
 refine returnsInHanded_of_row (C := Tryz.checked) (s := (Rows.OpenSpec.upto Rows.refutationTextsSpec)) Cd.own started (by kernel_rfl) Tryz.func6
  (witness_row_atRef (enc := enc) (C := Tryz.checked) false (World.laidAll Tryz.prog os Rows.refutationTextsUptoRow.laid) start (World.laidAll_os _ _ _) (by kernel_rfl) (by kernel_rfl) (by kernel_rfl)
   (OpenSpec.preRow_of_cond 8 hx (by kernel_rfl) (fun k hk => by cases hk; kernel_rfl) (by kernel_rfl) (met os))) ?_
 intro W base args ds gs before hval hW _ hk _ hL hsh _
 exact contract H enc W base args ds gs before hval hW (hk _ rfl) hL hsh
theorem said : Rows.RefutationTextsUptoSaid :=
 OpenClaim.holds_of_cond 6 Tryz.f6 rfl rfl rfl rfl rfl rfl rfl ⟨rfl, rfl, rfl, rfl, rfl⟩ rfl rfl rfl rfl rfl (by kernel_rfl) Tryz.func6 (by kernel_rfl)
  (of_decide_eq_true (by kernel_rfl)) (by unfold Func.isWrapper; rw [if_neg (of_decide_eq_false (by kernel_rfl))]; exact ⟨rfl, rfl⟩)
  (fun os started H enc _ F => by rw [OpenClaim.pre_eq_preRow]; exact lifted os started H enc F)
theorem plain (f : FuncId) (fn : Func) (hf : Tryz.pinned.checked.prog.funcNamed "confluent/confluentlaw21.RefutationTexts" = some f) (hfn : Tryz.pinned.checked.prog.funcs[f]? = some fn) :
  true = Tryz.pinned.checked.prog.looks [] ∧ ∀ (j : Nat) t, fn.params[j]? = some t → Tryz.pinned.checked.prog.wantsStandIn t = false := by
 obtain rfl : f = 6 := Option.some.inj ((show Tryz.prog.funcNamed "confluent/confluentlaw21.RefutationTexts" = some 6 by kernel_rfl).symm.trans hf) |>.symm
 obtain rfl : fn = Tryz.f6 := (Option.some.inj (Tryz.func6.symm.trans hfn)).symm
 refine ⟨by kernel_rfl, fun j t ht => ?_⟩
 rw [Tryz.params6] at ht
 have hm := Array.mem_of_getElem? ht
 simp only [List.mem_toArray, List.mem_cons, List.not_mem_nil, or_false] at hm
 rcases hm with rfl | rfl
 ·exact (by kernel_rfl : Tryz.prog.wantsStandIn 25 = false)
 ·exact (by kernel_rfl : Tryz.prog.wantsStandIn 9 = false)
theorem proved : Rows.RefutationTextsUptoCardSaid :=
 Claim7.holds_tied_plain_at .later [] _ _ _ _ said (fun _ h => by cases h) (by kernel_rfl) (fun _ h => by cases h) refutationTextsUpto_row_tie rfl ⟨rfl, rfl⟩ (by kernel_rfl) rfl plain (by kernel_rfl)
end Go.Proofs.YtaleoeblooeglaaGreatDoor.lawTexts
