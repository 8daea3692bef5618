/-
  A part of the proof of the schedule package's laws. (PsO PtR PtE PtF PtG PtH PtI PtJ PtK PtL PtM PsAA CdSplits)
-/
import Derived.Test.YteokbngllldmdaaGreatDoorR04
set_option maxRecDepth 10000
set_option linter.unusedSimpArgs false
set_option linter.unusedVariables false
namespace Go.Proofs.YteokbngllldmdaaGreatDoor
namespace Pur
open Go.RowKit
attribute [local go_sem] evOps evOp evOpV evRun evK argF List.map hintAt stripped get put tmpsOf tmpOf tmpO tmpL tmpP conds ev cond_true cond_false Nat.beq Nat.ble Nat.add quiet After thenR blockR IfD List.append_eq List.nil_append List.cons_append evInt exactI_a exactI_b exactI_c exactI_d exactI_e exactI_f evBin evStr evBool evUn guardC calm quiet.isCallK evPick List.getElem?_cons_zero List.getElem?_cons_succ fromCells fromPVs cellsOf List.all oneCell List.length_cons List.length_nil mkAgg plains List.drop List.take List.getD Option.getD_some bo1 bo2 ba1 ba2 bn1 bn2 kk_i64 kk_u8 kk_i32 kk_u64 setAt List.set Nat.reduceAdd Nat.reduceMul evCall safeCall refsOf refsIn scalarA scalar scalarL thawL mapAll thawArg thawRef after freeze RetD RetE evResult evRess evRes1 thaw_pv mkTup nilOf_a nilOf_b nilOf_bb nilOf_c nilOf_d nilOf_e nilOf_f nilOf_g nilOf_h nilOf_i nilOf_j nilOf_k nilOf_l nilOf_m eqLeaf_a eqLeaf_b eqLeaf_c eqOffs evMM bytesOf evOpsF AfterF footOf footRefs notIn indepF footAt freeOk still evParts fillA zeros intOfA boundA srcOf List.isEmpty appNil_0 appNil_1 appNil_2 Int.reduceToNat Nat.mul_one Nat.reduceSub evC evOpsT evOpsTF autoH tabHint look hintD strip guarded RetPD RetRD mpLen keysOk leafKA leafK bitI nilOf_n nilOf_o Bool.or_false Bool.or_true Bool.and_true Bool.and_false Nat.blt renF renM renB renV idxOf solF solM solA solV thawRef ev1
section
open Sch
open Pl
def parseP (text : List UInt8) : Sched × Int × Int :=
 if 65536 < text.length then (zeroSched, 0, 8) else
 match parseGo (splitOn 10 text) 0 0 zeroSched with
 | .inl k => (zeroSched, k, 3)
 | .inr (next, s) => if next < 5 then (zeroSched, (if (splitOn 10 text).getD ((splitOn 10 text).length - 1) [] == [] then (splitOn 10 text).length else (splitOn 10 text).length + 1 : Nat), 3) else (s, 0, 0)
def okP (s : Sched) : PV := .tup [schedN s (intsP s.state), .int .i64 0, .int .i64 0]
def parseV (text : List UInt8) : PV :=
 if 65536 < text.length then .tup [.agg [.int .i64 0, .int .i64 0, .int .i64 0, .int .i64 0, .nilsl, .nilsl, .nilsl], .int .i64 0, .int .i64 8] else
 match parseGo (splitOn 10 text) 0 0 zeroSched with
 | .inl k => errP k
 | .inr (next, s) => if next < 5 then errP (if (splitOn 10 text).getD ((splitOn 10 text).length - 1) [] == [] then (splitOn 10 text).length else (splitOn 10 text).length + 1 : Nat) else okP s
theorem thaw_row2 {μ : AM} {d b g n sz : Nat} {e : TypeId} {fz : Bool} {ps : List PV} (hk : μ[b]? = some ⟨ps.map .pv, g, sz, e, fz⟩) (hz : Nat.beq sz 0 = false) (hl : ps.length = n * sz) : thaw μ (d + 2) (.ref b g 0 n) = some (.sl n ps) := by
 refine thaw_row hk hz rfl ?_ (by simp [hl])
 rw [List.drop_zero, List.take_of_length_le (by simp [hl])]
theorem thaw_fatesA {μ : AM} {d : Nat} {fs : List Fate} (h : ∀ k, (fatesB fs)[0]? = some k → μ[3]? = some k) : thaw μ (d + 2) (fatesA fs) = some (fatesN fs) := by
 cases fs with
 | nil => rfl
 | cons f r => exact thaw_row2 (h _ rfl) rfl (by rw [flatMap_length fateC_len]; simp)
theorem thaw_stepsA {μ : AM} {d b : Nat} {ss : List Step} (h : ∀ k, (stepsB ss)[0]? = some k → μ[b]? = some k) : thaw μ (d + 2) (stepsA b ss) = some (stepsN ss) := by
 cases ss with
 | nil => rfl
 | cons f r => exact thaw_row2 (h _ rfl) rfl (by rw [flatMap_length stepC_len]; simp)
theorem thaw_res (a b c d : Int) (st : PV) (fs : List Fate) (ss : List Step) (k0 k1 k2 : Blk) (x y : PV) :
  thaw (k0 :: k1 :: k2 :: (fatesB fs ++ stepsB ss)) depth (mkTup [mkAgg [.pv (.int .i64 a), .pv (.int .i64 b), .pv (.int .i64 c), .pv (.int .i64 d), .pv st, fatesA fs, stepsA (3 + (fatesB fs).length) ss], .pv x, .pv y]) =
   some (.tup [.agg [.int .i64 a, .int .i64 b, .int .i64 c, .int .i64 d, st, fatesN fs, stepsN ss], x, y]) := by
 have h1 : ∀ e, thaw (k0 :: k1 :: k2 :: (fatesB fs ++ stepsB ss)) (e + 2) (fatesA fs) = some (fatesN fs) := fun e => thaw_fatesA fun k hk => by
  have : (fatesB fs).length = 1 := by
   cases fs with
   | nil => simp [fatesB] at hk
   | cons => rfl
  simp only [List.getElem?_cons_succ]
  rw [List.getElem?_append_left (by omega)]
  exact hk
 have h2 : ∀ e, thaw (k0 :: k1 :: k2 :: (fatesB fs ++ stepsB ss)) (e + 2) (stepsA (3 + (fatesB fs).length) ss) = some (stepsN ss) := fun e => thaw_stepsA fun k hk => by
  have : 1 ≤ (stepsB ss).length := by
   cases ss with
   | nil => simp [stepsB] at hk
   | cons => simp [stepsB]
  simp only [Nat.add_comm 3, List.getElem?_cons_succ]
  rw [List.getElem?_append_right (Nat.le_refl _), Nat.sub_self]
  exact hk
 have h0 : ∀ e p, thaw (k0 :: k1 :: k2 :: (fatesB fs ++ stepsB ss)) (e + 1) (.pv p) = some p := fun _ _ => rfl
 have hA : ∀ e, thaw (k0 :: k1 :: k2 :: (fatesB fs ++ stepsB ss)) (e + 4) (.tup [.agg [.pv (.int .i64 a), .pv (.int .i64 b), .pv (.int .i64 c), .pv (.int .i64 d), .pv st, fatesA fs, stepsA (3 + (fatesB fs).length) ss], .pv x, .pv y]) = some (.tup [.agg [.int .i64 a, .int .i64 b, .int .i64 c, .int .i64 d, st, fatesN fs, stepsN ss], x, y]) := fun e => by
  simp only [thaw_tup, thaw_agg, mapAll, h0, h1, h2]
 cases fs with
 | nil =>
  cases ss with
  | nil => rfl
  | cons y yr => exact hA 4
 | cons f fr => exact hA 4
theorem getD_last {ls : List (List UInt8)} (h : ls ≠ []) : ls[ls.length - 1]? = some (ls.getD (ls.length - 1) []) := by
 have : 0 < ls.length := List.length_pos_iff.mpr h
 rw [List.getElem?_eq_getElem (by omega)]
 simp [List.getD, List.getElem?_eq_getElem (show ls.length - 1 < ls.length by omega)]
set_option maxHeartbeats 4000000 in
theorem parse_raw (text : List UInt8) (ht : text.length ≤ 4000000000) : PureOK ctx 8 [.str text] (parseV text) := by
 generalize hres : parseV text = res
 unfold parseV at hres
 refine pure_body' (C := ctx) (Fn.of fn8 rfl) rfl ?_
 unfold c8
 by_cases h : 65536 < text.length
 ·rw [if_pos h] at hres
  subst hres
  iterate 8 first
   | refine ⟨fun _ => ?_, fun h => by simp at h <;> omega⟩
   | refine ⟨by simp [vb] <;> omega, by simp [vb] <;> omega, ?_⟩
   | (refine evA ?_; iterate 2 (try dsimp only [go_sem]))
  refine evA ?_
  dsimp only [go_sem]
  exact ⟨(by first | exact True.intro | (simp only [vb, lb]; omega) | (simp [vb] <;> omega)), rfl⟩
 ·rw [if_neg h] at hres
  have hS := split_ok text 10 ht
  have hne := splitOn_ne 10 text
  have hlen := splitOn_len 10 text
  have hmem := splitOn_mem 10 text
  generalize hls : splitOn 10 text = ls at *
  iterate 11 first
   | refine ⟨fun h => by simp at h <;> omega, fun _ => ?_⟩
   | refine ⟨by simp [vb, eqKey] <;> omega, by simp [vb, eqKey] <;> omega, ?_⟩
   | (refine evA ?_; iterate 2 (try dsimp only [mpHas, go_sem]))
  refine evT [(20, fun _ => some (wordsP ls))] ?_
  dsimp only [go_sem]
  try dsimp only [go_sem]
  refine ⟨(by simp [vb, hS] <;> omega), (by simp [vb, hS] <;> omega), ?_⟩
  refine aw_seq ?_
  refine evA ?_
  dsimp only [wordsP, go_sem]
  try dsimp only [wordsP, go_sem]
  refine ⟨(by simp [vb] <;> omega), (by simp [vb] <;> omega), ?_⟩
  refine aw_block ?_
  refine aw_frame [(2, .ptr 0 0 0), (5, .ptr 1 0 0), (6, .map 2 0), (7, .pv (wordsP ls)), (26, .pv (wordsP ls)), (27, .pv (.int .i64 ls.length)), (28, .pv (.int .i64 0))] ⟨rfl, rfl, rfl, rfl, rfl, rfl, rfl, trivial⟩ ?_
  refine parse_loop _ _ _ ls (by omega) (fun l hl => by have := hmem l hl; omega) (fun k hk f μ hret => ?_) fun next s hk hP f hf => ?_
  ·rw [hk] at hres
   subst hres
   exact hret
  ·rw [hk] at hres
   refine aw_frame _ hf ?_
   simp only at hres
   have hlst := getD_last hne
   generalize hlast : ls.getD (ls.length - 1) [] = last at *
   have hpos : 0 < ls.length := List.length_pos_iff.mpr hne
   by_cases h5 : next < 5
   ·rw [if_pos h5] at hres
    subst hres
    obtain ⟨e1, e2, e3⟩ := hP.e1 h5
    obtain ⟨a, b, c, d, e, fs, ss⟩ := s
    simp only at e1 e2 e3
    subst e1 e2 e3
    have hst : ∀ x, stOf next x = .nilsl := fun x => by simp [stOf, h5]
    rw [hst]
    have hn5 : decide ((next : Int) < 5) = true := by simp; omega
    refine evA ?_
    dsimp only [rdM, readerB, go_sem]
    try dsimp only [rdM, readerB, go_sem]
    refine ⟨(by simp [vb] <;> omega), (by simp [vb] <;> omega), ?_⟩
    rw [hn5]
    refine evH [(78, { val := some (.pv (.str last)) })] ?_
    dsimp only [wordsP, go_sem]
    refine ⟨fun _ => ?_, fun h => by simp at h <;> omega⟩
    refine evH [(78, { val := some (.pv (.str last)) })] ?_
    dsimp only [wordsP, go_sem]
    try dsimp only [wordsP, go_sem]
    refine ⟨(by simp [vb] <;> omega), ?_, ?_⟩
    ·simp [All, VCs, hlst]
    cases hq : last == [] with
    | true =>
     refine evA ?_
     dsimp only [wordsP, resB, go_sem]
     refine ⟨fun _ => ?_, fun h => by simp at h <;> omega⟩
     refine evA ?_
     dsimp only [wordsP, resB, go_sem]
     try dsimp only [wordsP, resB, go_sem]
     refine ⟨(by simp [vb] <;> omega), (by simp [vb] <;> omega), ?_⟩
     refine evA ?_
     dsimp only [go_sem]
     exact ⟨(by first | exact True.intro | (simp only [vb, lb]; omega) | (simp [vb] <;> omega)), rfl⟩
    | false =>
     iterate 5 first
      | refine ⟨fun h => by simp at h <;> omega, fun _ => ?_⟩
      | refine ⟨by simp [vb] <;> omega, by simp [vb] <;> omega, ?_⟩
      | (refine evA ?_; iterate 2 (try dsimp only [wordsP, resB, go_sem]))
     refine evA ?_
     dsimp only [go_sem]
     exact ⟨(by first | exact True.intro | (simp only [vb, lb]; omega) | (simp [vb] <;> omega)), rfl⟩
   ·rw [if_neg h5] at hres
    subst hres
    have : next = 5 := by have := hP.n5; omega
    subst this
    obtain ⟨a, b, c, d, e, fs, ss⟩ := s
    have hst : stOf 5 ⟨a, b, c, d, e, fs, ss⟩ = intsP e := rfl
    rw [hst]
    cases fs with
    | nil =>
     cases ss with
     | nil =>
      iterate 7 first
       | refine ⟨fun h => by simp at h <;> omega, fun _ => ?_⟩
       | refine ⟨by simp [vb] <;> omega, by simp [vb] <;> omega, ?_⟩
       | (refine evA ?_; iterate 2 (try dsimp only [rdM, readerB, resB, fatesA_nil, fatesB_nil, stepsA_nil, stepsB_nil, go_sem]))
      refine evA ?_
      dsimp only [go_sem]
      exact ⟨(by first | exact True.intro | (simp only [vb, lb]; omega) | (simp [vb] <;> omega)), rfl⟩
     | cons y yr =>
      iterate 7 first
       | refine ⟨fun h => by simp at h <;> omega, fun _ => ?_⟩
       | refine ⟨by simp [vb] <;> omega, by simp [vb] <;> omega, ?_⟩
       | (refine evA ?_; iterate 2 (try dsimp only [rdM, readerB, resB, fatesA_nil, fatesB_nil, stepsA_cons, stepsB_cons, go_sem]))
      refine evA ?_
      dsimp only [go_sem]
      exact ⟨(by first | exact True.intro | (simp only [vb, lb]; omega) | (simp [vb] <;> omega)), thaw_res a b c d (intsP e) [] (y :: yr) _ _ _ _ _⟩
    | cons f0 fr =>
     cases ss with
     | nil =>
      iterate 7 first
       | refine ⟨fun h => by simp at h <;> omega, fun _ => ?_⟩
       | refine ⟨by simp [vb] <;> omega, by simp [vb] <;> omega, ?_⟩
       | (refine evA ?_; iterate 2 (try dsimp only [rdM, readerB, resB, fatesA_cons, fatesB_cons, stepsA_nil, stepsB_nil, go_sem]))
      refine evA ?_
      dsimp only [go_sem]
      exact ⟨(by first | exact True.intro | (simp only [vb, lb]; omega) | (simp [vb] <;> omega)), thaw_res a b c d (intsP e) (f0 :: fr) [] _ _ _ _ _⟩
     | cons y yr =>
      iterate 7 first
       | refine ⟨fun h => by simp at h <;> omega, fun _ => ?_⟩
       | refine ⟨by simp [vb] <;> omega, by simp [vb] <;> omega, ?_⟩
       | (refine evA ?_; iterate 2 (try dsimp only [rdM, readerB, resB, fatesA_cons, fatesB_cons, stepsA_cons, stepsB_cons, go_sem]))
      refine evA ?_
      dsimp only [go_sem]
      exact ⟨(by first | exact True.intro | (simp only [vb, lb]; omega) | (simp [vb] <;> omega)), thaw_res a b c d (intsP e) (f0 :: fr) (y :: yr) _ _ _ _ _⟩
theorem parse_ok (text : List UInt8) (ht : text.length ≤ 4000000000) : PureOK ctx 8 [.str text] (.tup [schedP (parseP text).1, .int .i64 (parseP text).2.1, .int .i64 (parseP text).2.2]) := by
 have h := (parse_raw text ht).canon_res 4
 have hz : ∀ x y : Int, canon 4 (.tup [.agg [.int .i64 0, .int .i64 0, .int .i64 0, .int .i64 0, .nilsl, .nilsl, .nilsl], .int .i64 x, .int .i64 y]) = .tup [schedP zeroSched, .int .i64 x, .int .i64 y] := fun _ _ => rfl
 have ho : ∀ s, canon 4 (okP s) = .tup [schedP s, .int .i64 0, .int .i64 0] := fun s => by
  have : canon 4 (okP s) = .tup [canon 3 (schedN s (intsP s.state)), .int .i64 0, .int .i64 0] := rfl
  rw [this, canon_sched]
 unfold parseV errP at h
 unfold parseP
 split at h
 ·rename_i h1
  rw [if_pos h1]
  rw [hz] at h
  exact h
 ·rename_i h1
  rw [if_neg h1]
  split at h
  ·rename_i k hk
   rw [hz] at h
   exact h
  ·rename_i next s hk
   split at h
   ·rename_i h5
    rw [hz] at h
    simp only [h5, if_true]
    exact h
   ·rename_i h5
    rw [ho] at h
    simp only [h5, if_false]
    exact h
end
section
open Sch
def c7r0 : List AOp := [
 ⟨(some 0), .mv (.c (.bool false)), none⟩]
def c7r1 : List AOp := [
 ⟨(some 6), .call 8 [(.c (.str [114, 101, 112, 108, 105, 99, 97, 115, 32, 50, 10, 115, 101, 115, 115, 105, 111, 110, 115, 32, 49, 10, 115, 101, 99, 116, 111, 114, 115, 32, 54, 52, 10, 116, 105, 99, 107, 115, 32, 50, 48, 10, 115, 116, 97, 116, 101, 32, 48, 32, 51, 10, 102, 97, 116, 101, 32, 50, 10, 102, 97, 116, 101, 32, 100, 114, 111, 112, 10, 102, 97, 116, 101, 32, 49, 32, 52, 10, 97, 116, 32, 48, 32, 115, 117, 98, 109, 105, 116, 32, 48, 32, 48, 32, 53, 10, 97, 116, 32, 51, 32, 99, 117, 116, 32, 48, 32, 49, 10, 97, 116, 32, 51, 32, 114, 101, 97, 100, 32, 49, 32, 48, 32, 118, 97, 108, 117, 101, 32, 49, 32, 109, 101, 114, 103, 101, 100, 32, 48, 10, 97, 116, 32, 55, 32, 99, 114, 97, 115, 104, 32, 49, 32, 48, 32, 54, 52, 32, 49, 48, 10]))], none⟩,
 ⟨(some 5), .mv (.t 6), none⟩,
 ⟨(some 7), .extract (.t 5) 0, none⟩,
 ⟨(some 8), .extract (.t 5) 1, none⟩,
 ⟨(some 9), .extract (.t 5) 2, none⟩,
 ⟨(some 1), .alloc 27 [(.int .i64 0), (.int .i64 0), (.int .i64 0), (.int .i64 0), .nilsl, .nilsl, .nilsl], none⟩,
 ⟨none, .store (.t 1) (.t 7) 7, none⟩,
 ⟨(some 2), .mv (.t 8), none⟩,
 ⟨(some 3), .mv (.t 9), none⟩]
def c7r2 : List AOp := [
 ⟨(some 10), .mv (.t 3), none⟩,
 ⟨(some 11), .bin .neq (.t 10) (.c (.int .i64 0)), none⟩,
 ⟨(some 12), .mv (.t 11), none⟩,
 ⟨(some 13), .mv (.t 2), some (12, false)⟩,
 ⟨(some 14), .bin .neq (.t 13) (.c (.int .i64 0)), some (12, false)⟩,
 ⟨(some 15), .pick (.t 12) (.c (.bool true)) (.t 14), none⟩,
 ⟨(some 16), .mv (.t 15), none⟩,
 ⟨(some 17), .load (.t 1) 7 true, some (16, false)⟩,
 ⟨(some 18), .call 12 [(.t 17)], some (16, false)⟩,
 ⟨(some 19), .un .not (.t 18), some (16, false)⟩,
 ⟨(some 20), .pick (.t 16) (.c (.bool true)) (.t 19), none⟩,
 ⟨(some 21), .mv (.t 20), none⟩,
 ⟨(some 22), .fieldAddr (.t 1) 0, some (21, false)⟩,
 ⟨(some 23), .load (.t 22) 1 false, some (21, false)⟩,
 ⟨(some 24), .bin .neq (.t 23) (.c (.int .i64 2)), some (21, false)⟩,
 ⟨(some 25), .pick (.t 21) (.c (.bool true)) (.t 24), none⟩,
 ⟨(some 26), .mv (.t 25), none⟩,
 ⟨(some 27), .fieldAddr (.t 1) 3, some (26, false)⟩,
 ⟨(some 28), .load (.t 27) 1 false, some (26, false)⟩,
 ⟨(some 29), .bin .neq (.t 28) (.c (.int .i64 20)), some (26, false)⟩,
 ⟨(some 30), .pick (.t 26) (.c (.bool true)) (.t 29), none⟩,
 ⟨(some 31), .mv (.t 30), none⟩,
 ⟨(some 32), .fieldAddr (.t 1) 5, some (31, false)⟩,
 ⟨(some 33), .load (.t 32) 1 false, some (31, false)⟩,
 ⟨(some 34), .len (.t 33), some (31, false)⟩,
 ⟨(some 35), .bin .neq (.t 34) (.c (.int .i64 3)), some (31, false)⟩,
 ⟨(some 36), .pick (.t 31) (.c (.bool true)) (.t 35), none⟩,
 ⟨(some 37), .mv (.t 36), none⟩,
 ⟨(some 38), .fieldAddr (.t 1) 5, some (37, false)⟩,
 ⟨(some 39), .load (.t 38) 1 false, some (37, false)⟩,
 ⟨(some 40), .indexSl (.t 39) (.c (.int .i64 1)) 3, some (37, false)⟩,
 ⟨(some 41), .fieldAddr (.t 40) 0, some (37, false)⟩,
 ⟨(some 42), .load (.t 41) 1 false, some (37, false)⟩,
 ⟨(some 43), .un .not (.t 42), some (37, false)⟩,
 ⟨(some 44), .pick (.t 37) (.c (.bool true)) (.t 43), none⟩,
 ⟨(some 45), .mv (.t 44), none⟩,
 ⟨(some 46), .fieldAddr (.t 1) 6, some (45, false)⟩,
 ⟨(some 47), .load (.t 46) 1 false, some (45, false)⟩,
 ⟨(some 48), .len (.t 47), some (45, false)⟩,
 ⟨(some 49), .bin .neq (.t 48) (.c (.int .i64 4)), some (45, false)⟩,
 ⟨(some 50), .pick (.t 45) (.c (.bool true)) (.t 49), none⟩,
 ⟨(some 51), .mv (.t 50), none⟩,
 ⟨(some 52), .fieldAddr (.t 1) 6, some (51, false)⟩,
 ⟨(some 53), .load (.t 52) 1 false, some (51, false)⟩,
 ⟨(some 54), .indexSl (.t 53) (.c (.int .i64 2)) 10, some (51, false)⟩,
 ⟨(some 55), .fieldAddr (.t 54) 7, some (51, false)⟩,
 ⟨(some 56), .load (.t 55) 1 false, some (51, false)⟩,
 ⟨(some 57), .indexSl (.t 56) (.c (.int .i64 1)) 2, some (51, false)⟩,
 ⟨(some 58), .load (.t 57) 2 true, some (51, false)⟩,
 ⟨(some 59), .build [(.int .i64 0), (.int .i64 0)] [(0, 1, (.c (.int .i64 2)))], some (51, false)⟩,
 ⟨(some 60), .eqA true [(0, 0), (1, 0)] (.t 58) (.t 59), some (51, false)⟩,
 ⟨(some 61), .pick (.t 51) (.c (.bool true)) (.t 60), none⟩]
def c7r3 : List AOp := [
 ⟨(some 0), .mv (.c (.bool false)), none⟩]
def c7r4 : List AOp := [
 ⟨(some 63), .load (.t 1) 7 true, none⟩,
 ⟨(some 64), .call 13 [(.t 63)], none⟩,
 ⟨(some 62), .mv (.t 64), none⟩,
 ⟨(some 65), .extract (.t 62) 0, none⟩,
 ⟨(some 66), .extract (.t 62) 1, none⟩,
 ⟨(some 4), .mv (.t 65), none⟩,
 ⟨(some 3), .mv (.t 66), none⟩]
def c7r5 : List AOp := [
 ⟨(some 67), .mv (.t 3), none⟩,
 ⟨(some 68), .bin .eql (.t 67) (.c (.int .i64 0)), none⟩,
 ⟨(some 69), .mv (.t 68), none⟩,
 ⟨(some 70), .mv (.t 4), some (69, true)⟩,
 ⟨(some 71), .bin .eql (.t 70) (.c (.str [114, 101, 112, 108, 105, 99, 97, 115, 32, 50, 10, 115, 101, 115, 115, 105, 111, 110, 115, 32, 49, 10, 115, 101, 99, 116, 111, 114, 115, 32, 54, 52, 10, 116, 105, 99, 107, 115, 32, 50, 48, 10, 115, 116, 97, 116, 101, 32, 48, 32, 51, 10, 102, 97, 116, 101, 32, 50, 10, 102, 97, 116, 101, 32, 100, 114, 111, 112, 10, 102, 97, 116, 101, 32, 49, 32, 52, 10, 97, 116, 32, 48, 32, 115, 117, 98, 109, 105, 116, 32, 48, 32, 48, 32, 53, 10, 97, 116, 32, 51, 32, 99, 117, 116, 32, 48, 32, 49, 10, 97, 116, 32, 51, 32, 114, 101, 97, 100, 32, 49, 32, 48, 32, 118, 97, 108, 117, 101, 32, 49, 32, 109, 101, 114, 103, 101, 100, 32, 48, 10, 97, 116, 32, 55, 32, 99, 114, 97, 115, 104, 32, 49, 32, 48, 32, 54, 52, 32, 49, 48, 10])), some (69, true)⟩,
 ⟨(some 72), .pick (.t 69) (.t 71) (.c (.bool false)), none⟩,
 ⟨(some 73), .mv (.t 72), none⟩,
 ⟨(some 74), .load (.t 1) 7 true, some (73, true)⟩,
 ⟨(some 75), .call 15 [(.t 74), (.c (.int .i64 3))], some (73, true)⟩,
 ⟨(some 76), .len (.t 75), some (73, true)⟩,
 ⟨(some 77), .bin .eql (.t 76) (.c (.int .i64 2)), some (73, true)⟩,
 ⟨(some 78), .pick (.t 73) (.t 77) (.c (.bool false)), none⟩,
 ⟨(some 79), .mv (.t 78), none⟩,
 ⟨(some 80), .load (.t 1) 7 true, some (79, true)⟩,
 ⟨(some 81), .lit false 3 1 2 [(.int .i64 0)] [(0, 1, (.c (.int .i64 1))), (1, 1, (.c (.int .i64 2)))], some (79, true)⟩,
 ⟨(some 82), .call 16 [(.t 80), (.t 81)], some (79, true)⟩,
 ⟨(some 83), .field (.t 82) 6 1 false, some (79, true)⟩,
 ⟨(some 84), .len (.t 83), some (79, true)⟩,
 ⟨(some 85), .bin .eql (.t 84) (.c (.int .i64 2)), some (79, true)⟩,
 ⟨(some 86), .pick (.t 79) (.t 85) (.c (.bool false)), none⟩,
 ⟨(some 87), .mv (.t 86), none⟩,
 ⟨(some 88), .load (.t 1) 7 true, some (87, true)⟩,
 ⟨(some 89), .call 18 [(.t 88), (.c (.int .i64 3))], some (87, true)⟩,
 ⟨(some 90), .field (.t 89) 6 1 false, some (87, true)⟩,
 ⟨(some 91), .len (.t 90), some (87, true)⟩,
 ⟨(some 92), .bin .eql (.t 91) (.c (.int .i64 1)), some (87, true)⟩,
 ⟨(some 93), .pick (.t 87) (.t 92) (.c (.bool false)), none⟩,
 ⟨(some 94), .mv (.t 93), none⟩,
 ⟨(some 95), .load (.t 1) 7 true, some (94, true)⟩,
 ⟨(some 96), .load (.t 1) 7 true, some (94, true)⟩,
 ⟨(some 97), .call 17 [(.t 95), (.t 96)], some (94, true)⟩,
 ⟨(some 98), .pick (.t 94) (.t 97) (.c (.bool false)), none⟩,
 ⟨(some 99), .mv (.t 98), none⟩,
 ⟨(some 100), .load (.t 1) 7 true, some (99, true)⟩,
 ⟨(some 101), .load (.t 1) 7 true, some (99, true)⟩,
 ⟨(some 102), .call 18 [(.t 101), (.c (.int .i64 19))], some (99, true)⟩,
 ⟨(some 103), .call 17 [(.t 100), (.t 102)], some (99, true)⟩,
 ⟨(some 104), .un .not (.t 103), some (99, true)⟩,
 ⟨(some 105), .pick (.t 99) (.t 104) (.c (.bool false)), none⟩,
 ⟨(some 0), .mv (.t 105), none⟩]
def c7 : ACode := (.seq (.region false c7r0) (.seq (.region false c7r1) (.seq (.seq (.region false c7r2) (.cond (.t 61) (.seq (.region false c7r3) .ret) .skip)) (.seq (.region false c7r4) (.seq (.region true c7r5) .ret)))))
theorem fn7 : fnOf Tryz.prog 7 (fun _ => false) = some (c7, [.t 0], 106, true) := by kernel_rfl
def exText : List UInt8 := [114, 101, 112, 108, 105, 99, 97, 115, 32, 50, 10, 115, 101, 115, 115, 105, 111, 110, 115, 32, 49, 10, 115, 101, 99, 116, 111, 114, 115, 32, 54, 52, 10, 116, 105, 99, 107, 115, 32, 50, 48, 10, 115, 116, 97, 116, 101, 32, 48, 32, 51, 10, 102, 97, 116, 101, 32, 50, 10, 102, 97, 116, 101, 32, 100, 114, 111, 112, 10, 102, 97, 116, 101, 32, 49, 32, 52, 10, 97, 116, 32, 48, 32, 115, 117, 98, 109, 105, 116, 32, 48, 32, 48, 32, 53, 10, 97, 116, 32, 51, 32, 99, 117, 116, 32, 48, 32, 49, 10, 97, 116, 32, 51, 32, 114, 101, 97, 100, 32, 49, 32, 48, 32, 118, 97, 108, 117, 101, 32, 49, 32, 109, 101, 114, 103, 101, 100, 32, 48, 10, 97, 116, 32, 55, 32, 99, 114, 97, 115, 104, 32, 49, 32, 48, 32, 54, 52, 32, 49, 48, 10]
def exS : Sched := ⟨2, 1, 64, 20, [0, 3], [⟨false, 2, 0⟩, ⟨true, 0, 0⟩, ⟨false, 1, 4⟩],
 [⟨0, 0, 0, 0, 0, 5, 0, [], [], []⟩, ⟨3, 2, 0, 1, 0, 0, 0, [], [], []⟩, ⟨3, 1, 1, 0, 0, 0, 0, [(0, 1), (2, 0)], [], []⟩, ⟨7, 4, 1, 0, 0, 0, 0, [], [64, 10], []⟩]⟩
set_option maxRecDepth 100000 in
theorem ex_parse : parseP exText = (exS, 0, 0) := by kernel_rfl
set_option maxRecDepth 100000 in
theorem ex_valid : valid exS = true := by kernel_rfl
set_option maxRecDepth 100000 in
theorem ex_format : formatP exS = (exText, 0) := by kernel_rfl
theorem ex_small : Small exS := ⟨by decide, by decide, by decide, fun x hx => by
 simp only [exS, List.mem_cons, List.not_mem_nil, or_false] at hx
 rcases hx with rfl | rfl | rfl | rfl <;> exact ⟨by decide, by decide, by decide⟩⟩
theorem ex_sizes : ∀ k, Sizes (exS.steps.getD k zeroStep)
 | 0 => ⟨by decide, by decide, by decide⟩
 | 1 => ⟨by decide, by decide, by decide⟩
 | 2 => ⟨by decide, by decide, by decide⟩
 | 3 => ⟨by decide, by decide, by decide⟩
 | k + 4 => ⟨by simp [exS, zeroStep], by simp [exS, zeroStep], by simp [exS, zeroStep]⟩
def exV : PV := .agg [.int .i64 2, .int .i64 1, .int .i64 64, .int .i64 20, .sl 2 [.int .i64 0, .int .i64 3], .sl 3 [.bool false, .int .i64 2, .int .i64 0, .bool true, .int .i64 0, .int .i64 0, .bool false, .int .i64 1, .int .i64 4], .sl 4 [.int .i64 0, .int .i64 0, .int .i64 0, .int .i64 0, .int .i64 0, .int .i64 5, .int .i64 0, .sl 0 [], .sl 0 [], .sl 0 [], .int .i64 3, .int .i64 2, .int .i64 0, .int .i64 1, .int .i64 0, .int .i64 0, .int .i64 0, .sl 0 [], .sl 0 [], .sl 0 [], .int .i64 3, .int .i64 1, .int .i64 1, .int .i64 0, .int .i64 0, .int .i64 0, .int .i64 0, .sl 2 [.int .i64 0, .int .i64 1, .int .i64 2, .int .i64 0], .sl 0 [], .sl 0 [], .int .i64 7, .int .i64 4, .int .i64 1, .int .i64 0, .int .i64 0, .int .i64 0, .int .i64 0, .sl 0 [], .sl 2 [.int .i64 64, .int .i64 10], .sl 0 []]]
theorem exV_eq : schedP exS = exV := rfl
theorem ex_fits (s : Sched) (h : s = exS ∨ s = till exS 19) : Fits s := by
 rcases h with rfl | rfl
 ·exact ⟨by decide, by decide, by decide, ex_sizes⟩
 ·exact ⟨by decide, by decide, by decide, ex_sizes⟩
set_option maxRecDepth 100000 in
set_option maxHeartbeats 8000000 in
theorem awake_ok : PureOK ctx 7 [] (.bool true) := by
  have h6 := parse_ok exText (by decide)
  rw [ex_parse] at h6
  have h18 := Valid_ok exS (by decide) (by decide) (by decide) ex_sizes
  rw [ex_valid] at h18
  have h64 := format_ok exS (by decide) (by decide) (by decide) ex_sizes
  rw [ex_format] at h64
  have h75 := at_ok exS ex_small 3
  have e75 : stepsP (stepsAt exS 3) = .sl 2 ((stepsAt exS 3).flatMap stepC) := rfl
  rw [e75] at h75
  have h82 := without_ok exS ex_small [1, 2] (by decide)
  have e82 : schedP (without exS [1, 2]) = .agg [.int .i64 2, .int .i64 1, .int .i64 64, .int .i64 20, intsP [0, 3], fatesP exS.fates, .sl 2 ((without exS [1, 2]).steps.flatMap stepC)] := rfl
  rw [e82] at h82
  have h89 := until_ok exS ex_small 3
  have e89 : schedP (till exS 3) = .agg [.int .i64 2, .int .i64 1, .int .i64 64, .int .i64 3, intsP [0, 3], fatesP exS.fates, .sl 1 ((till exS 3).steps.flatMap stepC)] := rfl
  rw [e89] at h89
  have h97 := Equal_ok exS exS (ex_fits _ (.inl rfl)) (ex_fits _ (.inl rfl))
  rw [show sameSched exS exS = true from by kernel_rfl] at h97
  have h102 := until_ok exS ex_small 19
  have h103 := Equal_ok exS (till exS 19) (ex_fits _ (.inl rfl)) (ex_fits _ (.inr rfl))
  rw [show sameSched exS (till exS 19) = false from by kernel_rfl] at h103
  dsimp only at h6 h64
  rw [exV_eq] at h6 h18 h64 h75 h82 h89 h97 h102 h103
  generalize hW : schedP (till exS 19) = W at *
  clear e75 e82 e89 hW
  refine pure_body' (C := ctx) (Fn.of fn7 rfl) rfl ?_
  unfold c7
  repeat' (first
    | ((with_reducible first | show VCs _ | show All _); (try dsimp only [go_sem]); first | (simp [vb, h6, h18, h64, h75, h82, h89, h97, h102, h103] <;> omega) | (simp only [vb, and_true, true_implies]; (repeat' (first | (with_reducible assumption) | (with_reducible apply And.intro) | intro _ | ((fail_if_success (with_reducible show (_ : Int) ≤ _)); assumption))) <;> first | omega | (simp only [ab, h6, h18, h64, h75, h82, h89, h97, h102, h103]; done) | (simp [h6, h18, h64, h75, h82, h89, h97, h102, h103] <;> omega)))
    | exact (rfl : some _ = _)
    | (fail_if_success refine awL ?_
       refine evH [(6, { val := some (.pv (.tup [exV, .int .i64 0, .int .i64 0])) }), (18, { val := some (.pv (.bool true)) }), (64, { val := some (.pv (.tup [.str exText, .int .i64 0])) }), (75, { val := some (.pv (.sl 2 ((stepsAt exS 3).flatMap stepC))) }), (82, { val := some (.pv (.agg [.int .i64 2, .int .i64 1, .int .i64 64, .int .i64 20, intsP [0, 3], fatesP exS.fates, .sl 2 ((without exS [1, 2]).steps.flatMap stepC)])) }), (89, { val := some (.pv (.agg [.int .i64 2, .int .i64 1, .int .i64 64, .int .i64 3, intsP [0, 3], fatesP exS.fates, .sl 1 ((till exS 3).steps.flatMap stepC)])) }), (97, { val := some (.pv (.bool true)) }), (102, { val := some (.pv W) }), (103, { val := some (.pv (.bool false)) })] ?_
       repeat1' dsimp only [c7, c7r0, c7r1, c7r2, c7r3, c7r4, c7r5, exV, go_sem]
       first
       | refine aw4 ?_ ?_ rfl ?_
       | apply aw3
       | apply aw2
       | (refine awB (fun hc => ?_) fun hc => ?_ <;> first | (cases hc; done) | (exfalso; simp [h6, h18, h64, h75, h82, h89, h97, h102, h103] at hc <;> omega) | (try simp only [bn] at hc; try contradiction))
       | skip))
end
section
open Sch
end
section
open Sch Pl
end
section
open Sch
end
section
open Sch
end
section
open Sch
end
end Pur
end Go.Proofs.YteokbngllldmdaaGreatDoor
namespace Go.Proofs.YteokbngllldmdaaGreatDoor
namespace Pur
open Go.RowKit
section
open Sch
end
end Pur
end Go.Proofs.YteokbngllldmdaaGreatDoor
namespace Go.Proofs.YteokbngllldmdaaGreatDoor
namespace Pur
open Go.RowKit
attribute [local go_sem] evOps evOp evOpV evRun evK argF List.map hintAt stripped get put tmpsOf tmpOf tmpO tmpL tmpP conds ev cond_true cond_false Nat.beq Nat.ble Nat.add quiet After thenR blockR IfD List.append_eq List.nil_append List.cons_append evInt exactI_a exactI_b exactI_c exactI_d exactI_e exactI_f evBin evStr evBool evUn guardC calm quiet.isCallK evPick List.getElem?_cons_zero List.getElem?_cons_succ fromCells fromPVs cellsOf List.all oneCell List.length_cons List.length_nil mkAgg plains List.drop List.take List.getD Option.getD_some bo1 bo2 ba1 ba2 bn1 bn2 kk_i64 kk_u8 kk_i32 kk_u64 setAt List.set Nat.reduceAdd Nat.reduceMul evCall safeCall refsOf refsIn scalarA scalar scalarL thawL mapAll thawArg thawRef after freeze RetD RetE evResult evRess evRes1 thaw_pv mkTup nilOf_a nilOf_b nilOf_bb nilOf_c nilOf_d nilOf_e nilOf_f nilOf_g nilOf_h nilOf_i nilOf_j nilOf_k nilOf_l nilOf_m eqLeaf_a eqLeaf_b eqLeaf_c eqOffs evMM bytesOf evOpsF AfterF footOf footRefs notIn indepF footAt freeOk still evParts fillA zeros intOfA boundA srcOf List.isEmpty appNil_0 appNil_1 appNil_2 Int.reduceToNat Nat.mul_one Nat.reduceSub evC evOpsT evOpsTF autoH tabHint look hintD strip guarded RetPD RetRD mpLen keysOk leafKA leafK bitI nilOf_n nilOf_o Bool.or_false Bool.or_true Bool.and_true Bool.and_false Nat.blt renF renM renB renV idxOf solF solM solA solV thawRef ev1
section
open Sch
def c9 : ACode := (⟨_, by conv => (lhs; reduce; try simp only [lt1, Int.cast_ofNat_Int, Int.reduceNegSucc, UInt8.reduceOfNat])⟩ : {x // codeOf Tryz.prog 9 (fun _ => false) = some x}).1
end
section
open Sch
section
variable {R : Exit → AF → AM → Prop} {own : Nat → Bool} {ls : List (List UInt8)} {i : Nat} {w0 : List UInt8} {r : List (List UInt8)}
end
end
section
open Sch
theorem renV_pv (keep : List Nat) (d : Nat) (p : PV) : renV keep d (.pv p) = .pv p := by cases d <;> rfl
theorem aw_eq {C : Ctx} {own : Nat → Bool} {n m : Nat} {x : ACode} {R : Exit → AF → AM → Prop} {f : AF} {μ μ' : AM} (hm : μ = μ') (h : Aw C own n m x R f μ') : Aw C own n m x R f μ := hm ▸ h
section
variable {R : Exit → AF → AM → Prop} {own : Nat → Bool} {ls : List (List UInt8)} {i : Nat} {w0 : List UInt8} {r : List (List UInt8)}
end
end
section
open Sch Pl
def c5 : ACode := (⟨_, by conv => (lhs; reduce; try simp only [lt1, Int.cast_ofNat_Int, Int.reduceNegSucc, UInt8.reduceOfNat])⟩ : {x // codeOf Tryz.prog 5 (fun _ => false) = some x}).1
theorem fn5 : fnOf Tryz.prog 5 (fun _ => false) = some (c5, [.t 4], 118, true) := by kernel_rfl
def ixG (n : Nat) : List Int → AV
 | [] => .pv .nilsl
 | _ :: r => .ref n r.length 0 (r.length + 1)
theorem ixG_nil (n : Nat) : ixG n [] = .pv .nilsl := rfl
theorem ixG_cons (n : Nat) (x : Int) (r : List Int) : ixG n (x :: r) = .ref n r.length 0 (r.length + 1) := rfl
def ixB : List Int → AM
 | [] => []
 | x :: r => [⟨((x :: r).map (PV.int .i64)).map .pv, r.length, 1, 3, false⟩]
theorem ixB_nil : ixB [] = [] := rfl
theorem ixB_cons (x : Int) (r : List Int) : ixB (x :: r) = [⟨((x :: r).map (PV.int .i64)).map .pv, r.length, 1, 3, false⟩] := rfl
def spM (s : Sched) (a b : List Int) : AM := boxB s :: (ixB a ++ ixB b)
theorem spM_ok (s : Sched) (a b : List Int) : okMem (spM s a b) (spM s a b).length = true := by
 cases a <;> cases b <;> simp [okMem, spM, boxB, ixB, bnd, Nat.blt, Function.comp_def]
def spF (s : Sched) (t : Int) (a b : List Int) (k : Nat) : AF := [(1, .pv (.int .i64 t)), (2, .ptr 0 0 0), (5, .pv (.int .i64 s.steps.length)), (7, ixG 1 a), (8, ixG (1 + (ixB a).length) b), (41, .pv (.sl s.steps.length (s.steps.flatMap stepC))), (42, .pv (.int .i64 s.steps.length)), (43, .pv (.int .i64 k))]
theorem spF_ok (s : Sched) (t : Int) (a b : List Int) (k : Nat) : okFrame (spF s t a b k) (spM s a b).length = true := by
 cases a <;> cases b <;> rfl
theorem aw_lastSlot {C : Ctx} {own : Nat → Bool} {n' m : Nat} {R : Exit → AF → AM → Prop} {f : AF} {μ : AM} {ps : List PV} {g n t : Nat} {e : TypeId} {x : ACode} (hμ : okMem μ μ.length = true) (hm : m ≤ μ.length) (hl : ps.length = n) (hf : ∀ M, solF M μ.length f = f) (hof : okFrame ((t, .pv (.sl n ps)) :: f) μ.length = true)
  (h : Aw C own n' m x R ((t, .pv (.sl n ps)) :: f) μ) : Aw C own n' m x R ((t, .ref μ.length g 0 n) :: f) (μ ++ [⟨ps.map .pv, g, 1, e, false⟩]) := by
 refine aw_solid μ.length (by simp) ?_
 have hb : (μ ++ [⟨ps.map .pv, g, 1, e, false⟩] : AM)[μ.length]? = some ⟨ps.map .pv, g, 1, e, false⟩ := by simp
 generalize hM : (μ ++ [⟨ps.map .pv, g, 1, e, false⟩] : AM) = M at *
 have hsol : thawRef M (.ref μ.length g 0 n) = some (.sl n ps) := by
  have h2 : Nat.ble (0 + n * 1) (ps.map AV.pv).length = true := Nat.ble_eq_true_of_le (by simp [hl])
  have h3 : ((ps.map AV.pv).drop 0).take (n * 1) = ps.map .pv := by rw [List.drop_zero, List.take_of_length_le (by simp [hl])]
  have h4 : ∀ (l : List PV), plains (l.map .pv) = some l := fun l => by
   induction l with
   | nil => rfl
   | cons p r ih => simp only [List.map_cons, plains, ih]
  simp only [thawRef, hb, Nat.beq_refl, h2, h3, h4, Bool.not_false, Bool.true_and, cond_true]
  rfl
 have hpv : ∀ l : List PV, (l.map AV.pv).map (solV M μ.length) = l.map .pv := fun l => by simp [Function.comp_def, solV]
 have hold : ∀ k ∈ μ, { k with cells := k.cells.map (solV M μ.length) } = k := fun k hk => by
  have h1 := List.all_eq_true.mp hμ k hk
  have : k.cells.map (solV M μ.length) = k.cells := by
   conv => rhs; rw [← List.map_id k.cells]
   refine List.map_congr_left fun v hv => ?_
   exact solV_id (List.all_eq_true.mp h1 v hv) (by omega) M
  rw [this]
 have hmap : μ.map (fun k => { k with cells := k.cells.map (solV M μ.length) }) = μ := by
  conv => rhs; rw [← List.map_id μ]
  exact List.map_congr_left fun k hk => hold k hk
 have hfz : freeze M [μ.length] = μ ++ [⟨ps.map .pv, g, 1, e, true⟩] := by
  simp only [freeze, hb]
  rw [← hM, List.set_append_right _ _ (by simp)]
  simp
 have hS : solM M μ.length = μ ++ [⟨ps.map .pv, g, 1, e, true⟩] := by
  unfold solM
  rw [hfz]
  simp only [List.map_append, List.map_cons, List.map_nil, hmap, hpv]
 have hF : solF M μ.length ((t, .ref μ.length g 0 n) :: f) = (t, .pv (.sl n ps)) :: f := by
  have h1 := hf M
  unfold solF at h1 ⊢
  rw [List.map_cons, h1]
  show (t, solV M μ.length (.ref μ.length g 0 n)) :: f = _
  simp only [solV, Nat.beq_refl, cond_true, hsol]
 rw [hS, hF]
 exact aw_drop hm hof hμ h
def ixP : List Int → PV
 | [] => .nilsl
 | x :: r => .sl (r.length + 1) ((x :: r).map (PV.int .i64))
theorem aw_rows {own : Nat → Bool} {n' : Nat} {R : Exit → AF → AM → Prop} (s : Sched) (t : Int) (a b : List Int) (x : ACode) (h : Aw ctx own n' 0 x R [(8, .pv (ixP b)), (7, .pv (ixP a)), (1, .pv (.int .i64 t)), (2, .ptr 0 0 0), (5, .pv (.int .i64 s.steps.length))] [boxB s]) :
  Aw ctx own n' 0 x R [(8, ixG (1 + (ixB a).length) b), (7, ixG 1 a), (1, .pv (.int .i64 t)), (2, .ptr 0 0 0), (5, .pv (.int .i64 s.steps.length))] (spM s a b) := by
 cases a with
 | nil =>
  cases b with
  | nil => exact h
  | cons y r => exact aw_lastSlot (μ := [boxB s]) (by simp [okMem, boxB, bnd]) (Nat.zero_le _) (by simp) (fun _ => rfl) rfl h
 | cons z q =>
  have h1 : Aw ctx own n' 0 x R [(8, .pv (ixP b)), (7, .ref 1 q.length 0 (q.length + 1)), (1, .pv (.int .i64 t)), (2, .ptr 0 0 0), (5, .pv (.int .i64 s.steps.length))] (spM s (z :: q) []) := by
   refine aw_frame [(7, .ref 1 q.length 0 (q.length + 1)), (8, .pv (ixP b)), (1, .pv (.int .i64 t)), (2, .ptr 0 0 0), (5, .pv (.int .i64 s.steps.length))] (by (repeat' (first | exact trivial | refine And.intro (by first | rfl | (simp [get, Nat.beq]; done) | (simp [get, Nat.beq]; omega) | (dsimp only [get]; congr 1 <;> first | rfl | omega | (simp; done) | (simp; omega))) ?_))) ?_
   refine aw_lastSlot (μ := [boxB s]) (ps := (z :: q).map (PV.int .i64)) (by simp [okMem, boxB, bnd]) (Nat.zero_le _) (by simp) (fun _ => rfl) rfl ?_
   exact aw_frame _ (by (repeat' (first | exact trivial | refine And.intro (by first | rfl | (simp [get, Nat.beq]; done) | (simp [get, Nat.beq]; omega) | (dsimp only [get]; congr 1 <;> first | rfl | omega | (simp; done) | (simp; omega))) ?_))) h
  cases b with
  | nil => exact h1
  | cons y r => exact aw_lastSlot (μ := spM s (z :: q) []) (spM_ok _ _ _) (Nat.zero_le _) (by simp) (fun _ => rfl) rfl h1
theorem small_without {s : Sched} (h : Small s) (p : Step → Bool) : Small (without s (idxs p 0 s.steps)) := by
 rw [without_filter]
 exact ⟨Nat.le_trans (List.length_filter_le _ _) h.n, h.a, h.b, fun x hx => h.z x (List.mem_filter.mp hx).1⟩
theorem sameSched_same (s : Sched) : sameSched s s = true := by simp [sameSched]
theorem fits_of {s : Sched} (h : Small s) : Fits s := by
 have h1 := h.n; have h2 := h.a; have h3 := h.b
 refine ⟨by omega, by omega, by omega, fun k => ?_⟩
 by_cases hk : k < s.steps.length
 ·have := h.z _ (getD_mem (d := zeroStep) hk)
  have q1 := this.q; have q2 := this.s; have q3 := this.t
  exact ⟨by omega, by omega, by omega⟩
 ·rw [List.getD, List.getElem?_eq_none (by omega)]
  exact ⟨by simp [zeroStep], by simp [zeroStep], by simp [zeroStep]⟩
theorem without_ix (s : Sched) (hs : Small s) (l : List Int) (hl : l.length ≤ 1000000) : PureOK ctx 16 [schedP s, ixP l] (schedP (without s l)) := by
 cases l with
 | nil =>
  refine PureOK.canon_args 1 ?_
  exact without_ok s hs [] hl
 | cons x r => exact without_ok s hs (x :: r) hl
theorem sizes_of_F {s : Sched} (h : FewS s) : ∀ k, Sizes (s.steps.getD k zeroStep) := fun k => by
 by_cases hk : k < s.steps.length
 ·have := h.x _ (getD_mem (d := zeroStep) hk)
  have q1 := this.q; have q2 := this.s; have q3 := this.v
  exact ⟨by omega, by omega, by omega⟩
 ·rw [List.getD, List.getElem?_eq_none (by omega)]
  exact ⟨by simp [zeroStep], by simp [zeroStep], by simp [zeroStep]⟩
set_option maxHeartbeats 4000000 in
theorem splits_ok (s : Sched) (hB : SchedB 1048576 s) (t : Int) : PureOK ctx 5 [schedP s, .int .i64 t] (.bool true) := by
  have hA := awake_ok
  have hf : FewS s := by
    have h1 := hB.a; have h2 := hB.f; have h3 := hB.p
    refine ⟨fun x hx => ?_, by omega, by omega, by omega⟩
    have := hB.x x hx
    have q1 := this.q; have q2 := this.s; have q3 := this.v
    exact ⟨by omega, by omega, by omega⟩
  have hsm := small_ok s hf
  generalize hsb : ((s.steps.all fun x => decide ((numsL x).length ≤ 60)) && decide (s.state.length ≤ 130) && decide (s.fates.length ≤ 20) && decide (s.steps.length ≤ 20)) = sb at hsm
  have k1 := hf.a; have k2 := hf.f; have k3 := hf.s
  cases sb with
  | false =>
    unfold schedP at hsm
    refine pure_body' (C := ctx) (Fn.of fn5 rfl) rfl ?_
    unfold c5
    iterate 7 first
      | refine ⟨fun h => by simp at h <;> omega, fun _ => ?_⟩
      | refine ⟨by simp [vb, hA, hsm] <;> omega, by simp [vb, hA, hsm] <;> omega, ?_⟩
      | (refine evT [(7, fun _ => some (.bool true)), (11, fun _ => some (.bool false))] ?_; iterate 2 (try dsimp only [schedP, go_sem]))
    refine aw_seq ?_
    refine aw_seq (aw_regX (T := [(7, fun _ => some (.bool true)), (11, fun _ => some (.bool false))]) (H := []) ?_)
    dsimp only [schedP, go_sem]
    try dsimp only [schedP, go_sem]
    refine ⟨(by simp [vb, hA, hsm] <;> omega), (by simp [vb, hA, hsm] <;> omega), ?_⟩
    refine evT [(7, fun _ => some (.bool true)), (11, fun _ => some (.bool false))] ?_
    dsimp only [schedP, go_sem]
    refine ⟨fun _ => ?_, fun h => by simp at h <;> omega⟩
    repeat' (first
      | ((with_reducible first | show VCs _ | show All _); simp [vb] <;> omega)
      | exact (rfl : some _ = _)
      | (fail_if_success refine awL ?_
         refine evA ?_
         repeat1' dsimp only [c5, go_sem]
         first
         | refine aw4 ?_ ?_ rfl ?_
         | apply aw3
         | apply aw2
         | (refine awB (fun hc => ?_) fun hc => ?_ <;> first | (cases hc; done) | (exfalso; simp at hc <;> omega) | (try simp only [bn] at hc; try contradiction))
         | skip))
  | true =>
    by_cases htk : s.ticks > 100
    · unfold schedP at hsm
      refine pure_body' (C := ctx) (Fn.of fn5 rfl) rfl ?_
      unfold c5
      iterate 7 first
        | refine ⟨fun h => by simp at h <;> omega, fun _ => ?_⟩
        | refine ⟨by simp [vb, hA, hsm, htk] <;> omega, by simp [vb, hA, hsm, htk] <;> omega, ?_⟩
        | (refine evTH [(7, fun _ => some (.bool true)), (11, fun _ => some (.bool true))] [(21, { val := some (.pv (.bool true)) })] ?_; iterate 2 (try dsimp only [schedP, go_sem]))
      refine aw_seq ?_
      refine aw_seq (aw_regX (T := [(7, fun _ => some (.bool true)), (11, fun _ => some (.bool true))]) (H := [(21, { val := some (.pv (.bool true)) })]) ?_)
      dsimp only [schedP, go_sem]
      try dsimp only [schedP, go_sem]
      refine ⟨(by simp [vb, hA, hsm, htk] <;> omega), (by simp [vb, hA, hsm, htk] <;> omega), ?_⟩
      refine evTH [(7, fun _ => some (.bool true)), (11, fun _ => some (.bool true))] [(21, { val := some (.pv (.bool true)) })] ?_
      dsimp only [schedP, go_sem]
      refine ⟨fun _ => ?_, fun h => by simp at h <;> omega⟩
      repeat' (first
        | ((with_reducible first | show VCs _ | show All _); simp [vb] <;> omega)
        | exact (rfl : some _ = _)
        | (fail_if_success refine awL ?_
           refine evA ?_
           repeat1' dsimp only [c5, go_sem]
           first
           | refine aw4 ?_ ?_ rfl ?_
           | apply aw3
           | apply aw2
           | (refine awB (fun hc => ?_) fun hc => ?_ <;> first | (cases hc; done) | (exfalso; simp at hc <;> omega) | (try simp only [bn] at hc; try contradiction))
           | skip))
    · have hv := Valid_ok s (by omega) (by omega) (by omega) (sizes_of_F hf)
      by_cases hval : valid s = true
      · rw [hval] at hv
        have hsl : s.steps.length ≤ 20 := by simp at hsb; omega
        have hS : Small s := ⟨by omega, by omega, by omega, fun x hx => by
          have := hB.x x hx
          have q1 := this.q; have q2 := this.s; have q3 := this.v
          exact ⟨by omega, by omega, by omega⟩⟩
        have law := splits_law hval t
        obtain ⟨ht0, -⟩ := valid_ticks hval
        unfold schedP at hsm hv
        refine pure_body' (C := ctx) (Fn.of fn5 rfl) rfl ?_
        unfold c5
        iterate 7 first
          | refine ⟨fun h => by simp at h <;> omega, fun _ => ?_⟩
          | refine ⟨by simp [vb, hA, hsm, htk, hv] <;> omega, by simp [vb, hA, hsm, htk, hv] <;> omega, ?_⟩
          | (refine evTH [(7, fun _ => some (.bool true)), (11, fun _ => some (.bool true)), (12, fun _ => some (.bool true))] [(21, { val := some (.pv (.bool false)) })] ?_; iterate 2 (try dsimp only [schedP, go_sem]))
        refine aw_seq ?_
        refine aw_seq (aw_regX (T := [(7, fun _ => some (.bool true)), (11, fun _ => some (.bool true)), (12, fun _ => some (.bool true))]) (H := [(21, { val := some (.pv (.bool false)) })]) ?_)
        dsimp only [schedP, go_sem]
        try dsimp only [schedP, go_sem]
        refine ⟨(by simp [vb, hA, hsm, htk, hv] <;> omega), (by simp [vb, hA, hsm, htk, hv] <;> omega), ?_⟩
        refine evTH [(7, fun _ => some (.bool true)), (11, fun _ => some (.bool true)), (12, fun _ => some (.bool true))] [(21, { val := some (.pv (.bool false)) })] ?_
        dsimp only [schedP, go_sem]
        refine ⟨fun h => by simp at h <;> omega, fun _ => ?_⟩
        refine evTH [(7, fun _ => some (.bool true)), (11, fun _ => some (.bool true)), (12, fun _ => some (.bool true))] [(21, { val := some (.pv (.bool false)) })] ?_
        dsimp only [schedP, go_sem]
        repeat' (first
          | ((with_reducible first | show VCs _ | show All _); simp [vb] <;> omega)
          | exact (rfl : some _ = _)
          | (fail_if_success refine awL ?_
             refine evA ?_
             repeat1' dsimp only [c5, go_sem]
             first
             | refine aw4 ?_ ?_ rfl ?_
             | apply aw3
             | apply aw2
             | (refine awB (fun hc => ?_) fun hc => ?_ <;> first | (cases hc; done) | (exfalso; simp at hc <;> omega) | (try simp only [bn] at hc; try contradiction))
             | skip))
        refine aw_forJ s.ticks.toNat (fun _ => True) (fun k => [(1, .pv (.int .i64 t)), (2, .ptr 0 0 0), (5, .pv (.int .i64 (upto s k))), (29, .pv (.int .i64 s.ticks)), (30, .pv (.int .i64 k))]) (fun k => [boxB s]) trivial (by (repeat' (first | exact trivial | refine And.intro (by first | rfl | (simp [get, Nat.beq]; done) | (simp [get, Nat.beq]; omega) | (dsimp only [get]; congr 1 <;> first | rfl | omega | (simp; done) | (simp; omega))) ?_))) ⟨[], rfl⟩ (fun k => ⟨Nat.zero_le _, rfl, rfl⟩) fun k hk _ => ?_
        by_cases hlt : k < s.ticks.toNat
        · have hat := at_ok s hS k
          have hul := upto_le s k
          have hsa : (stepsAt s (k : Int)).length ≤ s.steps.length := by rw [stepsAt_filter]; exact List.length_filter_le _ _
          have hk2 : (k : Int) < s.ticks := by omega
          have hub : upto s k ≤ 2000 := by have := Nat.mul_le_mul (show k ≤ 100 by omega) hsl; omega
          unfold schedP at hat
          repeat' (first
            | ((with_reducible first | show VCs _ | show All _); (try dsimp only [go_sem]); first | (simp [vb, hat, hk2, hub, hsa] <;> omega) | (simp only [vb, and_true, true_implies]; (repeat' (first | (with_reducible assumption) | (with_reducible apply And.intro) | intro _ | ((fail_if_success (with_reducible show (_ : Int) ≤ _)); assumption))) <;> first | omega | (simp only [ab, hat, hk2, hub, hsa]; done) | (simp [hat, hk2, hub, hsa] <;> omega)))
            | exact (rfl : some _ = _)
            | (fail_if_success refine awL ?_
               refine evT [(15, fun _ => some (stepsP (stepsAt s k)))] ?_
               repeat1' dsimp only [c5, boxB, stepsP, go_sem]
               first
               | refine aw4 ?_ ?_ rfl ?_
               | apply aw3
               | apply aw2
               | (refine awB (fun hc => ?_) fun hc => ?_ <;> first | (cases hc; done) | (exfalso; simp [hat, hk2, hub, hsa] at hc <;> omega) | (try simp only [bn] at hc; try contradiction))
               | skip))
          exact ⟨hlt, trivial, by (repeat' (first | exact trivial | refine And.intro (by first | rfl | (simp [get, Nat.beq, upto]; done) | (simp [get, Nat.beq, upto]; omega) | (dsimp only [get]; congr 1 <;> first | rfl | omega | (simp; done) | (simp; omega))) ?_)), [], rfl⟩
        · obtain rfl : k = s.ticks.toNat := by omega
          rw [law.all]
          repeat' (first
            | ((with_reducible first | show VCs _ | show All _); (try dsimp only [go_sem]); first | (simp [vb, hlt] <;> omega) | (simp only [vb, and_true, true_implies]; (repeat' (first | (with_reducible assumption) | (with_reducible apply And.intro) | intro _ | ((fail_if_success (with_reducible show (_ : Int) ≤ _)); assumption))) <;> first | omega | (simp only [ab, hlt]; done) | (simp [hlt] <;> omega)))
            | exact (rfl : some _ = _)
            | (fail_if_success refine awL ?_
               refine evA ?_
               repeat1' dsimp only [c5, boxB, stepsP, go_sem]
               first
               | refine aw4 ?_ ?_ rfl ?_
               | apply aw3
               | apply aw2
               | (refine awB (fun hc => ?_) fun hc => ?_ <;> first | (cases hc; done) | (exfalso; simp [hlt] at hc <;> omega) | (try simp only [bn] at hc; try contradiction))
               | skip))
          refine aw_forJ s.steps.length (fun _ => True) (fun k => spF s t (idxs (fun x => x.tick == t) 0 (s.steps.take k)) (idxs (fun x => !(x.tick == t)) 0 (s.steps.take k)) k) (fun k => spM s (idxs (fun x => x.tick == t) 0 (s.steps.take k)) (idxs (fun x => !(x.tick == t)) 0 (s.steps.take k))) trivial (by
            dsimp only [spF, List.take_zero, idxs, ixG_nil, ixB_nil]
            (repeat' (first | exact trivial | refine And.intro (by first | rfl | (simp [get, Nat.beq]; done) | (simp [get, Nat.beq]; omega) | (dsimp only [get]; congr 1 <;> first | rfl | omega | (simp; done) | (simp; omega))) ?_))) ⟨[], rfl⟩ (fun k => ⟨Nat.zero_le _, spF_ok _ _ _ _ _, spM_ok _ _ _⟩) fun k hk _ => ?_
          by_cases hlt : k < s.steps.length
          · have e := fm_take stepC_len s.steps k zeroStep hlt
            have hfl := flatMap_length stepC_len s.steps
            have ha := idxs_len (fun x => x.tick == t) (s.steps.take k) 0
            have hb := idxs_len (fun x => !(x.tick == t)) (s.steps.take k) 0
            rw [List.length_take, Nat.min_eq_left hk] at ha hb
            rw [take_succ_getD s.steps k zeroStep hlt, idxs_append, idxs_append, List.length_take, Nat.min_eq_left hk, Nat.zero_add]
            generalize s.steps.getD k zeroStep = x at *
            generalize idxs (fun x => x.tick == t) 0 (s.steps.take k) = a at *
            generalize idxs (fun x => !(x.tick == t)) 0 (s.steps.take k) = b at *
            have hstep : stepP x = .agg (stepC x) := rfl
            by_cases hp : x.tick = t
            · have e1 : (x.tick == t) = true := beq_iff_eq.mpr hp
              simp only [e1, if_true, Bool.not_true, Bool.false_eq_true, if_false, List.append_nil]
              cases a <;> cases b <;> simp only [List.length_cons, List.length_nil] at ha hb
              · iterate 13 first
                  | refine ⟨fun _ => ?_, fun h => by simp at h <;> omega⟩
                  | refine ⟨by simp [vb, e, hlt, hfl, hp, stepC] <;> omega, by simp [vb, e, hlt, hfl, hp, stepC] <;> omega, ?_⟩
                  | (refine evH [(47, { val := some (.pv (stepP x)) })] ?_; iterate 2 (try dsimp only [spF, spM, boxB, stepP, stepC, ixG_nil, ixG_cons, ixB_nil, ixB_cons, go_sem]))
                refine aw_keep [0, 2] rfl ?_
                dsimp only [go_sem]
                refine evA ?_
                dsimp only [go_sem]
                try dsimp only [go_sem]
                refine ⟨(by simp [vb, hlt] <;> omega), (by simp [vb, hlt] <;> omega), ?_⟩
                exact ⟨hlt, trivial, by (repeat' (first | exact trivial | refine And.intro (by first | rfl | (simp [get, Nat.beq, List.length_append]; done) | (simp [get, Nat.beq, List.length_append]; omega) | (dsimp only [get]; congr 1 <;> first | rfl | omega | (simp; done) | (simp; omega))) ?_)), [], by simp [renV_pv, Function.comp_def]⟩
              · iterate 13 first
                  | refine ⟨fun _ => ?_, fun h => by simp at h <;> omega⟩
                  | refine ⟨by simp [vb, e, hlt, hfl, hp, stepC] <;> omega, by simp [vb, e, hlt, hfl, hp, stepC] <;> omega, ?_⟩
                  | (refine evH [(47, { val := some (.pv (stepP x)) })] ?_; iterate 2 (try dsimp only [spF, spM, boxB, stepP, stepC, ixG_nil, ixG_cons, ixB_nil, ixB_cons, go_sem]))
                refine aw_keep [0, 3, 1] rfl ?_
                dsimp only [go_sem]
                refine evA ?_
                dsimp only [go_sem]
                try dsimp only [go_sem]
                refine ⟨(by simp [vb, hlt] <;> omega), (by simp [vb, hlt] <;> omega), ?_⟩
                exact ⟨hlt, trivial, by (repeat' (first | exact trivial | refine And.intro (by first | rfl | (simp [get, Nat.beq, List.length_append]; done) | (simp [get, Nat.beq, List.length_append]; omega) | (dsimp only [get]; congr 1 <;> first | rfl | omega | (simp; done) | (simp; omega))) ?_)), [], by simp [renV_pv, Function.comp_def]⟩
              · iterate 13 first
                  | refine ⟨fun _ => ?_, fun h => by simp at h <;> omega⟩
                  | refine ⟨by simp [vb, e, hlt, hfl, hp, stepC] <;> omega, by simp [vb, e, hlt, hfl, hp, stepC] <;> omega, ?_⟩
                  | (refine evH [(47, { val := some (.pv (stepP x)) })] ?_; iterate 2 (try dsimp only [spF, spM, boxB, stepP, stepC, ixG_nil, ixG_cons, ixB_nil, ixB_cons, go_sem]))
                refine aw_keep [0, 1] rfl ?_
                dsimp only [go_sem]
                refine evA ?_
                dsimp only [go_sem]
                try dsimp only [go_sem]
                refine ⟨(by simp [vb, hlt] <;> omega), (by simp [vb, hlt] <;> omega), ?_⟩
                exact ⟨hlt, trivial, by (repeat' (first | exact trivial | refine And.intro (by first | rfl | (simp [get, Nat.beq, List.length_append]; done) | (simp [get, Nat.beq, List.length_append]; omega) | (dsimp only [get]; congr 1 <;> first | rfl | omega | (simp; done) | (simp; omega))) ?_)), [], by simp [renV_pv, Function.comp_def]⟩
              · iterate 13 first
                  | refine ⟨fun _ => ?_, fun h => by simp at h <;> omega⟩
                  | refine ⟨by simp [vb, e, hlt, hfl, hp, stepC] <;> omega, by simp [vb, e, hlt, hfl, hp, stepC] <;> omega, ?_⟩
                  | (refine evH [(47, { val := some (.pv (stepP x)) })] ?_; iterate 2 (try dsimp only [spF, spM, boxB, stepP, stepC, ixG_nil, ixG_cons, ixB_nil, ixB_cons, go_sem]))
                refine aw_keep [0, 1, 2] rfl ?_
                dsimp only [go_sem]
                refine evA ?_
                dsimp only [go_sem]
                try dsimp only [go_sem]
                refine ⟨(by simp [vb, hlt] <;> omega), (by simp [vb, hlt] <;> omega), ?_⟩
                exact ⟨hlt, trivial, by (repeat' (first | exact trivial | refine And.intro (by first | rfl | (simp [get, Nat.beq, List.length_append]; done) | (simp [get, Nat.beq, List.length_append]; omega) | (dsimp only [get]; congr 1 <;> first | rfl | omega | (simp; done) | (simp; omega))) ?_)), [], by simp [renV_pv, Function.comp_def]⟩
            · have e1 : (x.tick == t) = false := beq_eq_false_iff_ne.mpr hp
              simp only [e1, if_true, Bool.not_false, Bool.false_eq_true, if_false, List.append_nil]
              cases a <;> cases b <;> simp only [List.length_cons, List.length_nil] at ha hb
              · iterate 9 first
                  | refine ⟨fun _ => ?_, fun h => by simp at h <;> omega⟩
                  | refine ⟨by simp [vb, e, hlt, hfl, hp, stepC] <;> omega, by simp [vb, e, hlt, hfl, hp, stepC] <;> omega, ?_⟩
                  | (refine evH [(47, { val := some (.pv (stepP x)) })] ?_; iterate 2 (try dsimp only [spF, spM, boxB, stepP, stepC, ixG_nil, ixG_cons, ixB_nil, ixB_cons, go_sem]))
                refine evH [(47, { val := some (.pv (stepP x)) })] ?_
                dsimp only [spF, spM, boxB, stepP, stepC, ixG_nil, ixG_cons, ixB_nil, ixB_cons, go_sem]
                refine ⟨fun h => by simp at h <;> omega, fun _ => ?_⟩
                refine evH [(47, { val := some (.pv (stepP x)) })] ?_
                dsimp only [spF, spM, boxB, stepP, stepC, ixG_nil, ixG_cons, ixB_nil, ixB_cons, go_sem]
                try dsimp only [spF, spM, boxB, stepP, stepC, ixG_nil, ixG_cons, ixB_nil, ixB_cons, go_sem]
                refine ⟨(by simp [vb, e, hlt, hfl, hp, stepC] <;> omega), (by simp [vb, e, hlt, hfl, hp, stepC] <;> omega), ?_⟩
                refine aw_keep [0, 2] rfl ?_
                dsimp only [go_sem]
                refine evA ?_
                dsimp only [go_sem]
                try dsimp only [go_sem]
                refine ⟨(by simp [vb, hlt] <;> omega), (by simp [vb, hlt] <;> omega), ?_⟩
                exact ⟨hlt, trivial, by (repeat' (first | exact trivial | refine And.intro (by first | rfl | (simp [get, Nat.beq, List.length_append]; done) | (simp [get, Nat.beq, List.length_append]; omega) | (dsimp only [get]; congr 1 <;> first | rfl | omega | (simp; done) | (simp; omega))) ?_)), [], by simp [renV_pv, Function.comp_def]⟩
              · iterate 9 first
                  | refine ⟨fun _ => ?_, fun h => by simp at h <;> omega⟩
                  | refine ⟨by simp [vb, e, hlt, hfl, hp, stepC] <;> omega, by simp [vb, e, hlt, hfl, hp, stepC] <;> omega, ?_⟩
                  | (refine evH [(47, { val := some (.pv (stepP x)) })] ?_; iterate 2 (try dsimp only [spF, spM, boxB, stepP, stepC, ixG_nil, ixG_cons, ixB_nil, ixB_cons, go_sem]))
                refine evH [(47, { val := some (.pv (stepP x)) })] ?_
                dsimp only [spF, spM, boxB, stepP, stepC, ixG_nil, ixG_cons, ixB_nil, ixB_cons, go_sem]
                refine ⟨fun h => by simp at h <;> omega, fun _ => ?_⟩
                refine evH [(47, { val := some (.pv (stepP x)) })] ?_
                dsimp only [spF, spM, boxB, stepP, stepC, ixG_nil, ixG_cons, ixB_nil, ixB_cons, go_sem]
                try dsimp only [spF, spM, boxB, stepP, stepC, ixG_nil, ixG_cons, ixB_nil, ixB_cons, go_sem]
                refine ⟨(by simp [vb, e, hlt, hfl, hp, stepC] <;> omega), (by simp [vb, e, hlt, hfl, hp, stepC] <;> omega), ?_⟩
                refine aw_keep [0, 1] rfl ?_
                dsimp only [go_sem]
                refine evA ?_
                dsimp only [go_sem]
                try dsimp only [go_sem]
                refine ⟨(by simp [vb, hlt] <;> omega), (by simp [vb, hlt] <;> omega), ?_⟩
                exact ⟨hlt, trivial, by (repeat' (first | exact trivial | refine And.intro (by first | rfl | (simp [get, Nat.beq, List.length_append]; done) | (simp [get, Nat.beq, List.length_append]; omega) | (dsimp only [get]; congr 1 <;> first | rfl | omega | (simp; done) | (simp; omega))) ?_)), [], by simp [renV_pv, Function.comp_def]⟩
              · iterate 9 first
                  | refine ⟨fun _ => ?_, fun h => by simp at h <;> omega⟩
                  | refine ⟨by simp [vb, e, hlt, hfl, hp, stepC] <;> omega, by simp [vb, e, hlt, hfl, hp, stepC] <;> omega, ?_⟩
                  | (refine evH [(47, { val := some (.pv (stepP x)) })] ?_; iterate 2 (try dsimp only [spF, spM, boxB, stepP, stepC, ixG_nil, ixG_cons, ixB_nil, ixB_cons, go_sem]))
                refine evH [(47, { val := some (.pv (stepP x)) })] ?_
                dsimp only [spF, spM, boxB, stepP, stepC, ixG_nil, ixG_cons, ixB_nil, ixB_cons, go_sem]
                refine ⟨fun h => by simp at h <;> omega, fun _ => ?_⟩
                refine evH [(47, { val := some (.pv (stepP x)) })] ?_
                dsimp only [spF, spM, boxB, stepP, stepC, ixG_nil, ixG_cons, ixB_nil, ixB_cons, go_sem]
                try dsimp only [spF, spM, boxB, stepP, stepC, ixG_nil, ixG_cons, ixB_nil, ixB_cons, go_sem]
                refine ⟨(by simp [vb, e, hlt, hfl, hp, stepC] <;> omega), (by simp [vb, e, hlt, hfl, hp, stepC] <;> omega), ?_⟩
                refine aw_keep [0, 1, 3] rfl ?_
                dsimp only [go_sem]
                refine evA ?_
                dsimp only [go_sem]
                try dsimp only [go_sem]
                refine ⟨(by simp [vb, hlt] <;> omega), (by simp [vb, hlt] <;> omega), ?_⟩
                exact ⟨hlt, trivial, by (repeat' (first | exact trivial | refine And.intro (by first | rfl | (simp [get, Nat.beq, List.length_append]; done) | (simp [get, Nat.beq, List.length_append]; omega) | (dsimp only [get]; congr 1 <;> first | rfl | omega | (simp; done) | (simp; omega))) ?_)), [], by simp [renV_pv, Function.comp_def]⟩
              · iterate 9 first
                  | refine ⟨fun _ => ?_, fun h => by simp at h <;> omega⟩
                  | refine ⟨by simp [vb, e, hlt, hfl, hp, stepC] <;> omega, by simp [vb, e, hlt, hfl, hp, stepC] <;> omega, ?_⟩
                  | (refine evH [(47, { val := some (.pv (stepP x)) })] ?_; iterate 2 (try dsimp only [spF, spM, boxB, stepP, stepC, ixG_nil, ixG_cons, ixB_nil, ixB_cons, go_sem]))
                refine evH [(47, { val := some (.pv (stepP x)) })] ?_
                dsimp only [spF, spM, boxB, stepP, stepC, ixG_nil, ixG_cons, ixB_nil, ixB_cons, go_sem]
                refine ⟨fun h => by simp at h <;> omega, fun _ => ?_⟩
                refine evH [(47, { val := some (.pv (stepP x)) })] ?_
                dsimp only [spF, spM, boxB, stepP, stepC, ixG_nil, ixG_cons, ixB_nil, ixB_cons, go_sem]
                try dsimp only [spF, spM, boxB, stepP, stepC, ixG_nil, ixG_cons, ixB_nil, ixB_cons, go_sem]
                refine ⟨(by simp [vb, e, hlt, hfl, hp, stepC] <;> omega), (by simp [vb, e, hlt, hfl, hp, stepC] <;> omega), ?_⟩
                refine aw_keep [0, 1, 2] rfl ?_
                dsimp only [go_sem]
                refine evA ?_
                dsimp only [go_sem]
                try dsimp only [go_sem]
                refine ⟨(by simp [vb, hlt] <;> omega), (by simp [vb, hlt] <;> omega), ?_⟩
                exact ⟨hlt, trivial, by (repeat' (first | exact trivial | refine And.intro (by first | rfl | (simp [get, Nat.beq, List.length_append]; done) | (simp [get, Nat.beq, List.length_append]; omega) | (dsimp only [get]; congr 1 <;> first | rfl | omega | (simp; done) | (simp; omega))) ?_)), [], by simp [renV_pv, Function.comp_def]⟩
          · obtain rfl : k = s.steps.length := by omega
            rw [List.take_length]
            have hna := idxs_len (fun x => x.tick == t) s.steps 0
            have hnb := idxs_len (fun x => !(x.tick == t)) s.steps 0
            have hwa := without_ix s hS (idxs (fun x => x.tick == t) 0 s.steps) (by omega)
            have hwb := without_ix s hS (idxs (fun x => !(x.tick == t)) 0 s.steps) (by omega)
            have hSa := small_without hS (fun x => x.tick == t)
            have hSb := small_without hS (fun x => !(x.tick == t))
            have l1 := law.none
            have l2 := law.sum
            have l3 := law.own
            have l4 := law.same
            have l5 := law.till
            clear law
            generalize without s (idxs (fun x => x.tick == t) 0 s.steps) = sa at *
            generalize without s (idxs (fun x => !(x.tick == t)) 0 s.steps) = sb at *
            generalize idxs (fun x => x.tick == t) 0 s.steps = a at *
            generalize idxs (fun x => !(x.tick == t)) 0 s.steps = b at *
            iterate 5 first
              | refine ⟨fun h => by simp at h <;> omega, fun _ => ?_⟩
              | refine ⟨by simp [vb, hlt] <;> omega, by simp [vb, hlt] <;> omega, ?_⟩
              | (refine evA ?_; iterate 2 (try dsimp only [spF, spM, boxB, go_sem]))
            refine aw_frame [(8, ixG (1 + (ixB a).length) b), (7, ixG 1 a), (1, .pv (.int .i64 t)), (2, .ptr 0 0 0), (5, .pv (.int .i64 s.steps.length))] (by (repeat' (first | exact trivial | refine And.intro (by first | rfl | (simp [get, Nat.beq]; done) | (simp [get, Nat.beq]; omega) | (dsimp only [get]; congr 1 <;> first | rfl | omega | (simp; done) | (simp; omega))) ?_))) ?_
            refine aw_eq (show _ = spM s a b from rfl) ?_
            refine aw_rows s t a b _ ?_
            have q1 := at_ok sa hSa t
            have q2 := at_ok sb hSb t
            have q3 := at_ok s hS t
            have q4 := until_ok s hS s.ticks
            have q5 := Equal_ok s s (fits_of hS) (fits_of hS)
            rw [l5] at q4
            rw [sameSched_same] at q5
            rw [l1] at q1
            unfold schedP stepsP at hwa hwb q1 q2 q3 q4 q5
            refine aw_rsS 6 [(2, { val := some (.pv (schedP sa)) }), (5, { val := some (.pv (schedP sb)) })] [(2, { val := some (.pv (schedP sa)) }), (5, { val := some (.pv (schedP sb)) })] rfl ?_ ?_
            · dsimp only [boxB, schedP, stepsP, intsP, fatesP, freeA, sg, go_sem]
              refine ⟨(by first | exact True.intro | (simp only [vb, lb]; omega) | (simp [vb] <;> omega)), ⟨hwb, hwa, trivial⟩, rfl, ?_⟩
              refine aw_seq (aw_regX (T := []) (H := [(71, { val := some (.pv (.bool true)) }), (75, { val := some (.pv (stepsP [])) }), (77, { val := some (.pv (.bool true)) }), (88, { val := some (.pv (.bool true)) }), (93, { val := some (.pv (stepsP (stepsAt sb t))) }), (98, { val := some (.pv (.bool true)) }), (106, { val := some (.pv (stepsP (stepsAt s t))) }), (108, { val := some (.pv (.bool true)) }), (114, { val := some (.pv (schedP s)) }), (116, { val := some (.pv (.bool true)) })]) ?_)
              dsimp only [schedP, stepsP, intsP, fatesP, go_sem]
              try dsimp only [schedP, stepsP, intsP, fatesP, go_sem]
              refine ⟨(by simp [vb] <;> omega), ?_, ?_⟩
              · exact ⟨q5, q4, by rw [l4]; simp, q3, by rw [l3]; simp, q2, by rw [← l2]; simp, rfl, q1, by simp, trivial⟩
              repeat' (first
                | ((with_reducible first | show VCs _ | show All _); simp [vb] <;> omega)
                | exact (rfl : some _ = _)
                | (fail_if_success refine awL ?_
                   refine evA ?_
                   repeat1' dsimp only [c5, go_sem]
                   first
                   | refine aw4 ?_ ?_ rfl ?_
                   | apply aw3
                   | apply aw2
                   | (refine awB (fun hc => ?_) fun hc => ?_ <;> first | (cases hc; done) | (exfalso; simp at hc <;> omega) | (try simp only [bn] at hc; try contradiction))
                   | skip))
            · dsimp only [boxB, schedP, stepsP, intsP, fatesP, swapL, freeB, sg, go_sem]
              refine ⟨(by first | exact True.intro | (simp only [vb, lb]; omega) | (simp [vb] <;> omega)), ⟨hwb, hwa, trivial⟩, rfl, ?_⟩
              refine aw_seq (aw_regX (T := []) (H := [(71, { val := some (.pv (.bool true)) }), (75, { val := some (.pv (stepsP [])) }), (77, { val := some (.pv (.bool true)) }), (88, { val := some (.pv (.bool true)) }), (93, { val := some (.pv (stepsP (stepsAt sb t))) }), (98, { val := some (.pv (.bool true)) }), (106, { val := some (.pv (stepsP (stepsAt s t))) }), (108, { val := some (.pv (.bool true)) }), (114, { val := some (.pv (schedP s)) }), (116, { val := some (.pv (.bool true)) })]) ?_)
              dsimp only [schedP, stepsP, intsP, fatesP, go_sem]
              try dsimp only [schedP, stepsP, intsP, fatesP, go_sem]
              refine ⟨(by simp [vb] <;> omega), ?_, ?_⟩
              · exact ⟨q5, q4, by rw [l4]; simp, q3, by rw [l3]; simp, q2, by rw [← l2]; simp, rfl, q1, by simp, trivial⟩
              repeat' (first
                | ((with_reducible first | show VCs _ | show All _); simp [vb] <;> omega)
                | exact (rfl : some _ = _)
                | (fail_if_success refine awL ?_
                   refine evA ?_
                   repeat1' dsimp only [c5, go_sem]
                   first
                   | refine aw4 ?_ ?_ rfl ?_
                   | apply aw3
                   | apply aw2
                   | (refine awB (fun hc => ?_) fun hc => ?_ <;> first | (cases hc; done) | (exfalso; simp at hc <;> omega) | (try simp only [bn] at hc; try contradiction))
                   | skip))
      · have hval' : valid s = false := by simpa using hval
        rw [hval'] at hv
        unfold schedP at hsm hv
        refine pure_body' (C := ctx) (Fn.of fn5 rfl) rfl ?_
        unfold c5
        iterate 7 first
          | refine ⟨fun h => by simp at h <;> omega, fun _ => ?_⟩
          | refine ⟨by simp [vb, hA, hsm, htk, hv] <;> omega, by simp [vb, hA, hsm, htk, hv] <;> omega, ?_⟩
          | (refine evTH [(7, fun _ => some (.bool true)), (11, fun _ => some (.bool true)), (12, fun _ => some (.bool false))] [(21, { val := some (.pv (.bool false)) })] ?_; iterate 2 (try dsimp only [schedP, go_sem]))
        refine aw_seq ?_
        refine aw_seq (aw_regX (T := [(7, fun _ => some (.bool true)), (11, fun _ => some (.bool true)), (12, fun _ => some (.bool false))]) (H := [(21, { val := some (.pv (.bool false)) })]) ?_)
        dsimp only [schedP, go_sem]
        try dsimp only [schedP, go_sem]
        refine ⟨(by simp [vb, hA, hsm, htk, hv] <;> omega), (by simp [vb, hA, hsm, htk, hv] <;> omega), ?_⟩
        refine evTH [(7, fun _ => some (.bool true)), (11, fun _ => some (.bool true)), (12, fun _ => some (.bool false))] [(21, { val := some (.pv (.bool false)) })] ?_
        dsimp only [schedP, go_sem]
        refine ⟨fun _ => ?_, fun h => by simp at h <;> omega⟩
        repeat' (first
          | ((with_reducible first | show VCs _ | show All _); simp [vb] <;> omega)
          | exact (rfl : some _ = _)
          | (fail_if_success refine awL ?_
             refine evA ?_
             repeat1' dsimp only [c5, go_sem]
             first
             | refine aw4 ?_ ?_ rfl ?_
             | apply aw3
             | apply aw2
             | (refine awB (fun hc => ?_) fun hc => ?_ <;> first | (cases hc; done) | (exfalso; simp at hc <;> omega) | (try simp only [bn] at hc; try contradiction))
             | skip))
theorem splits_typed (qs : List PV) (h : TypedAll Tryz.prog 1048576 [27, 3] qs) : PureOK ctx 5 qs (.bool true) := by
 match qs, h with
 | [p, q], h =>
  obtain ⟨h1, h2, -⟩ := h
  obtain ⟨s, rfl, hB⟩ := tSched h1
  obtain ⟨n, h3⟩ := ty_leaf h2 (fun fs h => by rw [Tryz.underlying3] at h; cases h)
  obtain ⟨x, hx, -⟩ := tInt h3
  simp at hx
  subst hx
  exact splits_ok s hB x
end
end Pur
end Go.Proofs.YteokbngllldmdaaGreatDoor
namespace Go.Proofs.YteokbngllldmdaaGreatDoor.lawSplits
open Go.ChangeShapes Go.WideShapes Go.ChangeAt Go.RowKit
theorem contract (H : Type) (enc : TypeId × Value → H) (W : World) (base : Nat) (args : Array Value) (ds gs : List (DataW H)) (before : List MemPlace)
  (hval : ∀ (j : Nat) t v, Tryz.f5.params[j]? = some t → args[j]? = some v → Value.okWide Tryz.prog W .any base t v)
  (hW : DataW.Whole enc Tryz.prog Tryz.f5.params.toList Rows.scheduleSplitsSpec.vars false W args.toList ds gs before) (hk : Rows.uptoSmall H (ds ++ gs) = true) (hL : laidMetH Tryz.prog Rows.scheduleSplitsUptoRow.laid W) (hsh : W.ShapedOpen Tryz.prog) :
  Calls Tryz.prog 5 args W fun e W' => ∃ v, e = .returned v ∧ Rows.scheduleSplitsSpec.post enc Tryz.prog Tryz.f5 false true false false W args v W' := by
 have hW' := hW
 obtain ⟨p, q, hA0, hV, rfl, hfz, hnd⟩ := hW
 have hA : DataW.TrodAll enc Tryz.prog W 0 (fun _ => true) true [27, 3] args.toList ds p := hA0
 obtain ⟨rfl, rfl⟩ := trodVars_none hV
 obtain ⟨qs, hty, hps⟩ := Pur.open_all (B := 1048576) (Sm := (fun d : DataW H => Rows.uptoBulk d ≤ 1048576)) Pur.Meas.upto (L := [27, 3, 9, 23, 24, 53, 4, 25, 41, 39, 55]) (r := .any) (b := base) (by kernel_rfl) [27, 3] args.toList ds p (of_decide_eq_true rfl) (fun j t v h1 h2 => hval j t v (by
  rw [Tryz.params5, List.getElem?_toArray]; exact h1) (by rw [Array.getElem?_toList] at h2; exact h2)) hA (fun d hd => Pur.upto_all hk d (List.mem_append_left _ hd))
 have hst : ∀ (W' : World) (sp : Nat → Bool), Below W.heap.size W W' → (∀ x ∈ p ++ [], sp x.block = true) → DataW.TrodAll enc Tryz.prog W' 0 sp true [27, 3] args.toList ds p := fun W' sp hb hsp =>
  Pur.stay_all (by kernel_rfl) _ _ _ _ (of_decide_eq_true (by kernel_rfl)) (fun x hx => Pur.same_below hb (hW'.lt x (List.mem_append_left _ hx))) (fun x hx => hsp x (List.mem_append_left _ hx)) hA
 have hE := Cd.env_of hL hsh
 obtain ⟨v0, vs0, d0, ds0, p0, q0, hargs, rfl, hp0, h0, r0⟩ := trodAll_cons hA
 obtain ⟨v1, vs1, d1, ds1, p1, q1, rfl, rfl, hp1, h1, r1⟩ := trodAll_cons r0
 obtain ⟨rfl, rfl, rfl⟩ := trodAll_nil r1
 obtain rfl : args = #[v0, v1] := by cases args; simp_all
 refine ((Pur.splits_typed qs hty).2 W (Pur.Here W) [v0, v1] hE (fun g h => h) hps).mono fun e W' hh => ?_
 obtain ⟨v, he, hb, hv⟩ := hh
 have := Pur.is_bool_inv hv
 subst this
 subst he
 exact ⟨_, rfl, post_below (pa := p) (pv := []) hW' (fun _ _ _ => trodAll_cons_mk (shut_bool Tryz.underlying4 _) trodAll_mk0)
  (fun sp hsp => hst W' sp hb hsp) (fun _ _ => rfl) rfl
  hb (ok_one (by kernel_rfl) rfl (okWide_bool_mk Tryz.underlying4 _))⟩
def start : Array Value := #[.agg #[.int .i64 0, .int .i64 0, .int .i64 0, .int .i64 0, .slice none 0 0, .slice none 0 0, .slice none 0 0], .int .i64 0]
theorem met (os : Os) : laidMet Tryz.prog Rows.scheduleSplitsUptoRow.laid ((World.laidAll Tryz.prog os Rows.scheduleSplitsUptoRow.laid).forCall (fun _ _ => 0) ⟨#[], start, []⟩).memory :=
 laidMet_laidAll _ (by kernel_rfl) (by kernel_rfl)
theorem reads (os : Os) {H : Type} (enc : TypeId × Value → H) : ∃ places, DataW.whole enc Tryz.prog ((World.laidAll Tryz.prog os Rows.scheduleSplitsUptoRow.laid).forCall (fun _ _ => 0) ⟨#[], start, []⟩).memory Tryz.f5.params.toList Rows.scheduleSplitsSpec.vars false start.toList 8 = some ([.agg [.lit (.int .i64 0), .lit (.int .i64 0), .lit (.int .i64 0), .lit (.int .i64 0), .nil, .nil, .nil], .lit (.int .i64 0)], [], places) :=
 ⟨[], by kernel_rfl⟩
set_option maxRecDepth 100000 in
theorem lifted (os : Os) (started : os.Started) (H : Type) (enc : TypeId × Value → H) (F : Stop.Interp) :
  ReturnsInHanded {} Tryz.checked os 5 .any ((Rows.OpenSpec.upto Rows.scheduleSplitsSpec).preRow enc Tryz.prog Tryz.f5 Rows.scheduleSplitsUptoRow.domain false Rows.scheduleSplitsUptoRow.laid) (((Rows.OpenSpec.upto Rows.scheduleSplitsSpec).at F).post enc Tryz.prog Tryz.f5 false true false false) := by
 obtain ⟨places, hx⟩ := reads os enc
 refine returnsInHanded_of_row (C := Tryz.checked) (s := (Rows.OpenSpec.upto Rows.scheduleSplitsSpec)) Cd.own started (by kernel_rfl) Tryz.func5
  (witness_row_atRef (enc := enc) (C := Tryz.checked) false (World.laidAll Tryz.prog os Rows.scheduleSplitsUptoRow.laid) start (World.laidAll_os _ _ _) (by kernel_rfl) (by kernel_rfl) (by kernel_rfl)
   (OpenSpec.preRow_of_cond 8 hx (by kernel_rfl) (fun k hk => by cases hk; kernel_rfl) (by kernel_rfl) (met os))) ?_
 intro W base args ds gs before hval hW _ hk _ hL hsh _
 exact contract H enc W base args ds gs before hval hW (hk _ rfl) hL hsh
theorem said : Rows.ScheduleSplitsUptoSaid :=
 OpenClaim.holds_of_cond 5 Tryz.f5 rfl rfl rfl rfl rfl rfl rfl ⟨rfl, rfl, rfl, rfl, rfl⟩ rfl rfl rfl rfl rfl (by kernel_rfl) Tryz.func5 (by kernel_rfl)
  (of_decide_eq_true (by kernel_rfl)) (by unfold Func.isWrapper; rw [if_neg (of_decide_eq_false (by kernel_rfl))]; exact ⟨rfl, rfl⟩)
  (fun os started H enc _ F => by rw [OpenClaim.pre_eq_preRow]; exact lifted os started H enc F)
theorem plain (f : FuncId) (fn : Func) (hf : Tryz.pinned.checked.prog.funcNamed "confluent/confluentlaw51.ScheduleSplits" = some f) (hfn : Tryz.pinned.checked.prog.funcs[f]? = some fn) :
  true = Tryz.pinned.checked.prog.looks [] ∧ ∀ (j : Nat) t, fn.params[j]? = some t → Tryz.pinned.checked.prog.wantsStandIn t = false := by
 obtain rfl : f = 5 := Option.some.inj ((show Tryz.prog.funcNamed "confluent/confluentlaw51.ScheduleSplits" = some 5 by kernel_rfl).symm.trans hf) |>.symm
 obtain rfl : fn = Tryz.f5 := (Option.some.inj (Tryz.func5.symm.trans hfn)).symm
 refine ⟨by kernel_rfl, fun j t ht => ?_⟩
 rw [Tryz.params5] at ht
 have hm := Array.mem_of_getElem? ht
 simp only [List.mem_toArray, List.mem_cons, List.not_mem_nil, or_false] at hm
 rcases hm with rfl | rfl
 ·exact (by kernel_rfl : Tryz.prog.wantsStandIn 27 = false)
 ·exact (by kernel_rfl : Tryz.prog.wantsStandIn 3 = false)
theorem proved : Rows.ScheduleSplitsUptoCardSaid :=
 Claim7.holds_tied_plain_at .later [] _ _ _ _ said (fun _ h => by cases h) (by kernel_rfl) (fun _ h => by cases h) scheduleSplitsUpto_row_tie rfl ⟨rfl, rfl⟩ (by kernel_rfl) rfl plain (by kernel_rfl)
end Go.Proofs.YteokbngllldmdaaGreatDoor.lawSplits
