/-
  A part of the proof. (PsK PsL PsM PsN PsO PtK PtL PtM PtN PtO PlA PsQ PsR PsS PsU)
-/
import Derived.Test.YteokbngllldmdaaGreatDoorP04
import Derived.Shelf.Strings.FuncGrows
set_option maxRecDepth 10000
set_option linter.unusedSimpArgs false
set_option linter.unusedVariables false
namespace Go.Proofs.YteokbngllldmdaaGreatDoor
namespace Pur
open Go.RowKit
attribute [local go_sem] evOps evOp evOpV evRun evK argF List.map hintAt stripped get put tmpsOf tmpOf tmpO tmpL tmpP conds ev cond_true cond_false Nat.beq Nat.ble Nat.add quiet After thenR blockR IfD List.append_eq List.nil_append List.cons_append evInt exactI_a exactI_b exactI_c exactI_d exactI_e exactI_f evBin evStr evBool evUn guardC calm quiet.isCallK evPick List.getElem?_cons_zero List.getElem?_cons_succ fromCells fromPVs cellsOf List.all oneCell List.length_cons List.length_nil mkAgg plains List.drop List.take List.getD Option.getD_some bo1 bo2 ba1 ba2 bn1 bn2 kk_i64 kk_u8 kk_i32 kk_u64 setAt List.set Nat.reduceAdd Nat.reduceMul evCall safeCall refsOf refsIn scalarA scalar scalarL thawL mapAll thawArg thawRef after freeze RetD RetE evResult evRess evRes1 thaw_pv mkTup nilOf_a nilOf_b nilOf_bb nilOf_c nilOf_d nilOf_e nilOf_f nilOf_g nilOf_h nilOf_i nilOf_j nilOf_k nilOf_l nilOf_m eqLeaf_a eqLeaf_b eqLeaf_c eqOffs evMM bytesOf evOpsF AfterF footOf footRefs notIn indepF footAt freeOk still evParts fillA zeros intOfA boundA srcOf List.isEmpty appNil_0 appNil_1 appNil_2 Int.reduceToNat Nat.mul_one Nat.reduceSub evC evOpsT evOpsTF autoH tabHint look hintD strip guarded RetPD RetRD mpLen keysOk leafKA leafK bitI nilOf_n nilOf_o Bool.or_false Bool.or_true Bool.and_true Bool.and_false Nat.blt renF renM renB renV idxOf solF solM solA solV thawRef ev1
section
open Sch
open Pl
open Go.Proofs (PredGrows below_drewNg)
theorem is_words {w : World} {S : Nat → Prop} {g cap : Nat} {xs : List ByteArray} (hS : S g) (hn : xs.length ≤ cap) (hm : cap ≤ maxLen) (hc : ∀ (i : Nat) x, xs[i]? = some x → w.cell? ⟨g, i, none⟩ = some (.string x)) :
  Is w S (wordsP (xs.map (·.data.toList))) (.slice (some ⟨g, 0, none⟩) xs.length cap) := by
 unfold wordsP
 rw [List.length_map, List.map_map]
 refine .sl xs.length _ g 0 cap (fun i => .string (xs.getD i ByteArray.empty)) hS hn hm (fun i p hp => ?_) (fun i p hp => rfl) (fun i p hp => ?_)
 ·rw [List.getElem?_map] at hp
  obtain ⟨x, hx, rfl⟩ := Option.map_eq_some_iff.mp hp
  rw [Nat.zero_add, hc i x hx]
  simp [List.getD, hx]
 ·rw [List.getElem?_map] at hp
  obtain ⟨x, hx, rfl⟩ := Option.map_eq_some_iff.mp hp
  simp only [List.getD, hx, Option.getD_some, Function.comp_apply]
  exact is_str w S x
theorem split_ok (s : List UInt8) (c : UInt8) (hs : s.length ≤ 4000000000) : PureOK ctx 20 [.str s, .str [c]] (wordsP (splitOn c s)) := by
 refine ⟨by kernel_rfl, fun w S vs hE hS hp => ?_⟩
 obtain ⟨v, u, rfl, hv, hu⟩ := pw2 hp
 have := is_str_inv hv
 subst this
 have := is_str_inv hu
 subst this
 obtain ⟨m, hm⟩ := hE.ml
 have hsz : (⟨s.toArray⟩ : ByteArray).size = s.length := by simp [ByteArray.size]
 have h1 : 1 ≤ (⟨[c].toArray⟩ : ByteArray).size := by simp [ByteArray.size]
 have hle := Lib.countB_le ⟨[c].toArray⟩ h1 s.length ⟨s.toArray⟩ (by omega)
 have hlen := Lib.splitB_all ⟨[c].toArray⟩ h1 0 _ ⟨s.toArray⟩ rfl
 have hlist : (Lib.splitB ⟨[c].toArray⟩ 0 (Lib.countB ⟨s.toArray⟩ ⟨[c].toArray⟩) ⟨s.toArray⟩).map (·.data.toList) = splitOn c s := splitB_lists c _ ⟨s.toArray⟩ (Nat.le_refl _)
 refine (Tryz.strings_Split ⟨s.toArray⟩ ⟨[c].toArray⟩ m w (by omega) hm h1).mono fun e w' ⟨he, hw⟩ => ⟨_, he, ?_, ?_⟩
 ·rw [hw]; exact (Below.refl _ _).alloc (Nat.le_refl _) _
 ·rw [← hlist]
  have hsl := is_words (w := w') (S := fun g => S g ∨ (w.heap.size ≤ g ∧ g < w'.heap.size)) (g := w.heap.size) (cap := Lib.countB ⟨s.toArray⟩ ⟨[c].toArray⟩ + 1) (xs := Lib.splitB ⟨[c].toArray⟩ 0 (Lib.countB ⟨s.toArray⟩ ⟨[c].toArray⟩) ⟨s.toArray⟩) (.inr ⟨Nat.le_refl _, by rw [hw]; simp⟩) (by omega) (by simp only [maxLen]; omega) (fun i x hx => by
   rw [hw, World.cell?, heap_alloc_new]
   simp [hx])
  rw [hlen] at hsl
  exact hsl
theorem cut_ok (s : List UInt8) (c : UInt8) (hs : s.length ≤ 4000000000) : PureOK ctx 26 [.str s, .str [c]] (.tup [.str (upTo c s), .str (Lib.cut s [c]).2.1, .bool (Lib.cut s [c]).2.2]) := by
 refine PureOK.of_calls (by kernel_rfl) fun w S vs hE hS hp => ?_
 obtain ⟨v, u, rfl, hv, hu⟩ := pw2 hp
 have := is_str_inv hv
 subst this
 have := is_str_inv hu
 subst this
 obtain ⟨m, hm⟩ := hE.ml
 have hsz : (⟨s.toArray⟩ : ByteArray).size = s.length := by simp [ByteArray.size]
 refine (Tryz.strings_Cut ⟨s.toArray⟩ ⟨[c].toArray⟩ m w (by omega) hm).mono fun e w' ⟨he, n, hw⟩ => ⟨_, he, ?_, fun _ _ => ?_⟩
 ·rw [hw]; exact below_drewNg w n
 ·rw [← cut_one]
  exact .tup _ [_, _, _] rfl fun i p v hp hv => by
   match i, hp, hv with
   | 0, hp, hv => simp at hp hv; subst hp hv; exact .str _
   | 1, hp, hv => simp at hp hv; subst hp hv; exact .str _
   | 2, hp, hv => simp at hp hv; subst hp hv; exact .bool _
def c28 : ACode := (⟨_, by conv => (lhs; reduce; try simp only [lt1, Int.cast_ofNat_Int, Int.reduceNegSucc, UInt8.reduceOfNat])⟩ : {x // codeOf Tryz.prog 28 (fun _ => false) = some x}).1
theorem fn28 : fnOf Tryz.prog 28 (fun _ => false) = some (c28, [.t 2], 5, true) := by kernel_rfl
theorem blank_ok (n : Int) : PureOK ctx 28 [.int .i32 n] (.bool (n == 32)) := by
 refine pure_body' (C := ctx) (Fn.of fn28 rfl) rfl ?_
 unfold c28
 iterate 5 first
  | refine ⟨by simp [vb] <;> omega, by simp [vb] <;> omega, ?_⟩
  | (refine evA ?_; iterate 2 (try dsimp only [go_sem]))
 exact ⟨trivial, rfl⟩
theorem ufields_ok (s : List UInt8) (hs : s.length ≤ 4000000000) : PureOK ctx 27 [.str s, .val (.func (.func 28) #[] #[])] (wordsP (wordsOn 32 s)) := by
 refine ⟨by kernel_rfl, fun w S vs hE hS hp => ?_⟩
 obtain ⟨v, u, rfl, hv, hu⟩ := pw2 hp
 have := is_str_inv hv
 subst this
 have hu' : u = .func (.func 28) #[] #[] := by cases hu; rfl
 subst hu'
 have hsz : (⟨s.toArray⟩ : ByteArray).size = s.length := by simp [ByteArray.size]
 have hpred : PredGrows Tryz.prog 28 #[] (fun x => x == 32) w := fun W x hx hb => by
  have hb2 := blank_ok (x : Int)
  have hEW : Env W := hE.below hb
  have hc := hb2.2 W (fun _ => False) [.int .i32 x] hEW (fun _ h => h.elim) ⟨rfl, fun i a b ha hb => by
   match i, ha, hb with
   | 0, ha, hb => simp at ha hb; subst ha hb; exact .int _ _⟩
  show Calls Tryz.prog 28 #[.int .i32 x] W _
  refine hc.mono ?_
  rintro e w' ⟨v, he, hB, hv⟩
  refine ⟨?_, hB⟩
  rw [he]
  cases hv
  congr 2
  rw [Bool.eq_iff_iff]
  simp
  omega
 refine (Tryz.strings_FieldsFunc_grows 28 #[] (fun args w => run_callFunc (C := ctx) (by kernel_rfl) args) (fun x => x == 32) ⟨s.toArray⟩ w (by omega) hpred).mono fun e w' ⟨A, he, hA, hrow, hb⟩ => ⟨_, he, hb, ?_⟩
 have hlist := fields_words ⟨s.toArray⟩
 rw [show (⟨s.toArray⟩ : ByteArray).data.toList = s from rfl] at hlist
 rw [← hlist]
 rcases hrow.2 with ⟨hv, h0⟩ | ⟨g, cap, cur, hv, hg, hw, h1, h2, h3, h4⟩
 ·cases hv
 ·injection hv with hv1 hv2 hv3
  injection hv1 with hv1
  injection hv1 with hv1
  subst hv1
  refine is_words (.inr ⟨hA, Whole.lt (t := 9) (cs := cur) hw⟩) (Nat.le_refl _) (by omega) fun i x hx => ?_
  have hlt : i < (Lib.goFieldsP (fun x => x == 32) ⟨s.toArray⟩).length := (List.getElem?_eq_some_iff.mp hx).1
  rw [Whole.cell (t := 9) (cs := cur) hw]
  have : cur.toList[i]? = (cur.toList.take ((Lib.goFieldsP (fun x => x == 32) ⟨s.toArray⟩).length * 1))[i]? := by rw [List.getElem?_take_of_lt (by omega)]
  rw [← Array.getElem?_toList, this, h4]
  simp [hx]
end
section
open Sch
open Pl
def c8 : ACode := (⟨_, by conv => (lhs; reduce; try simp only [lt1, Int.cast_ofNat_Int, Int.reduceNegSucc, UInt8.reduceOfNat])⟩ : {x // codeOf Tryz.prog 8 (fun _ => false) = some x}).1
theorem fn8 : fnOf Tryz.prog 8 (fun _ => false) = some (c8, [.cell 2 7 true, .t 3, .t 4], 91, true) := by kernel_rfl
def pLoop : ACode := (⟨_, by conv => (lhs; reduce; try simp only [lt1, Int.cast_ofNat_Int, Int.reduceNegSucc, UInt8.reduceOfNat])⟩ : {x // c8.sub [1, 1, 1, 1, 1, 0, 1, 0] = x}).1
def pRead : ACode := (⟨_, by conv => (lhs; reduce; try simp only [lt1, Int.cast_ofNat_Int, Int.reduceNegSucc, UInt8.reduceOfNat])⟩ : {x // c8.sub [1, 1, 1, 1, 1, 0, 1, 0, 0, 1, 1, 0, 0, 1, 1, 1, 1] = x}).1
def pBad : ACode := (⟨_, by conv => (lhs; reduce; try simp only [lt1, Int.cast_ofNat_Int, Int.reduceNegSucc, UInt8.reduceOfNat])⟩ : {x // c8.sub [1, 1, 1, 1, 1, 0, 1, 0, 0, 1, 1, 0, 0, 1, 1, 1, 1, 1, 1, 1, 0] = x}).1
def pAsk : ACode := (⟨_, by conv => (lhs; reduce; try simp only [lt1, Int.cast_ofNat_Int, Int.reduceNegSucc, UInt8.reduceOfNat])⟩ : {x // c8.sub [1, 1, 1, 1, 1, 0, 1, 0, 0, 1, 1, 0, 0, 1, 1, 1, 1, 1, 1] = x}).1
def fateW : List UInt8 := [102, 97, 116, 101]
def atW : List UInt8 := [97, 116]
def lineP (next : Nat) (s : Sched) (w0 : List UInt8) (r : List (List UInt8)) : Option (Nat × Sched) :=
 if next < 4 then match headOf next w0 r with
  | some [n] => if between n (headLo next) (headHi next) then some (next + 1, setHead s next n) else none
  | _ => none
 else if next = 4 then match headOf 4 w0 r with
  | some ns => if decide (ns.length ≤ 128) && allIn ns (-1000000) 1000000 then some (5, { s with state := ns }) else none
  | none => none
 else if w0 == fateW then match fateOf (w0 :: r) with
  | some f => if s.steps.isEmpty && (decide (s.fates.length + 1 ≤ 256) && fateOk f) then some (5, { s with fates := s.fates ++ [f] }) else none
  | none => none
 else if w0 == atW then match stepOf r with
  | some x => if follows s x then some (5, { s with steps := s.steps ++ [x] }) else none
  | none => none
 else none
def stOf (next : Nat) (s : Sched) : PV := if next < 5 then .nilsl else intsP s.state
structure PInv (next : Nat) (s : Sched) : Prop where
 n5 : next ≤ 5
 e1 : next < 5 → s.fates = [] ∧ s.steps = [] ∧ s.state = []
 r : 1 ≤ next → between s.replicas 1 5 = true
 q : 2 ≤ next → between s.sessions 0 8 = true
 c : 3 ≤ next → between s.sectors 8 2048 = true
 t : 4 ≤ next → between s.ticks 0 1048576 = true
 f : s.fates.length ≤ 256
 p : s.steps.length ≤ 65536
 a : s.state.length ≤ 128
theorem PInv.mild {s : Sched} (h : PInv 5 s) : Mild s := by
 have h1 := h.r (by omega)
 have h2 := h.q (by omega)
 have h3 := h.t (by omega)
 simp only [between, Bool.and_eq_true, decide_eq_true_eq] at h1 h2 h3
 exact ⟨by omega, by omega, by omega, by omega, by omega, by omega⟩
def errP (k : Int) : PV := .tup [.agg [.int .i64 0, .int .i64 0, .int .i64 0, .int .i64 0, .nilsl, .nilsl, .nilsl], .int .i64 k, .int .i64 3]
abbrev parseRes : List ARes := [.cell 2 7 true, .t 3, .t 4]
theorem bad_end (R : Exit → AF → AM → Prop) (own : Nat → Bool) (m i : Nat) (hi : i ≤ 1000000) (tl : AM) (h : ∀ f μ, RetD μ (errP (i + 1)) (evResult f μ parseRes) → R .ret f μ) :
  Aw ctx own 91 m pBad R [(2, .ptr 0 0 0), (8, .pv (.int .i64 i))] (resB :: tl) := by
 unfold pBad
 refine evA ?_
 dsimp only [resB, go_sem]
 try dsimp only [resB, go_sem]
 refine ⟨(by simp [vb] <;> omega), (by simp [vb] <;> omega), ?_⟩
 refine evA ?_
 dsimp only [go_sem]
 refine h _ _ ?_
 dsimp only [go_sem]
 exact ⟨(by first | exact True.intro | (simp only [vb, lb]; omega) | (simp [vb] <;> omega)), rfl⟩
theorem read_call (R : Exit → AF → AM → Prop) (own : Nat → Bool) (ls : List (List UInt8)) (m i : Nat) (hi : i ≤ 1000000) (ws : List (List UInt8)) (g : FuncId) (μ μ' : AM) (b : Bool) (hc : RefOK ctx g [.ptr 1 0 0, .pv (wordsP ws)] μ (.pv (.bool b)) μ') (hb : b = false → ∃ tl, μ' = resB :: tl)
  (hbad : b = false → ∀ f μ, RetD μ (errP (i + 1)) (evResult f μ parseRes) → R .ret f μ) (hgood : b = true → ∀ f, Sub [(2, .ptr 0 0 0), (5, .ptr 1 0 0), (6, .map 2 0), (7, .pv (wordsP ls)), (26, .pv (wordsP ls)), (27, .pv (.int .i64 ls.length)), (28, .pv (.int .i64 i))] f → R .normal f μ') :
  Aw ctx own 91 m pAsk R [(2, .ptr 0 0 0), (5, .ptr 1 0 0), (6, .map 2 0), (8, .pv (.int .i64 i)), (10, .pv (wordsP ws)), (11, .bm g [.ptr 1 0 0]), (7, .pv (wordsP ls)), (26, .pv (wordsP ls)), (27, .pv (.int .i64 ls.length)), (28, .pv (.int .i64 i))] μ := by
 refine aw_seq (aw_regX (T := []) (H := [(61, { val := some (.pv (.bool b)), mem := some μ' })]) ?_)
 dsimp only [go_sem]
 try dsimp only [go_sem]
 refine ⟨(by simp [vb, hc] <;> omega), (by simp [vb, hc] <;> omega), ?_⟩
 cases b with
 | true =>
  refine evA ?_
  dsimp only [go_sem]
  refine ⟨fun h => by simp at h <;> omega, fun _ => ?_⟩
  refine evA ?_
  dsimp only [go_sem]
  exact hgood rfl _ ⟨rfl, rfl, rfl, rfl, rfl, rfl, rfl, trivial⟩
 | false =>
  obtain ⟨tl, rfl⟩ := hb rfl
  refine evA ?_
  dsimp only [go_sem]
  refine ⟨fun _ => ?_, fun h => by simp at h <;> omega⟩
  exact aw_frame [(2, .ptr 0 0 0), (8, .pv (.int .i64 i))] ⟨rfl, rfl, trivial⟩ (bad_end R own m i hi tl (hbad rfl))
end
section
open Sch
open Pl
theorem headOf_one {k : Nat} {w0 : List UInt8} {l : List (List UInt8)} {ns : List Int} (h : headOf k w0 l = some ns) (hk : k < 4) : ∃ n, ns = [n] := by
 unfold headOf at h
 split at h
 ·split at h
  ·rename_i hq
   injection h with h
   subst h
   simp only [Bool.and_eq_true, Bool.or_eq_true, decide_eq_true_eq, beq_iff_eq] at hq
   exact len1 (by omega)
  ·cases h
 ·cases h
theorem headOf_len {k : Nat} {w0 : List UInt8} {l : List (List UInt8)} {ns : List Int} (h : headOf k w0 l = some ns) : ns.length = l.length := by
 unfold headOf at h
 split at h
 ·rename_i m hm
  split at h
  ·injection h with h
   subst h
   exact numsOf_len hm
  ·cases h
 ·cases h
abbrev lineF (ls : List (List UInt8)) (i : Nat) (ws : List (List UInt8)) : AF := [(2, .ptr 0 0 0), (5, .ptr 1 0 0), (6, .map 2 0), (8, .pv (.int .i64 i)), (10, .pv (wordsP ws)), (7, .pv (wordsP ls)), (26, .pv (wordsP ls)), (27, .pv (.int .i64 ls.length)), (28, .pv (.int .i64 i))]
set_option maxHeartbeats 4000000 in
theorem read_line (R : Exit → AF → AM → Prop) (own : Nat → Bool) (ls : List (List UInt8)) (m i : Nat) (hi : i ≤ 1000000) (next : Nat) (s : Sched) (hP : PInv next s) (w0 : List UInt8) (r : List (List UInt8)) (hm : (w0 :: r).length ≤ 100000) (hw : ∀ x ∈ w0 :: r, x.length ≤ 281474976710656)
  (hbad : lineP next s w0 r = none → ∀ f μ, RetD μ (errP (i + 1)) (evResult f μ parseRes) → R .ret f μ)
  (hgood : ∀ n' s', lineP next s w0 r = some (n', s') → ∀ f, Sub [(2, .ptr 0 0 0), (5, .ptr 1 0 0), (6, .map 2 0), (7, .pv (wordsP ls)), (26, .pv (wordsP ls)), (27, .pv (.int .i64 ls.length)), (28, .pv (.int .i64 i))] f → R .normal f (rdM s' (stOf n' s') n')) :
  Aw ctx own 91 m pRead R (lineF ls i (w0 :: r)) (rdM s (stOf next s) next) := by
 have hm2 := hm
 simp only [List.length_cons] at hm2
 unfold pRead
 by_cases h5 : next < 5
 ·obtain ⟨e1, e2, e3⟩ := hP.e1 h5
  obtain ⟨a, b, c, d, e, fs, ss⟩ := s
  simp only at e1 e2 e3
  subst e1 e2 e3
  have hst : ∀ x, stOf next x = .nilsl := fun x => by simp [stOf, h5]
  rw [hst]
  have hn5 : ((next : Int) == 5) = false := by simp; omega
  refine evA ?_
  dsimp only [rdM, readerB, go_sem]
  try dsimp only [rdM, readerB, go_sem]
  refine ⟨(by simp [vb] <;> omega), (by simp [vb] <;> omega), ?_⟩
  refine evA ?_
  dsimp only [rdM, readerB, go_sem]
  try dsimp only [rdM, readerB, go_sem]
  refine ⟨(by simp [vb] <;> omega), (by simp [vb] <;> omega), ?_⟩
  rw [hn5]
  refine evA ?_
  dsimp only [go_sem]
  refine ⟨fun h => by simp at h <;> omega, fun _ => ?_⟩
  refine evA ?_
  dsimp only [go_sem]
  refine aw_frame [(2, .ptr 0 0 0), (5, .ptr 1 0 0), (6, .map 2 0), (8, .pv (.int .i64 i)), (10, .pv (wordsP (w0 :: r))), (11, .bm 29 [.ptr 1 0 0]), (7, .pv (wordsP ls)), (26, .pv (wordsP ls)), (27, .pv (.int .i64 ls.length)), (28, .pv (.int .i64 i))] ⟨rfl, rfl, rfl, rfl, rfl, rfl, rfl, rfl, rfl, rfl, trivial⟩ ?_
  cases ho : headOf next w0 r with
  | none =>
   have hl : lineP next ⟨a, b, c, d, [], [], []⟩ w0 r = none := by
    by_cases h4 : next < 4
    ·simp [lineP, h4, ho]
    ·have : next = 4 := by omega
     subst this
     simp [lineP, ho]
   exact read_call R own ls m i hi (w0 :: r) _ _ _ false (head_none a b c d .nilsl next h5 w0 r (by omega) hw ho) (fun _ => ⟨_, rfl⟩) (fun _ => hbad hl) (fun h => by cases h)
  | some ns =>
   by_cases h4 : next < 4
   ·obtain ⟨n, rfl⟩ := headOf_one ho h4
    have hl : lineP next ⟨a, b, c, d, [], [], []⟩ w0 r = if between n (headLo next) (headHi next) then some (next + 1, setHead ⟨a, b, c, d, [], [], []⟩ next n) else none := by simp only [lineP, h4, if_true, ho]
    refine read_call R own ls m i hi (w0 :: r) _ _ _ _ (head_num a b c d .nilsl next h4 w0 r (by omega) hw n ho) (fun _ => ⟨_, rfl⟩) (fun hb => hbad (by rw [hl, hb]; rfl)) fun hb f hf => ?_
    have := hgood _ _ (by rw [hl, hb]; rfl) f hf
    have hs2 : stOf (next + 1) (setHead ⟨a, b, c, d, [], [], []⟩ next n) = .nilsl := by simp [stOf]; omega
    rw [hs2] at this
    exact this
   ·have : next = 4 := by omega
    subst this
    have hlen := headOf_len ho
    have hl : lineP 4 ⟨a, b, c, d, [], [], []⟩ w0 r = if (decide (ns.length ≤ 128) && allIn ns (-1000000) 1000000) = true then some (5, ⟨a, b, c, d, ns, [], []⟩) else none := by simp [lineP, ho]
    refine read_call R own ls m i hi (w0 :: r) _ _ _ _ (head_state a b c d .nilsl w0 r (by omega) hw ns (by omega) ho) (fun _ => ⟨_, rfl⟩) (fun hb => hbad (by rw [hl, hb]; rfl)) fun hb f hf => ?_
    exact hgood _ _ (by rw [hl, hb]; rfl) f hf
 ·have : next = 5 := by have := hP.n5; omega
  subst this
  have hst : ∀ x : Sched, stOf 5 x = intsP x.state := fun x => rfl
  rw [hst]
  cases hq : w0 == fateW with
  | true =>
   have hq2 := hq
   simp only [fateW] at hq2
   refine evA ?_
   dsimp only [rdM, readerB, go_sem]
   try dsimp only [rdM, readerB, go_sem]
   refine ⟨(by simp [vb] <;> omega), (by simp [vb] <;> omega), ?_⟩
   refine evA ?_
   dsimp only [rdM, readerB, go_sem]
   try dsimp only [rdM, readerB, go_sem]
   refine ⟨(by simp [vb] <;> omega), (by simp [vb] <;> omega), ?_⟩
   refine evH [(54, { val := some (.pv (.str w0)) }), (55, { val := some (.bm 24 [.ptr 1 0 0]) })] ?_
   dsimp only [wordsP, mapB, go_sem]
   refine ⟨fun _ => ?_, fun h => by simp at h <;> omega⟩
   refine evH [(54, { val := some (.pv (.str w0)) }), (55, { val := some (.bm 24 [.ptr 1 0 0]) })] ?_
   dsimp only [wordsP, mapB, go_sem]
   try dsimp only [wordsP, mapB, go_sem]
   refine ⟨(by simp [vb, mpGet, eqKey, hq2] <;> omega), (by simp [vb, mpGet, eqKey, hq2] <;> omega), ?_⟩
   refine aw_frame [(2, .ptr 0 0 0), (5, .ptr 1 0 0), (6, .map 2 0), (8, .pv (.int .i64 i)), (10, .pv (wordsP (w0 :: r))), (11, .bm 24 [.ptr 1 0 0]), (7, .pv (wordsP ls)), (26, .pv (wordsP ls)), (27, .pv (.int .i64 ls.length)), (28, .pv (.int .i64 i))] ⟨rfl, rfl, rfl, rfl, rfl, rfl, rfl, rfl, rfl, rfl, trivial⟩ ?_
   have hl : lineP 5 s w0 r = match fateOf (w0 :: r) with
    | some f => if (s.steps.isEmpty && (decide (s.fates.length + 1 ≤ 256) && fateOk f)) = true then some (5, { s with fates := s.fates ++ [f] }) else none
    | none => none := by
    unfold lineP
    rw [if_neg (by omega), if_neg (by omega), if_pos hq]
    all_goals (cases fateOf (w0 :: r) <;> rfl)
   have hfl := hP.f
   cases hf : fateOf (w0 :: r) with
   | none =>
    rw [hf] at hl
    exact read_call R own ls m i hi (w0 :: r) _ _ _ false (fate_ok s (intsP s.state) 5 w0 r (by omega) hw (by omega) false _ (rdM_ok _ _ _) (Nat.le_refl _) (fun _ => ⟨rfl, rfl⟩) fun f h => by rw [hf] at h; cases h) (fun _ => ⟨_, rfl⟩) (fun _ => hbad hl) (fun h => by cases h)
   | some f =>
    rw [hf] at hl
    simp only at hl
    by_cases hss : s.steps = []
    ·have hse : s.steps.isEmpty = true := by simp [hss]
     rw [hse, Bool.true_and] at hl
     refine read_call R own ls m i hi (w0 :: r) _ _ _ _ (fate_ok s (intsP s.state) 5 w0 r (by omega) hw (by omega) (decide (s.fates.length + 1 ≤ 256) && fateOk f) _ (rdM_ok { s with fates := s.fates ++ [f] } (intsP s.state) 5) ?_ (fun h => by rw [hf] at h; cases h) fun f' h own' => ?_) (fun _ => ⟨_, rfl⟩) (fun hb => hbad (by rw [hl, hb]; rfl)) fun hb f' hf' => ?_
     ·obtain ⟨a, b, c, d, e, fs, ss⟩ := s
      cases fs <;> simp [rdM, fatesB]
     ·rw [hf] at h; injection h with h; subst h
      exact fate_tail s (intsP s.state) 5 f (by omega) hss own' _ rfl
     ·exact hgood _ _ (by rw [hl, hb]; rfl) f' hf'
    ·have hse : s.steps.isEmpty = false := by simp [hss]
     rw [hse, Bool.false_and] at hl
     simp only [Bool.false_eq_true, if_false] at hl
     obtain ⟨μ', ⟨tl, hμ⟩, h1, h2, h3⟩ := fate_tail_late s (intsP s.state) 5 f (by omega) hss
     refine read_call R own ls m i hi (w0 :: r) _ _ μ' false (fate_ok s (intsP s.state) 5 w0 r (by omega) hw (by omega) false μ' h1 h2 (fun h => by rw [hf] at h; cases h) fun f' h own' => ?_) (fun _ => ⟨tl, hμ⟩) (fun _ => hbad hl) (fun h => by cases h)
     rw [hf] at h; injection h with h; subst h
     exact h3 own'
  | false =>
   cases hq1 : w0 == atW with
   | true =>
    have hq2 := hq
    have hq3 := hq1
    simp only [fateW] at hq2
    simp only [atW] at hq3
    refine evA ?_
    dsimp only [rdM, readerB, go_sem]
    try dsimp only [rdM, readerB, go_sem]
    refine ⟨(by simp [vb] <;> omega), (by simp [vb] <;> omega), ?_⟩
    refine evA ?_
    dsimp only [rdM, readerB, go_sem]
    try dsimp only [rdM, readerB, go_sem]
    refine ⟨(by simp [vb] <;> omega), (by simp [vb] <;> omega), ?_⟩
    refine evH [(54, { val := some (.pv (.str w0)) }), (55, { val := some (.bm 25 [.ptr 1 0 0]) })] ?_
    dsimp only [wordsP, mapB, go_sem]
    refine ⟨fun _ => ?_, fun h => by simp at h <;> omega⟩
    refine evH [(54, { val := some (.pv (.str w0)) }), (55, { val := some (.bm 25 [.ptr 1 0 0]) })] ?_
    dsimp only [wordsP, mapB, go_sem]
    try dsimp only [wordsP, mapB, go_sem]
    refine ⟨(by simp [vb, mpGet, eqKey, hq2, hq3] <;> omega), (by simp [vb, mpGet, eqKey, hq2, hq3] <;> omega), ?_⟩
    refine aw_frame [(2, .ptr 0 0 0), (5, .ptr 1 0 0), (6, .map 2 0), (8, .pv (.int .i64 i)), (10, .pv (wordsP (w0 :: r))), (11, .bm 25 [.ptr 1 0 0]), (7, .pv (wordsP ls)), (26, .pv (wordsP ls)), (27, .pv (.int .i64 ls.length)), (28, .pv (.int .i64 i))] ⟨rfl, rfl, rfl, rfl, rfl, rfl, rfl, rfl, rfl, rfl, trivial⟩ ?_
    have hl : lineP 5 s w0 r = match stepOf r with
     | some x => if follows s x = true then some (5, { s with steps := s.steps ++ [x] }) else none
     | none => none := by
     unfold lineP
     rw [if_neg (by omega), if_neg (by omega), if_neg (by rw [hq]; simp), if_pos hq1]
     all_goals (cases stepOf r <;> rfl)
    have hS := step_ok s w0 r hm hw hP.mild (by have := hP.p; omega)
    cases hx : stepOf r with
    | none =>
     rw [hx] at hl hS
     exact read_call R own ls m i hi (w0 :: r) _ _ _ false hS (fun _ => ⟨_, rfl⟩) (fun _ => hbad hl) (fun h => by cases h)
    | some x =>
     rw [hx] at hl hS
     simp only at hl hS
     by_cases hf : follows s x = true
     ·rw [if_pos hf] at hl hS
      exact read_call R own ls m i hi (w0 :: r) _ _ _ true hS (fun h => by cases h) (fun h => by cases h) fun _ f' hf' => hgood _ _ hl f' hf'
     ·rw [if_neg hf] at hl hS
      exact read_call R own ls m i hi (w0 :: r) _ _ _ false hS (fun _ => ⟨_, rfl⟩) (fun _ => hbad hl) (fun h => by cases h)
   | false =>
    have hq2 := hq
    have hq3 := hq1
    simp only [fateW] at hq2
    simp only [atW] at hq3
    have hl : lineP 5 s w0 r = none := by simp [lineP, hq, hq1]
    refine evA ?_
    dsimp only [rdM, readerB, go_sem]
    try dsimp only [rdM, readerB, go_sem]
    refine ⟨(by simp [vb] <;> omega), (by simp [vb] <;> omega), ?_⟩
    refine evA ?_
    dsimp only [rdM, readerB, go_sem]
    try dsimp only [rdM, readerB, go_sem]
    refine ⟨(by simp [vb] <;> omega), (by simp [vb] <;> omega), ?_⟩
    refine evH [(54, { val := some (.pv (.str w0)) }), (55, { val := some (.pv (.val .nilFunc)) })] ?_
    dsimp only [wordsP, mapB, go_sem]
    refine ⟨fun _ => ?_, fun h => by simp at h <;> omega⟩
    refine evH [(54, { val := some (.pv (.str w0)) }), (55, { val := some (.pv (.val .nilFunc)) })] ?_
    dsimp only [wordsP, mapB, go_sem]
    try dsimp only [wordsP, mapB, go_sem]
    refine ⟨(by simp [vb, mpGet, eqKey, hq2, hq3] <;> omega), (by simp [vb, mpGet, eqKey, hq2, hq3] <;> omega), ?_⟩
    refine aw_seq (aw_regX (T := []) (H := []) ?_)
    dsimp only [go_sem]
    try dsimp only [go_sem]
    refine ⟨(by simp [vb] <;> omega), (by simp [vb] <;> omega), ?_⟩
    refine evA ?_
    dsimp only [go_sem]
    refine ⟨fun _ => ?_, fun h => by simp at h <;> omega⟩
    exact aw_frame [(2, .ptr 0 0 0), (8, .pv (.int .i64 i))] ⟨rfl, rfl, trivial⟩ (bad_end R own m i hi _ (hbad hl))
end
section
open Sch
open Pl
def parseGo : List (List UInt8) → Nat → Nat → Sched → Sum Nat (Nat × Sched)
 | [], _, next, s => .inr (next, s)
 | ln :: r, i, next, s => match wordsOn 32 (upTo 35 ln) with
  | [] => parseGo r (i + 1) next s
  | w0 :: ws => match lineP next s w0 ws with
   | none => .inl (i + 1)
   | some (n', s') => parseGo r (i + 1) n' s'
theorem lineP_inv {next n' : Nat} {s s' : Sched} {w0 : List UInt8} {r : List (List UInt8)} (hP : PInv next s) (h : lineP next s w0 r = some (n', s')) : PInv n' s' := by
 unfold lineP at h
 split at h
 ·rename_i h4
  split at h
  ·rename_i n hn
   split at h
   ·rename_i hb
    injection h with h
    injection h with h1 h2
    subst h1 h2
    obtain ⟨e1, e2, e3⟩ := hP.e1 (by omega)
    match next, h4 with
    | 0, _ => exact ⟨by omega, fun _ => ⟨e1, e2, e3⟩, fun _ => hb, fun h => by omega, fun h => by omega, fun h => by omega, hP.f, hP.p, hP.a⟩
    | 1, _ => exact ⟨by omega, fun _ => ⟨e1, e2, e3⟩, fun _ => hP.r (by omega), fun _ => hb, fun h => by omega, fun h => by omega, hP.f, hP.p, hP.a⟩
    | 2, _ => exact ⟨by omega, fun _ => ⟨e1, e2, e3⟩, fun _ => hP.r (by omega), fun _ => hP.q (by omega), fun _ => hb, fun h => by omega, hP.f, hP.p, hP.a⟩
    | 3, _ => exact ⟨by omega, fun _ => ⟨e1, e2, e3⟩, fun _ => hP.r (by omega), fun _ => hP.q (by omega), fun _ => hP.c (by omega), fun _ => hb, hP.f, hP.p, hP.a⟩
   ·cases h
  ·cases h
 ·split at h
  ·rename_i h4 h5
   subst h5
   split at h
   ·rename_i ns hn
    split at h
    ·rename_i hb
     injection h with h
     injection h with h1 h2
     subst h1 h2
     simp only [Bool.and_eq_true, decide_eq_true_eq] at hb
     exact ⟨by omega, fun h => by omega, fun _ => hP.r (by omega), fun _ => hP.q (by omega), fun _ => hP.c (by omega), fun _ => hP.t (by omega), hP.f, hP.p, hb.1⟩
    ·cases h
   ·cases h
  ·rename_i h4 h5
   have : next = 5 := by have := hP.n5; omega
   subst this
   split at h
   ·split at h
    ·rename_i f hf
     split at h
     ·rename_i hb
      injection h with h
      injection h with h1 h2
      subst h1 h2
      simp only [Bool.and_eq_true, decide_eq_true_eq] at hb
      exact ⟨by omega, fun h => by omega, hP.r, hP.q, hP.c, hP.t, by simp; omega, hP.p, hP.a⟩
     ·cases h
    ·cases h
   ·split at h
    ·split at h
     ·rename_i x hx
      split at h
      ·rename_i hb
       injection h with h
       injection h with h1 h2
       subst h1 h2
       simp only [follows, Bool.and_eq_true, decide_eq_true_eq] at hb
       exact ⟨by omega, fun h => by omega, hP.r, hP.q, hP.c, hP.t, hP.f, by simp; omega, hP.a⟩
      ·cases h
     ·cases h
    ·cases h
theorem PInv.zero : PInv 0 zeroSched := ⟨by omega, fun _ => ⟨rfl, rfl, rfl⟩, fun h => by omega, fun h => by omega, fun h => by omega, fun h => by omega, by simp [zeroSched], by simp [zeroSched], by simp [zeroSched]⟩
def lineInv (ls : List (List UInt8)) (k : Nat) (f : AF) (μ' : AM) : Prop :=
 ∃ todo done next s, ls = done ++ todo ∧ k = todo.length ∧ PInv next s ∧ parseGo ls 0 0 zeroSched = parseGo todo done.length next s ∧ μ' = rdM s (stOf next s) next ∧
  Sub [(2, .ptr 0 0 0), (5, .ptr 1 0 0), (6, .map 2 0), (7, .pv (wordsP ls)), (26, .pv (wordsP ls)), (27, .pv (.int .i64 ls.length)), (28, .pv (.int .i64 done.length))] f
theorem line_at {l done r : List (List UInt8)} {c : List UInt8} (h : l = done ++ c :: r) : (l.map PV.str)[done.length]? = some (.str c) := by simp [h]
set_option maxHeartbeats 4000000 in
theorem parse_loop (R : Exit → AF → AM → Prop) (own : Nat → Bool) (m : Nat) (ls : List (List UInt8)) (hn : ls.length ≤ 100000) (hl : ∀ l ∈ ls, l.length ≤ 65536)
  (hbad : ∀ k, parseGo ls 0 0 zeroSched = .inl k → ∀ f μ, RetD μ (errP k) (evResult f μ parseRes) → R .ret f μ)
  (hgood : ∀ next s, parseGo ls 0 0 zeroSched = .inr (next, s) → PInv next s → ∀ f, Sub [(2, .ptr 0 0 0), (5, .ptr 1 0 0), (7, .pv (wordsP ls))] f → R (.exit 0) f (rdM s (stOf next s) next)) :
  Aw ctx own 91 m pLoop R [(2, .ptr 0 0 0), (5, .ptr 1 0 0), (6, .map 2 0), (7, .pv (wordsP ls)), (26, .pv (wordsP ls)), (27, .pv (.int .i64 ls.length)), (28, .pv (.int .i64 0))] (rdM zeroSched .nilsl 0) := by
 unfold pLoop
 refine aw_loop (lineInv ls) ?_ ls.length ⟨ls, [], 0, zeroSched, rfl, rfl, PInv.zero, rfl, rfl, rfl, rfl, rfl, rfl, rfl, rfl, rfl, trivial⟩
 rintro k f μ' ⟨todo, done, next, s, hx, rfl, hP, hgo, rfl, hs⟩
 refine aw_frame _ hs ?_
 clear hs
 have hxl : ls.length = done.length + todo.length := by rw [hx, List.length_append]
 generalize hM : rdM s (stOf next s) next = M
 refine evA ?_
 dsimp only [go_sem]
 try dsimp only [go_sem]
 refine ⟨(by simp [vb] <;> omega), (by simp [vb] <;> omega), ?_⟩
 refine evA ?_
 dsimp only [go_sem]
 refine ⟨fun hc => ?_, fun hc => ?_⟩
 ·match todo, hx, hxl, hgo with
  | [], hx, hxl, hgo => simp at hc hxl; omega
  | ln :: r, hx, hxl, hgo =>
   simp only [List.length_cons] at hxl
   have hlc := line_at hx
   have hll := hl ln (by simp [hx])
   have hC := cut_ok ln 35 (by omega)
   have hul := upTo_len 35 ln
   have hF := ufields_ok (upTo 35 ln) (by omega)
   have hwl := wordsOn_len 32 (upTo 35 ln)
   have hwm := wordsOn_mem 32 (upTo 35 ln)
   generalize hws : wordsOn 32 (upTo 35 ln) = ws at *
   unfold wordsP at hF
   have et : ((done.length : Int)).toNat = done.length := by omega
   refine evH [(32, { val := some (.pv (.str ln)) })] ?_
   dsimp only [wordsP, go_sem]
   refine evH [(32, { val := some (.pv (.str ln)) })] ?_
   dsimp only [wordsP, go_sem]
   try dsimp only [wordsP, go_sem]
   refine ⟨(by simp [vb] <;> omega), ?_, ?_⟩
   ·simp [All, VCs, hlc]
   refine evT [(26, fun _ => some (.tup [.str (upTo 35 ln), .str (Lib.cut ln [35]).2.1, .bool (Lib.cut ln [35]).2.2]))] ?_
   dsimp only [go_sem]
   try dsimp only [go_sem]
   refine ⟨(by simp [vb, hC] <;> omega), (by simp [vb, hC] <;> omega), ?_⟩
   refine evT [(27, fun _ => some (.sl ws.length (ws.map .str)))] ?_
   dsimp only [go_sem]
   try dsimp only [go_sem]
   refine ⟨(by simp [vb, hF] <;> omega), (by simp [vb, hF] <;> omega), ?_⟩
   refine evA ?_
   dsimp only [go_sem]
   try dsimp only [go_sem]
   refine ⟨(by simp [vb] <;> omega), (by simp [vb] <;> omega), ?_⟩
   have hnext : ∀ n' s', PInv n' s' → parseGo ls 0 0 zeroSched = parseGo r (done.length + 1) n' s' → ∀ f μ, μ = rdM s' (stOf n' s') n' → Sub [(2, .ptr 0 0 0), (5, .ptr 1 0 0), (6, .map 2 0), (7, .pv (wordsP ls)), (26, .pv (wordsP ls)), (27, .pv (.int .i64 ls.length)), (28, .pv (.int .i64 (done.length + 1)))] f → ∃ j, j < r.length + 1 ∧ lineInv ls j f μ :=
    fun n' s' hP' hg f μ hμ hf => ⟨r.length, by omega, r, done ++ [ln], n', s', by simp [hx], rfl, hP', by simpa using hg, hμ, by simpa using hf⟩
   cases ws with
   | nil =>
    have hg2 : parseGo ls 0 0 zeroSched = parseGo r (done.length + 1) next s := by
     rw [hgo]
     simp only [parseGo, hws]
    iterate 5 first
     | refine ⟨fun _ => ?_, fun h => by simp at h <;> omega⟩
     | refine ⟨by simp [vb] <;> omega, by simp [vb] <;> omega, ?_⟩
     | (refine evA ?_; iterate 2 (try dsimp only [go_sem]))
    exact hnext next s hP hg2 _ _ hM.symm ⟨rfl, rfl, rfl, rfl, rfl, rfl, rfl, trivial⟩
   | cons w0 wr =>
    have hg2 : parseGo ls 0 0 zeroSched = match lineP next s w0 wr with
     | none => .inl (done.length + 1)
     | some (n', s') => parseGo r (done.length + 1) n' s' := by
     rw [hgo]
     simp only [parseGo, hws]
    refine evA ?_
    dsimp only [go_sem]
    refine ⟨fun h => by simp at h <;> omega, fun _ => ?_⟩
    refine evA ?_
    dsimp only [go_sem]
    rw [← hM]
    refine aw_frame (lineF ls done.length (w0 :: wr)) ⟨rfl, rfl, rfl, rfl, rfl, rfl, rfl, rfl, rfl, trivial⟩ ?_
    refine read_line _ own ls m done.length (by omega) next s hP w0 wr (by omega) (fun x hx2 => by have := hwm x hx2; omega) (fun hlp f μ hret => ?_) fun n' s' hlp f hf => ?_
    ·refine hbad (done.length + 1) (by rw [hg2, hlp]) f μ ?_
     simpa using hret
    ·refine aw_frame _ hf ?_
     rw [hlp] at hg2
     generalize hM2 : rdM s' (stOf n' s') n' = M2
     refine evA ?_
     dsimp only [go_sem]
     try dsimp only [go_sem]
     refine ⟨(by simp [vb] <;> omega), (by simp [vb] <;> omega), ?_⟩
     exact hnext n' s' (lineP_inv hP hlp) hg2 _ _ hM2.symm ⟨rfl, rfl, rfl, rfl, rfl, rfl, rfl, trivial⟩
 ·have ht : todo = [] := by
   have : ¬ ((done.length : Int) < (ls.length : Int)) := by simpa using hc
   exact List.eq_nil_of_length_eq_zero (by omega)
  subst ht
  refine evA ?_
  dsimp only [go_sem]
  rw [← hM]
  exact hgood next s (by rw [hgo]; rfl) hP _ ⟨rfl, rfl, rfl, trivial⟩
end
section
open Sch
open Pl
def parseP (text : List UInt8) : Sched × Int × Int :=
 if 65536 < text.length then (zeroSched, 0, 8) else
 match parseGo (splitOn 10 text) 0 0 zeroSched with
 | .inl k => (zeroSched, k, 3)
 | .inr (next, s) => if next < 5 then (zeroSched, (if (splitOn 10 text).getD ((splitOn 10 text).length - 1) [] == [] then (splitOn 10 text).length else (splitOn 10 text).length + 1 : Nat), 3) else (s, 0, 0)
def okP (s : Sched) : PV := .tup [schedN s (intsP s.state), .int .i64 0, .int .i64 0]
def parseV (text : List UInt8) : PV :=
 if 65536 < text.length then .tup [.agg [.int .i64 0, .int .i64 0, .int .i64 0, .int .i64 0, .nilsl, .nilsl, .nilsl], .int .i64 0, .int .i64 8] else
 match parseGo (splitOn 10 text) 0 0 zeroSched with
 | .inl k => errP k
 | .inr (next, s) => if next < 5 then errP (if (splitOn 10 text).getD ((splitOn 10 text).length - 1) [] == [] then (splitOn 10 text).length else (splitOn 10 text).length + 1 : Nat) else okP s
theorem thaw_row2 {μ : AM} {d b g n sz : Nat} {e : TypeId} {fz : Bool} {ps : List PV} (hk : μ[b]? = some ⟨ps.map .pv, g, sz, e, fz⟩) (hz : Nat.beq sz 0 = false) (hl : ps.length = n * sz) : thaw μ (d + 2) (.ref b g 0 n) = some (.sl n ps) := by
 refine thaw_row hk hz rfl ?_ (by simp [hl])
 rw [List.drop_zero, List.take_of_length_le (by simp [hl])]
theorem thaw_fatesA {μ : AM} {d : Nat} {fs : List Fate} (h : ∀ k, (fatesB fs)[0]? = some k → μ[3]? = some k) : thaw μ (d + 2) (fatesA fs) = some (fatesN fs) := by
 cases fs with
 | nil => rfl
 | cons f r => exact thaw_row2 (h _ rfl) rfl (by rw [flatMap_length fateC_len]; simp)
theorem thaw_stepsA {μ : AM} {d b : Nat} {ss : List Step} (h : ∀ k, (stepsB ss)[0]? = some k → μ[b]? = some k) : thaw μ (d + 2) (stepsA b ss) = some (stepsN ss) := by
 cases ss with
 | nil => rfl
 | cons f r => exact thaw_row2 (h _ rfl) rfl (by rw [flatMap_length stepC_len]; simp)
theorem thaw_res (a b c d : Int) (st : PV) (fs : List Fate) (ss : List Step) (k0 k1 k2 : Blk) (x y : PV) :
  thaw (k0 :: k1 :: k2 :: (fatesB fs ++ stepsB ss)) depth (mkTup [mkAgg [.pv (.int .i64 a), .pv (.int .i64 b), .pv (.int .i64 c), .pv (.int .i64 d), .pv st, fatesA fs, stepsA (3 + (fatesB fs).length) ss], .pv x, .pv y]) =
   some (.tup [.agg [.int .i64 a, .int .i64 b, .int .i64 c, .int .i64 d, st, fatesN fs, stepsN ss], x, y]) := by
 have h1 : ∀ e, thaw (k0 :: k1 :: k2 :: (fatesB fs ++ stepsB ss)) (e + 2) (fatesA fs) = some (fatesN fs) := fun e => thaw_fatesA fun k hk => by
  have : (fatesB fs).length = 1 := by
   cases fs with
   | nil => simp [fatesB] at hk
   | cons => rfl
  simp only [List.getElem?_cons_succ]
  rw [List.getElem?_append_left (by omega)]
  exact hk
 have h2 : ∀ e, thaw (k0 :: k1 :: k2 :: (fatesB fs ++ stepsB ss)) (e + 2) (stepsA (3 + (fatesB fs).length) ss) = some (stepsN ss) := fun e => thaw_stepsA fun k hk => by
  have : 1 ≤ (stepsB ss).length := by
   cases ss with
   | nil => simp [stepsB] at hk
   | cons => simp [stepsB]
  simp only [Nat.add_comm 3, List.getElem?_cons_succ]
  rw [List.getElem?_append_right (Nat.le_refl _), Nat.sub_self]
  exact hk
 have h0 : ∀ e p, thaw (k0 :: k1 :: k2 :: (fatesB fs ++ stepsB ss)) (e + 1) (.pv p) = some p := fun _ _ => rfl
 have hA : ∀ e, thaw (k0 :: k1 :: k2 :: (fatesB fs ++ stepsB ss)) (e + 4) (.tup [.agg [.pv (.int .i64 a), .pv (.int .i64 b), .pv (.int .i64 c), .pv (.int .i64 d), .pv st, fatesA fs, stepsA (3 + (fatesB fs).length) ss], .pv x, .pv y]) = some (.tup [.agg [.int .i64 a, .int .i64 b, .int .i64 c, .int .i64 d, st, fatesN fs, stepsN ss], x, y]) := fun e => by
  simp only [thaw_tup, thaw_agg, mapAll, h0, h1, h2]
 cases fs with
 | nil =>
  cases ss with
  | nil => rfl
  | cons y yr => exact hA 4
 | cons f fr => exact hA 4
theorem getD_last {ls : List (List UInt8)} (h : ls ≠ []) : ls[ls.length - 1]? = some (ls.getD (ls.length - 1) []) := by
 have : 0 < ls.length := List.length_pos_iff.mpr h
 rw [List.getElem?_eq_getElem (by omega)]
 simp [List.getD, List.getElem?_eq_getElem (show ls.length - 1 < ls.length by omega)]
set_option maxHeartbeats 4000000 in
theorem parse_raw (text : List UInt8) (ht : text.length ≤ 4000000000) : PureOK ctx 8 [.str text] (parseV text) := by
 generalize hres : parseV text = res
 unfold parseV at hres
 refine pure_body' (C := ctx) (Fn.of fn8 rfl) rfl ?_
 unfold c8
 by_cases h : 65536 < text.length
 ·rw [if_pos h] at hres
  subst hres
  iterate 8 first
   | refine ⟨fun _ => ?_, fun h => by simp at h <;> omega⟩
   | refine ⟨by simp [vb] <;> omega, by simp [vb] <;> omega, ?_⟩
   | (refine evA ?_; iterate 2 (try dsimp only [go_sem]))
  refine evA ?_
  dsimp only [go_sem]
  exact ⟨(by first | exact True.intro | (simp only [vb, lb]; omega) | (simp [vb] <;> omega)), rfl⟩
 ·rw [if_neg h] at hres
  have hS := split_ok text 10 ht
  have hne := splitOn_ne 10 text
  have hlen := splitOn_len 10 text
  have hmem := splitOn_mem 10 text
  generalize hls : splitOn 10 text = ls at *
  iterate 11 first
   | refine ⟨fun h => by simp at h <;> omega, fun _ => ?_⟩
   | refine ⟨by simp [vb, eqKey] <;> omega, by simp [vb, eqKey] <;> omega, ?_⟩
   | (refine evA ?_; iterate 2 (try dsimp only [mpHas, go_sem]))
  refine evT [(20, fun _ => some (wordsP ls))] ?_
  dsimp only [go_sem]
  try dsimp only [go_sem]
  refine ⟨(by simp [vb, hS] <;> omega), (by simp [vb, hS] <;> omega), ?_⟩
  refine aw_seq ?_
  refine evA ?_
  dsimp only [wordsP, go_sem]
  try dsimp only [wordsP, go_sem]
  refine ⟨(by simp [vb] <;> omega), (by simp [vb] <;> omega), ?_⟩
  refine aw_block ?_
  refine aw_frame [(2, .ptr 0 0 0), (5, .ptr 1 0 0), (6, .map 2 0), (7, .pv (wordsP ls)), (26, .pv (wordsP ls)), (27, .pv (.int .i64 ls.length)), (28, .pv (.int .i64 0))] ⟨rfl, rfl, rfl, rfl, rfl, rfl, rfl, trivial⟩ ?_
  refine parse_loop _ _ _ ls (by omega) (fun l hl => by have := hmem l hl; omega) (fun k hk f μ hret => ?_) fun next s hk hP f hf => ?_
  ·rw [hk] at hres
   subst hres
   exact hret
  ·rw [hk] at hres
   refine aw_frame _ hf ?_
   simp only at hres
   have hlst := getD_last hne
   generalize hlast : ls.getD (ls.length - 1) [] = last at *
   have hpos : 0 < ls.length := List.length_pos_iff.mpr hne
   by_cases h5 : next < 5
   ·rw [if_pos h5] at hres
    subst hres
    obtain ⟨e1, e2, e3⟩ := hP.e1 h5
    obtain ⟨a, b, c, d, e, fs, ss⟩ := s
    simp only at e1 e2 e3
    subst e1 e2 e3
    have hst : ∀ x, stOf next x = .nilsl := fun x => by simp [stOf, h5]
    rw [hst]
    have hn5 : decide ((next : Int) < 5) = true := by simp; omega
    refine evA ?_
    dsimp only [rdM, readerB, go_sem]
    try dsimp only [rdM, readerB, go_sem]
    refine ⟨(by simp [vb] <;> omega), (by simp [vb] <;> omega), ?_⟩
    rw [hn5]
    refine evH [(78, { val := some (.pv (.str last)) })] ?_
    dsimp only [wordsP, go_sem]
    refine ⟨fun _ => ?_, fun h => by simp at h <;> omega⟩
    refine evH [(78, { val := some (.pv (.str last)) })] ?_
    dsimp only [wordsP, go_sem]
    try dsimp only [wordsP, go_sem]
    refine ⟨(by simp [vb] <;> omega), ?_, ?_⟩
    ·simp [All, VCs, hlst]
    cases hq : last == [] with
    | true =>
     refine evA ?_
     dsimp only [wordsP, resB, go_sem]
     refine ⟨fun _ => ?_, fun h => by simp at h <;> omega⟩
     refine evA ?_
     dsimp only [wordsP, resB, go_sem]
     try dsimp only [wordsP, resB, go_sem]
     refine ⟨(by simp [vb] <;> omega), (by simp [vb] <;> omega), ?_⟩
     refine evA ?_
     dsimp only [go_sem]
     exact ⟨(by first | exact True.intro | (simp only [vb, lb]; omega) | (simp [vb] <;> omega)), rfl⟩
    | false =>
     iterate 5 first
      | refine ⟨fun h => by simp at h <;> omega, fun _ => ?_⟩
      | refine ⟨by simp [vb] <;> omega, by simp [vb] <;> omega, ?_⟩
      | (refine evA ?_; iterate 2 (try dsimp only [wordsP, resB, go_sem]))
     refine evA ?_
     dsimp only [go_sem]
     exact ⟨(by first | exact True.intro | (simp only [vb, lb]; omega) | (simp [vb] <;> omega)), rfl⟩
   ·rw [if_neg h5] at hres
    subst hres
    have : next = 5 := by have := hP.n5; omega
    subst this
    obtain ⟨a, b, c, d, e, fs, ss⟩ := s
    have hst : stOf 5 ⟨a, b, c, d, e, fs, ss⟩ = intsP e := rfl
    rw [hst]
    cases fs with
    | nil =>
     cases ss with
     | nil =>
      iterate 7 first
       | refine ⟨fun h => by simp at h <;> omega, fun _ => ?_⟩
       | refine ⟨by simp [vb] <;> omega, by simp [vb] <;> omega, ?_⟩
       | (refine evA ?_; iterate 2 (try dsimp only [rdM, readerB, resB, fatesA_nil, fatesB_nil, stepsA_nil, stepsB_nil, go_sem]))
      refine evA ?_
      dsimp only [go_sem]
      exact ⟨(by first | exact True.intro | (simp only [vb, lb]; omega) | (simp [vb] <;> omega)), rfl⟩
     | cons y yr =>
      iterate 7 first
       | refine ⟨fun h => by simp at h <;> omega, fun _ => ?_⟩
       | refine ⟨by simp [vb] <;> omega, by simp [vb] <;> omega, ?_⟩
       | (refine evA ?_; iterate 2 (try dsimp only [rdM, readerB, resB, fatesA_nil, fatesB_nil, stepsA_cons, stepsB_cons, go_sem]))
      refine evA ?_
      dsimp only [go_sem]
      exact ⟨(by first | exact True.intro | (simp only [vb, lb]; omega) | (simp [vb] <;> omega)), thaw_res a b c d (intsP e) [] (y :: yr) _ _ _ _ _⟩
    | cons f0 fr =>
     cases ss with
     | nil =>
      iterate 7 first
       | refine ⟨fun h => by simp at h <;> omega, fun _ => ?_⟩
       | refine ⟨by simp [vb] <;> omega, by simp [vb] <;> omega, ?_⟩
       | (refine evA ?_; iterate 2 (try dsimp only [rdM, readerB, resB, fatesA_cons, fatesB_cons, stepsA_nil, stepsB_nil, go_sem]))
      refine evA ?_
      dsimp only [go_sem]
      exact ⟨(by first | exact True.intro | (simp only [vb, lb]; omega) | (simp [vb] <;> omega)), thaw_res a b c d (intsP e) (f0 :: fr) [] _ _ _ _ _⟩
     | cons y yr =>
      iterate 7 first
       | refine ⟨fun h => by simp at h <;> omega, fun _ => ?_⟩
       | refine ⟨by simp [vb] <;> omega, by simp [vb] <;> omega, ?_⟩
       | (refine evA ?_; iterate 2 (try dsimp only [rdM, readerB, resB, fatesA_cons, fatesB_cons, stepsA_cons, stepsB_cons, go_sem]))
      refine evA ?_
      dsimp only [go_sem]
      exact ⟨(by first | exact True.intro | (simp only [vb, lb]; omega) | (simp [vb] <;> omega)), thaw_res a b c d (intsP e) (f0 :: fr) (y :: yr) _ _ _ _ _⟩
theorem parse_ok (text : List UInt8) (ht : text.length ≤ 4000000000) : PureOK ctx 8 [.str text] (.tup [schedP (parseP text).1, .int .i64 (parseP text).2.1, .int .i64 (parseP text).2.2]) := by
 have h := (parse_raw text ht).canon_res 4
 have hz : ∀ x y : Int, canon 4 (.tup [.agg [.int .i64 0, .int .i64 0, .int .i64 0, .int .i64 0, .nilsl, .nilsl, .nilsl], .int .i64 x, .int .i64 y]) = .tup [schedP zeroSched, .int .i64 x, .int .i64 y] := fun _ _ => rfl
 have ho : ∀ s, canon 4 (okP s) = .tup [schedP s, .int .i64 0, .int .i64 0] := fun s => by
  have : canon 4 (okP s) = .tup [canon 3 (schedN s (intsP s.state)), .int .i64 0, .int .i64 0] := rfl
  rw [this, canon_sched]
 unfold parseV errP at h
 unfold parseP
 split at h
 ·rename_i h1
  rw [if_pos h1]
  rw [hz] at h
  exact h
 ·rename_i h1
  rw [if_neg h1]
  split at h
  ·rename_i k hk
   rw [hz] at h
   exact h
  ·rename_i next s hk
   split at h
   ·rename_i h5
    rw [hz] at h
    simp only [h5, if_true]
    exact h
   ·rename_i h5
    rw [ho] at h
    simp only [h5, if_false]
    exact h
end
section
open Sch
def c9 : ACode := (⟨_, by conv => (lhs; reduce; try simp only [lt1, Int.cast_ofNat_Int, Int.reduceNegSucc, UInt8.reduceOfNat])⟩ : {x // codeOf Tryz.prog 9 (fun _ => false) = some x}).1
theorem fn9 : fnOf Tryz.prog 9 (fun _ => false) = some (c9, [.cell 2 7 true, .t 3, .t 4], 161, true) := by kernel_rfl
def c9end : ACode := (⟨_, by conv => (lhs; reduce; try simp only [lt1, Int.cast_ofNat_Int, Int.reduceNegSucc, UInt8.reduceOfNat])⟩ : {x // c9.sub [1, 1, 1, 1, 1, 1, 0, 1, 0, 0, 1, 0, 0, 1, 1, 1, 1] = x}).1
def fatesG (b : Nat) : List Fate → AV
 | [] => .pv .nilsl
 | _ :: r => .ref b r.length 0 (r.length + 1)
theorem fatesG_nil (b : Nat) : fatesG b [] = .pv .nilsl := rfl
theorem fatesG_cons (b : Nat) (x : Fate) (r : List Fate) : fatesG b (x :: r) = .ref b r.length 0 (r.length + 1) := rfl
def rpB (a b c d : Int) (st f p : AV) : Blk := ⟨[.pv (.int .i64 a), .pv (.int .i64 b), .pv (.int .i64 c), .pv (.int .i64 d), st, f, p], 0, 7, 27, false⟩
def rpM (s : Sched) (st : PV) : AM := resB :: rpB s.replicas s.sessions s.sectors s.ticks (.pv st) (fatesG 2 s.fates) (stepsA (2 + (fatesB s.fates).length) s.steps) :: (fatesB s.fates ++ stepsB s.steps)
theorem rpM_ok (s : Sched) (st : PV) : okMem (rpM s st) (rpM s st).length = true := by
 obtain ⟨a, b, c, d, e, fs, ss⟩ := s
 cases fs <;> cases ss <;> simp [okMem, rpM, resB, rpB, fatesG, fatesB, stepsA, stepsB, bnd, Nat.blt, fateC, stepC]
theorem thaw_fatesG {μ : AM} {fs : List Fate} {b : Nat} (h : ∀ k, (fatesB fs)[0]? = some k → μ[b]? = some k) : thawRef μ (fatesG b fs) = some (fatesN fs) := by
 cases fs with
 | nil => rfl
 | cons f r => exact row_ref (h _ rfl) (by simp) (by rw [flatMap_length fateC_len]; simp)
theorem thaw_fatesG2 {μ : AM} {d b : Nat} {fs : List Fate} (h : ∀ k, (fatesB fs)[0]? = some k → μ[b]? = some k) : thaw μ (d + 2) (fatesG b fs) = some (fatesN fs) := by
 cases fs with
 | nil => rfl
 | cons f r => exact thaw_row2 (h _ rfl) rfl (by rw [flatMap_length fateC_len]; simp)
theorem rpM_fates (s : Sched) (st : PV) (tl : AM) : ∀ k, (fatesB s.fates)[0]? = some k → (rpM s st ++ tl)[2]? = some k := fun k hk => by
 have : (fatesB s.fates).length = 1 := by
  cases hf : s.fates with
  | nil => rw [hf] at hk; simp [fatesB] at hk
  | cons => rfl
 simp only [rpM, List.cons_append, List.getElem?_cons_succ]
 rw [List.append_assoc, List.getElem?_append_left (by omega)]
 exact hk
theorem rpM_steps (s : Sched) (st : PV) (tl : AM) : ∀ k, (stepsB s.steps)[0]? = some k → (rpM s st ++ tl)[2 + (fatesB s.fates).length]? = some k := fun k hk => by
 have : 1 ≤ (stepsB s.steps).length := by
  cases hf : s.steps with
  | nil => rw [hf] at hk; simp [stepsB] at hk
  | cons => simp [stepsB]
 simp only [rpM, List.cons_append, Nat.add_comm 2, List.getElem?_cons_succ]
 rw [List.append_assoc, List.getElem?_append_right (Nat.le_refl _), Nat.sub_self, List.getElem?_append_left (by omega)]
 exact hk
theorem thaw_rp (s : Sched) (st : PV) : thawL (rpM s st) [.agg [.pv (.int .i64 s.replicas), .pv (.int .i64 s.sessions), .pv (.int .i64 s.sectors), .pv (.int .i64 s.ticks), .pv st, fatesG 2 s.fates, stepsA (2 + (fatesB s.fates).length) s.steps]] = some [schedN s st] := by
 have h1 := thaw_fatesG (rpM_fates s st [])
 have h2 := thaw_steps (rpM_steps s st [])
 have h0 : ∀ p, thawRef (rpM s st) (.pv p) = some p := fun _ => rfl
 rw [List.append_nil] at h1 h2
 simp only [thawL, mapAll, thawArg, h1, h2, h0]
 rfl
theorem refValid_raw (s : Sched) (st : PV) (hst : canon 2 st = intsP s.state) (h : ∀ x ∈ s.steps, Few x) (h1 : s.state.length ≤ 1000000) (h2 : s.fates.length ≤ 1000000) (h3 : s.steps.length ≤ 1000000) : PureOK ctx 35 [schedN s st] (.bool (refValidB s)) := by
 refine PureOK.canon_args 3 ?_
 simp only [List.map_cons, List.map_nil]
 have : canon 3 (schedN s st) = schedP s := by
  simp only [schedN, canon_agg, schedP, List.map_cons, List.map_nil, canon_int, canon_fates, canon_steps, hst]
 rw [this]
 exact refValid_ok s h h1 h2 h3
def headsP : PV := wordsP [headName 0, headName 1, headName 2, headName 3, headName 4]
abbrev rpF (d : Nat) (ls : List (List UInt8)) (i : Nat) : AF := [(2, .ptr 0 0 0), (5, .ptr 1 0 0), (6, .pv headsP), (7, .pv (.int .i64 d)), (8, .pv (wordsP ls)), (9, .pv (.int .i64 i))]
set_option maxHeartbeats 4000000 in
theorem rp_end (s : Sched) (st : PV) (hst : canon 2 st = intsP s.state) (h : ∀ x ∈ s.steps, Few x) (h1 : s.state.length ≤ 1000000) (h2 : s.fates.length ≤ 1000000) (h3 : s.steps.length ≤ 1000000) (d i : Nat) (hi : i ≤ 1000000) (ls : List (List UInt8)) (ok : Bool) (own : Nat → Bool) (R : Exit → AF → AM → Prop)
  (hbad : (ok && refValidB s) = false → ∀ f μ, RetD μ (errP (i + 1)) (evResult f μ parseRes) → R .ret f μ)
  (hgood : ok = true → refValidB s = true → ∀ f', Sub (rpF d ls i) f' → R .normal f' (rpM s st)) :
  Aw ctx own 161 0 c9end R ((11, .pv (.bool ok)) :: rpF d ls i) (rpM s st) := by
 have hT := thaw_rp s st
 have hV := refValid_raw s st hst h h1 h2 h3
 unfold c9end
 generalize refValidB s = v at *
 generalize schedN s st = SN at *
 obtain ⟨a, b, c, e, z, fs, ss⟩ := s
 cases fs <;> cases ss <;> cases ok <;> cases v
 ·refine evH [(146, { val := some (.pv (.bool false)), args := some [SN] })] ?_
  dsimp only [rpM, resB, rpB, fatesG_nil, fatesB_nil, stepsA_nil, stepsB_nil, go_sem]
  try dsimp only [rpM, resB, rpB, fatesG_nil, fatesB_nil, stepsA_nil, stepsB_nil, go_sem]
  refine ⟨(by simp [vb] <;> omega), ?_, ?_⟩
  ·simp [All]
  iterate 5 first
   | refine ⟨fun _ => ?_, fun h => by simp at h <;> omega⟩
   | refine ⟨by simp [vb] <;> omega, by simp [vb] <;> omega, ?_⟩
   | (refine evA ?_; iterate 2 (try dsimp only [rpM, resB, rpB, fatesG_nil, fatesB_nil, stepsA_nil, stepsB_nil, go_sem]))
  refine hbad rfl _ _ ?_
  dsimp only [go_sem]
  exact ⟨(by first | exact True.intro | (simp only [vb, lb]; omega) | (simp [vb] <;> omega)), rfl⟩
 ·refine evH [(146, { val := some (.pv (.bool true)), args := some [SN] })] ?_
  dsimp only [rpM, resB, rpB, fatesG_nil, fatesB_nil, stepsA_nil, stepsB_nil, go_sem]
  try dsimp only [rpM, resB, rpB, fatesG_nil, fatesB_nil, stepsA_nil, stepsB_nil, go_sem]
  refine ⟨(by simp [vb] <;> omega), ?_, ?_⟩
  ·simp [All]
  iterate 5 first
   | refine ⟨fun _ => ?_, fun h => by simp at h <;> omega⟩
   | refine ⟨by simp [vb] <;> omega, by simp [vb] <;> omega, ?_⟩
   | (refine evA ?_; iterate 2 (try dsimp only [rpM, resB, rpB, fatesG_nil, fatesB_nil, stepsA_nil, stepsB_nil, go_sem]))
  refine hbad rfl _ _ ?_
  dsimp only [go_sem]
  exact ⟨(by first | exact True.intro | (simp only [vb, lb]; omega) | (simp [vb] <;> omega)), rfl⟩
 ·refine evH [(146, { val := some (.pv (.bool false)), args := some [SN] })] ?_
  dsimp only [rpM, resB, rpB, fatesG_nil, fatesB_nil, stepsA_nil, stepsB_nil, go_sem]
  try dsimp only [rpM, resB, rpB, fatesG_nil, fatesB_nil, stepsA_nil, stepsB_nil, go_sem]
  refine ⟨(by simp [vb] <;> omega), ?_, ?_⟩
  ·exact ⟨fun _ _ => rfl, fun _ => ⟨trivial, ⟨fun _ => rfl, trivial⟩, trivial⟩, fun _ => ⟨trivial, ⟨fun _ => rfl, trivial⟩, hT, hV, trivial⟩, fun _ => ⟨by simp [VCs], trivial, trivial⟩, trivial⟩
  iterate 5 first
   | refine ⟨fun _ => ?_, fun h => by simp at h <;> omega⟩
   | refine ⟨by simp [vb] <;> omega, by simp [vb] <;> omega, ?_⟩
   | (refine evA ?_; iterate 2 (try dsimp only [rpM, resB, rpB, fatesG_nil, fatesB_nil, stepsA_nil, stepsB_nil, go_sem]))
  refine hbad rfl _ _ ?_
  dsimp only [go_sem]
  exact ⟨(by first | exact True.intro | (simp only [vb, lb]; omega) | (simp [vb] <;> omega)), rfl⟩
 ·refine evH [(146, { val := some (.pv (.bool true)), args := some [SN] })] ?_
  dsimp only [rpM, resB, rpB, fatesG_nil, fatesB_nil, stepsA_nil, stepsB_nil, go_sem]
  try dsimp only [rpM, resB, rpB, fatesG_nil, fatesB_nil, stepsA_nil, stepsB_nil, go_sem]
  refine ⟨(by simp [vb] <;> omega), ?_, ?_⟩
  ·exact ⟨fun _ _ => rfl, fun _ => ⟨trivial, ⟨fun _ => rfl, trivial⟩, trivial⟩, fun _ => ⟨trivial, ⟨fun _ => rfl, trivial⟩, hT, hV, trivial⟩, fun _ => ⟨by simp [VCs], trivial, trivial⟩, trivial⟩
  refine evA ?_
  dsimp only [go_sem]
  refine ⟨fun h => by simp at h <;> omega, fun _ => ?_⟩
  refine evA ?_
  dsimp only [go_sem]
  exact hgood rfl rfl _ (by (repeat' (first | exact trivial | refine And.intro (by first | rfl | (simp [get, Nat.beq]; done) | (simp [get, Nat.beq]; omega) | (dsimp only [get]; congr 1 <;> first | rfl | omega | (simp; done) | (simp; omega))) ?_)))
 ·refine evH [(146, { val := some (.pv (.bool false)), args := some [SN] })] ?_
  dsimp only [rpM, resB, rpB, fatesG_nil, fatesB_nil, stepsA_cons, stepsB_cons, go_sem]
  try dsimp only [rpM, resB, rpB, fatesG_nil, fatesB_nil, stepsA_cons, stepsB_cons, go_sem]
  refine ⟨(by simp [vb] <;> omega), ?_, ?_⟩
  ·simp [All]
  iterate 5 first
   | refine ⟨fun _ => ?_, fun h => by simp at h <;> omega⟩
   | refine ⟨by simp [vb] <;> omega, by simp [vb] <;> omega, ?_⟩
   | (refine evA ?_; iterate 2 (try dsimp only [rpM, resB, rpB, fatesG_nil, fatesB_nil, stepsA_cons, stepsB_cons, go_sem]))
  refine hbad rfl _ _ ?_
  dsimp only [go_sem]
  exact ⟨(by first | exact True.intro | (simp only [vb, lb]; omega) | (simp [vb] <;> omega)), rfl⟩
 ·refine evH [(146, { val := some (.pv (.bool true)), args := some [SN] })] ?_
  dsimp only [rpM, resB, rpB, fatesG_nil, fatesB_nil, stepsA_cons, stepsB_cons, go_sem]
  try dsimp only [rpM, resB, rpB, fatesG_nil, fatesB_nil, stepsA_cons, stepsB_cons, go_sem]
  refine ⟨(by simp [vb] <;> omega), ?_, ?_⟩
  ·simp [All]
  iterate 5 first
   | refine ⟨fun _ => ?_, fun h => by simp at h <;> omega⟩
   | refine ⟨by simp [vb] <;> omega, by simp [vb] <;> omega, ?_⟩
   | (refine evA ?_; iterate 2 (try dsimp only [rpM, resB, rpB, fatesG_nil, fatesB_nil, stepsA_cons, stepsB_cons, go_sem]))
  refine hbad rfl _ _ ?_
  dsimp only [go_sem]
  exact ⟨(by first | exact True.intro | (simp only [vb, lb]; omega) | (simp [vb] <;> omega)), rfl⟩
 ·refine evH [(146, { val := some (.pv (.bool false)), args := some [SN] })] ?_
  dsimp only [rpM, resB, rpB, fatesG_nil, fatesB_nil, stepsA_cons, stepsB_cons, go_sem]
  try dsimp only [rpM, resB, rpB, fatesG_nil, fatesB_nil, stepsA_cons, stepsB_cons, go_sem]
  refine ⟨(by simp [vb] <;> omega), ?_, ?_⟩
  ·exact ⟨fun _ _ => rfl, fun _ => ⟨trivial, ⟨fun _ => rfl, trivial⟩, trivial⟩, fun _ => ⟨trivial, ⟨fun _ => rfl, trivial⟩, hT, hV, trivial⟩, fun _ => ⟨by simp [VCs], trivial, trivial⟩, trivial⟩
  iterate 5 first
   | refine ⟨fun _ => ?_, fun h => by simp at h <;> omega⟩
   | refine ⟨by simp [vb] <;> omega, by simp [vb] <;> omega, ?_⟩
   | (refine evA ?_; iterate 2 (try dsimp only [rpM, resB, rpB, fatesG_nil, fatesB_nil, stepsA_cons, stepsB_cons, go_sem]))
  refine hbad rfl _ _ ?_
  dsimp only [go_sem]
  exact ⟨(by first | exact True.intro | (simp only [vb, lb]; omega) | (simp [vb] <;> omega)), rfl⟩
 ·refine evH [(146, { val := some (.pv (.bool true)), args := some [SN] })] ?_
  dsimp only [rpM, resB, rpB, fatesG_nil, fatesB_nil, stepsA_cons, stepsB_cons, go_sem]
  try dsimp only [rpM, resB, rpB, fatesG_nil, fatesB_nil, stepsA_cons, stepsB_cons, go_sem]
  refine ⟨(by simp [vb] <;> omega), ?_, ?_⟩
  ·exact ⟨fun _ _ => rfl, fun _ => ⟨trivial, ⟨fun _ => rfl, trivial⟩, trivial⟩, fun _ => ⟨trivial, ⟨fun _ => rfl, trivial⟩, hT, hV, trivial⟩, fun _ => ⟨by simp [VCs], trivial, trivial⟩, trivial⟩
  refine evA ?_
  dsimp only [go_sem]
  refine ⟨fun h => by simp at h <;> omega, fun _ => ?_⟩
  refine evA ?_
  dsimp only [go_sem]
  exact hgood rfl rfl _ (by (repeat' (first | exact trivial | refine And.intro (by first | rfl | (simp [get, Nat.beq]; done) | (simp [get, Nat.beq]; omega) | (dsimp only [get]; congr 1 <;> first | rfl | omega | (simp; done) | (simp; omega))) ?_)))
 ·refine evH [(146, { val := some (.pv (.bool false)), args := some [SN] })] ?_
  dsimp only [rpM, resB, rpB, fatesG_cons, fatesB_cons, stepsA_nil, stepsB_nil, go_sem]
  try dsimp only [rpM, resB, rpB, fatesG_cons, fatesB_cons, stepsA_nil, stepsB_nil, go_sem]
  refine ⟨(by simp [vb] <;> omega), ?_, ?_⟩
  ·simp [All]
  iterate 5 first
   | refine ⟨fun _ => ?_, fun h => by simp at h <;> omega⟩
   | refine ⟨by simp [vb] <;> omega, by simp [vb] <;> omega, ?_⟩
   | (refine evA ?_; iterate 2 (try dsimp only [rpM, resB, rpB, fatesG_cons, fatesB_cons, stepsA_nil, stepsB_nil, go_sem]))
  refine hbad rfl _ _ ?_
  dsimp only [go_sem]
  exact ⟨(by first | exact True.intro | (simp only [vb, lb]; omega) | (simp [vb] <;> omega)), rfl⟩
 ·refine evH [(146, { val := some (.pv (.bool true)), args := some [SN] })] ?_
  dsimp only [rpM, resB, rpB, fatesG_cons, fatesB_cons, stepsA_nil, stepsB_nil, go_sem]
  try dsimp only [rpM, resB, rpB, fatesG_cons, fatesB_cons, stepsA_nil, stepsB_nil, go_sem]
  refine ⟨(by simp [vb] <;> omega), ?_, ?_⟩
  ·simp [All]
  iterate 5 first
   | refine ⟨fun _ => ?_, fun h => by simp at h <;> omega⟩
   | refine ⟨by simp [vb] <;> omega, by simp [vb] <;> omega, ?_⟩
   | (refine evA ?_; iterate 2 (try dsimp only [rpM, resB, rpB, fatesG_cons, fatesB_cons, stepsA_nil, stepsB_nil, go_sem]))
  refine hbad rfl _ _ ?_
  dsimp only [go_sem]
  exact ⟨(by first | exact True.intro | (simp only [vb, lb]; omega) | (simp [vb] <;> omega)), rfl⟩
 ·refine evH [(146, { val := some (.pv (.bool false)), args := some [SN] })] ?_
  dsimp only [rpM, resB, rpB, fatesG_cons, fatesB_cons, stepsA_nil, stepsB_nil, go_sem]
  try dsimp only [rpM, resB, rpB, fatesG_cons, fatesB_cons, stepsA_nil, stepsB_nil, go_sem]
  refine ⟨(by simp [vb] <;> omega), ?_, ?_⟩
  ·exact ⟨fun _ _ => rfl, fun _ => ⟨trivial, ⟨fun _ => rfl, trivial⟩, trivial⟩, fun _ => ⟨trivial, ⟨fun _ => rfl, trivial⟩, hT, hV, trivial⟩, fun _ => ⟨by simp [VCs], trivial, trivial⟩, trivial⟩
  iterate 5 first
   | refine ⟨fun _ => ?_, fun h => by simp at h <;> omega⟩
   | refine ⟨by simp [vb] <;> omega, by simp [vb] <;> omega, ?_⟩
   | (refine evA ?_; iterate 2 (try dsimp only [rpM, resB, rpB, fatesG_cons, fatesB_cons, stepsA_nil, stepsB_nil, go_sem]))
  refine hbad rfl _ _ ?_
  dsimp only [go_sem]
  exact ⟨(by first | exact True.intro | (simp only [vb, lb]; omega) | (simp [vb] <;> omega)), rfl⟩
 ·refine evH [(146, { val := some (.pv (.bool true)), args := some [SN] })] ?_
  dsimp only [rpM, resB, rpB, fatesG_cons, fatesB_cons, stepsA_nil, stepsB_nil, go_sem]
  try dsimp only [rpM, resB, rpB, fatesG_cons, fatesB_cons, stepsA_nil, stepsB_nil, go_sem]
  refine ⟨(by simp [vb] <;> omega), ?_, ?_⟩
  ·exact ⟨fun _ _ => rfl, fun _ => ⟨trivial, ⟨fun _ => rfl, trivial⟩, trivial⟩, fun _ => ⟨trivial, ⟨fun _ => rfl, trivial⟩, hT, hV, trivial⟩, fun _ => ⟨by simp [VCs], trivial, trivial⟩, trivial⟩
  refine evA ?_
  dsimp only [go_sem]
  refine ⟨fun h => by simp at h <;> omega, fun _ => ?_⟩
  refine evA ?_
  dsimp only [go_sem]
  exact hgood rfl rfl _ (by (repeat' (first | exact trivial | refine And.intro (by first | rfl | (simp [get, Nat.beq]; done) | (simp [get, Nat.beq]; omega) | (dsimp only [get]; congr 1 <;> first | rfl | omega | (simp; done) | (simp; omega))) ?_)))
 ·refine evH [(146, { val := some (.pv (.bool false)), args := some [SN] })] ?_
  dsimp only [rpM, resB, rpB, fatesG_cons, fatesB_cons, stepsA_cons, stepsB_cons, go_sem]
  try dsimp only [rpM, resB, rpB, fatesG_cons, fatesB_cons, stepsA_cons, stepsB_cons, go_sem]
  refine ⟨(by simp [vb] <;> omega), ?_, ?_⟩
  ·simp [All]
  iterate 5 first
   | refine ⟨fun _ => ?_, fun h => by simp at h <;> omega⟩
   | refine ⟨by simp [vb] <;> omega, by simp [vb] <;> omega, ?_⟩
   | (refine evA ?_; iterate 2 (try dsimp only [rpM, resB, rpB, fatesG_cons, fatesB_cons, stepsA_cons, stepsB_cons, go_sem]))
  refine hbad rfl _ _ ?_
  dsimp only [go_sem]
  exact ⟨(by first | exact True.intro | (simp only [vb, lb]; omega) | (simp [vb] <;> omega)), rfl⟩
 ·refine evH [(146, { val := some (.pv (.bool true)), args := some [SN] })] ?_
  dsimp only [rpM, resB, rpB, fatesG_cons, fatesB_cons, stepsA_cons, stepsB_cons, go_sem]
  try dsimp only [rpM, resB, rpB, fatesG_cons, fatesB_cons, stepsA_cons, stepsB_cons, go_sem]
  refine ⟨(by simp [vb] <;> omega), ?_, ?_⟩
  ·simp [All]
  iterate 5 first
   | refine ⟨fun _ => ?_, fun h => by simp at h <;> omega⟩
   | refine ⟨by simp [vb] <;> omega, by simp [vb] <;> omega, ?_⟩
   | (refine evA ?_; iterate 2 (try dsimp only [rpM, resB, rpB, fatesG_cons, fatesB_cons, stepsA_cons, stepsB_cons, go_sem]))
  refine hbad rfl _ _ ?_
  dsimp only [go_sem]
  exact ⟨(by first | exact True.intro | (simp only [vb, lb]; omega) | (simp [vb] <;> omega)), rfl⟩
 ·refine evH [(146, { val := some (.pv (.bool false)), args := some [SN] })] ?_
  dsimp only [rpM, resB, rpB, fatesG_cons, fatesB_cons, stepsA_cons, stepsB_cons, go_sem]
  try dsimp only [rpM, resB, rpB, fatesG_cons, fatesB_cons, stepsA_cons, stepsB_cons, go_sem]
  refine ⟨(by simp [vb] <;> omega), ?_, ?_⟩
  ·exact ⟨fun _ _ => rfl, fun _ => ⟨trivial, ⟨fun _ => rfl, trivial⟩, trivial⟩, fun _ => ⟨trivial, ⟨fun _ => rfl, trivial⟩, hT, hV, trivial⟩, fun _ => ⟨by simp [VCs], trivial, trivial⟩, trivial⟩
  iterate 5 first
   | refine ⟨fun _ => ?_, fun h => by simp at h <;> omega⟩
   | refine ⟨by simp [vb] <;> omega, by simp [vb] <;> omega, ?_⟩
   | (refine evA ?_; iterate 2 (try dsimp only [rpM, resB, rpB, fatesG_cons, fatesB_cons, stepsA_cons, stepsB_cons, go_sem]))
  refine hbad rfl _ _ ?_
  dsimp only [go_sem]
  exact ⟨(by first | exact True.intro | (simp only [vb, lb]; omega) | (simp [vb] <;> omega)), rfl⟩
 ·refine evH [(146, { val := some (.pv (.bool true)), args := some [SN] })] ?_
  dsimp only [rpM, resB, rpB, fatesG_cons, fatesB_cons, stepsA_cons, stepsB_cons, go_sem]
  try dsimp only [rpM, resB, rpB, fatesG_cons, fatesB_cons, stepsA_cons, stepsB_cons, go_sem]
  refine ⟨(by simp [vb] <;> omega), ?_, ?_⟩
  ·exact ⟨fun _ _ => rfl, fun _ => ⟨trivial, ⟨fun _ => rfl, trivial⟩, trivial⟩, fun _ => ⟨trivial, ⟨fun _ => rfl, trivial⟩, hT, hV, trivial⟩, fun _ => ⟨by simp [VCs], trivial, trivial⟩, trivial⟩
  refine evA ?_
  dsimp only [go_sem]
  refine ⟨fun h => by simp at h <;> omega, fun _ => ?_⟩
  refine evA ?_
  dsimp only [go_sem]
  exact hgood rfl rfl _ (by (repeat' (first | exact trivial | refine And.intro (by first | rfl | (simp [get, Nat.beq]; done) | (simp [get, Nat.beq]; omega) | (dsimp only [get]; congr 1 <;> first | rfl | omega | (simp; done) | (simp; omega))) ?_)))
end
section
open Sch
def c9line : ACode := (⟨_, by conv => (lhs; reduce; try simp only [lt1, Int.cast_ofNat_Int, Int.reduceNegSucc, UInt8.reduceOfNat])⟩ : {x // c9.sub [1, 1, 1, 1, 1, 1, 0, 1, 0, 0, 1, 0, 0, 1, 1] = x}).1
def headSet (d : Nat) (s : Sched) (l : List Int) : Sched := if d = 4 then { s with state := l } else setHead s d (l.getD 0 0)
def refCand (d : Nat) (s : Sched) (w0 : List UInt8) (r : List (List UInt8)) : Option (Nat × Sched) :=
 if d < 5 then match refNumsOf r with
  | some l => if w0 = headName d ∧ (d = 4 ∨ l.length = 1) then some (d + 1, headSet d s l) else none
  | none => none
 else if w0 = fateW then (if (refFateP r).2 && s.steps.isEmpty then some (5, { s with fates := s.fates ++ [(refFateP r).1] }) else none)
 else if w0 = atW then (if (refStepP r).2 then some (5, { s with steps := s.steps ++ [(refStepP r).1] }) else none)
 else none
def refLine (d : Nat) (s : Sched) (w0 : List UInt8) (r : List (List UInt8)) : Option (Nat × Sched) := match refCand d s w0 r with
 | some q => if refValidB q.2 then some q else none
 | none => none
def rstOf (d : Nat) (s : Sched) : PV := if d < 5 then .nilsl else intsP s.state
structure RInv (d : Nat) (s : Sched) : Prop where
 n5 : d ≤ 5
 e1 : d < 5 → s.fates = [] ∧ s.steps = [] ∧ s.state = []
 f : s.fates.length ≤ 256
 p : s.steps.length ≤ 256
 a : s.state.length ≤ 128
 x : ∀ x ∈ s.steps, Few x
theorem rstOf_canon (d : Nat) (s : Sched) (h : RInv d s) : canon 2 (rstOf d s) = intsP s.state := by
 unfold rstOf
 split
 ·rename_i hd
  rw [(h.e1 hd).2.2]
  rfl
 ·exact canon_ints 1 _
abbrev BadR (R : Exit → AF → AM → Prop) (i : Nat) : Prop := ∀ f μ, RetD μ (errP (i + 1)) (evResult f μ parseRes) → R .ret f μ
section
variable {R : Exit → AF → AM → Prop} {own : Nat → Bool} {ls : List (List UInt8)} {i : Nat} {w0 : List UInt8} {r : List (List UInt8)}
theorem slice_words (w0 : List UInt8) (r : List (List UInt8)) : AV.pv (PV.sl (((r.length + 1 : Nat) : Int) - 1).toNat ((r.map PV.str).take ((((r.length + 1 : Nat) : Int) - 1).toNat * 1))) = AV.pv (wordsP r) := by
 rw [show (((r.length + 1 : Nat) : Int) - 1).toNat = r.length by omega, List.take_of_length_le (by simp)]
 rfl
set_option maxHeartbeats 4000000 in
theorem rp_head0n (a b c e : Int) (hi : i ≤ 1000000) (hm : r.length ≤ 1000000) (hl : ∀ w ∈ r, w.length ≤ 1000000000) (hbad : BadR R i) (hq : refNumsOf r = none) :
    Aw ctx own 161 0 c9line R ((10, .pv (wordsP (w0 :: r))) :: rpF 0 ls i) (rpM ⟨a, b, c, e, [], [], []⟩ .nilsl) := by
  have hn := refNumbers_ok r hm hl
  have hs46 := slice_words w0 r
  unfold c9line
  rw [hq] at hn
  repeat' (first
    | ((with_reducible first | show VCs _ | show All _); (try dsimp only [go_sem]); first | (simp [vb, hn, hs46] <;> omega) | (simp only [vb, and_true, true_implies]; (repeat' (first | assumption | (with_reducible apply And.intro) | intro _)) <;> first | omega | (simp only [ab, hn, hs46]; done) | (simp [hn, hs46] <;> omega)))
    | exact (rfl : some _ = _)
    | (fail_if_success refine awL ?_
       refine evTH [(32, fun _ => some (.tup [.sl 0 [], .bool false])), (35, fun _ => some (.bool false))] [(46, { val := some (.pv (wordsP r)) })] ?_
       repeat1' dsimp only [c9, wordsP, rpM, resB, rpB, headsP, headName, fatesG_nil, fatesB_nil, stepsA_nil, stepsB_nil, c9end, intsP, go_sem]
       first
       | refine aw4 ?_ ?_ rfl ?_
       | apply aw3
       | apply aw2
       | (refine awB (fun hc => ?_) fun hc => ?_ <;> first | (cases hc; done) | (exfalso; simp [hn, hs46] at hc <;> omega) | (try simp only [bn] at hc; try contradiction))
       | skip))
  all_goals
    refine hbad _ _ ?_
    dsimp only [go_sem]
    exact ⟨(by first | exact True.intro | (simp only [vb, lb]; omega) | (simp [vb] <;> omega)), rfl⟩
set_option maxHeartbeats 4000000 in
theorem rp_head0w (a b c e : Int) (hi : i ≤ 1000000) (hm : r.length ≤ 1000000) (hl : ∀ w ∈ r, w.length ≤ 1000000000) (hbad : BadR R i) (l : List Int) (hq : refNumsOf r = some l) (hw : ¬ w0 = headName 0) :
    Aw ctx own 161 0 c9line R ((10, .pv (wordsP (w0 :: r))) :: rpF 0 ls i) (rpM ⟨a, b, c, e, [], [], []⟩ .nilsl) := by
  have hn := refNumbers_ok r hm hl
  have hs46 := slice_words w0 r
  unfold c9line
  rw [hq] at hn
  simp only [headName] at hw
  repeat' (first
    | ((with_reducible first | show VCs _ | show All _); (try dsimp only [go_sem]); first | (simp [vb, hn, hs46, hw] <;> omega) | (simp only [vb, and_true, true_implies]; (repeat' (first | assumption | (with_reducible apply And.intro) | intro _)) <;> first | omega | (simp only [ab, hn, hs46, hw]; done) | (simp [hn, hs46, hw] <;> omega)))
    | exact (rfl : some _ = _)
    | (fail_if_success refine awL ?_
       refine evTH [(32, fun _ => some (.tup [intsP l, .bool true])), (35, fun _ => some (.bool false))] [(46, { val := some (.pv (wordsP r)) })] ?_
       repeat1' dsimp only [c9, wordsP, rpM, resB, rpB, headsP, headName, fatesG_nil, fatesB_nil, stepsA_nil, stepsB_nil, c9end, intsP, go_sem]
       first
       | refine aw4 ?_ ?_ rfl ?_
       | apply aw3
       | apply aw2
       | (refine awB (fun hc => ?_) fun hc => ?_ <;> first | (cases hc; done) | (exfalso; simp [hn, hs46, hw] at hc <;> omega) | (try simp only [bn] at hc; try contradiction))
       | skip))
  all_goals
    refine hbad _ _ ?_
    dsimp only [go_sem]
    exact ⟨(by first | exact True.intro | (simp only [vb, lb]; omega) | (simp [vb] <;> omega)), rfl⟩
set_option maxHeartbeats 4000000 in
theorem rp_head0l (a b c e : Int) (hi : i ≤ 1000000) (hm : r.length ≤ 1000000) (hl : ∀ w ∈ r, w.length ≤ 1000000000) (hbad : BadR R i) (l : List Int) (hq : refNumsOf r = some l) (hw : w0 = headName 0) (hlen : ¬ (l.length : Int) = 1) :
    Aw ctx own 161 0 c9line R ((10, .pv (wordsP (w0 :: r))) :: rpF 0 ls i) (rpM ⟨a, b, c, e, [], [], []⟩ .nilsl) := by
  have hn := refNumbers_ok r hm hl
  have hs46 := slice_words w0 r
  unfold c9line
  rw [hq] at hn
  simp only [headName] at hw
  repeat' (first
    | ((with_reducible first | show VCs _ | show All _); (try dsimp only [go_sem]); first | (simp [vb, hn, hs46, hw, hlen] <;> omega) | (simp only [vb, and_true, true_implies]; (repeat' (first | assumption | (with_reducible apply And.intro) | intro _)) <;> first | omega | (simp only [ab, hn, hs46, hw, hlen]; done) | (simp [hn, hs46, hw, hlen] <;> omega)))
    | exact (rfl : some _ = _)
    | (fail_if_success refine awL ?_
       refine evTH [(32, fun _ => some (.tup [intsP l, .bool true])), (35, fun _ => some (.bool false))] [(46, { val := some (.pv (wordsP r)) })] ?_
       repeat1' dsimp only [c9, wordsP, rpM, resB, rpB, headsP, headName, fatesG_nil, fatesB_nil, stepsA_nil, stepsB_nil, c9end, intsP, go_sem]
       first
       | refine aw4 ?_ ?_ rfl ?_
       | apply aw3
       | apply aw2
       | (refine awB (fun hc => ?_) fun hc => ?_ <;> first | (cases hc; done) | (exfalso; simp [hn, hs46, hw, hlen] at hc <;> omega) | (try simp only [bn] at hc; try contradiction))
       | skip))
  all_goals
    refine hbad _ _ ?_
    dsimp only [go_sem]
    exact ⟨(by first | exact True.intro | (simp only [vb, lb]; omega) | (simp [vb] <;> omega)), rfl⟩
set_option maxHeartbeats 4000000 in
theorem rp_head0y (a b c e : Int) (hi : i ≤ 1000000) (hm : r.length ≤ 1000000) (hl : ∀ w ∈ r, w.length ≤ 1000000000) (n : Int) (hq : refNumsOf r = some [n]) (hw : w0 = headName 0) (hbad : refValidB ⟨n, b, c, e, [], [], []⟩ = false → BadR R i) (hgood : refValidB ⟨n, b, c, e, [], [], []⟩ = true → ∀ f, Sub (rpF 1 ls i) f → R .normal f (rpM ⟨n, b, c, e, [], [], []⟩ .nilsl)) :
    Aw ctx own 161 0 c9line R ((10, .pv (wordsP (w0 :: r))) :: rpF 0 ls i) (rpM ⟨a, b, c, e, [], [], []⟩ .nilsl) := by
  have hn := refNumbers_ok r hm hl
  have hs46 := slice_words w0 r
  unfold c9line
  have hv := refValid_raw ⟨n, b, c, e, [], [], []⟩ .nilsl rfl (by simp) (by simp) (by simp) (by simp)
  generalize refValidB ⟨n, b, c, e, [], [], []⟩ = v at *
  rw [hq] at hn
  simp only [headName] at hw
  cases v
  · repeat' (first
      | ((with_reducible first | show VCs _ | show All _); (try dsimp only [go_sem]); first | (simp [vb, hn, hs46, hw, hv] <;> omega) | (simp only [vb, and_true, true_implies]; (repeat' (first | assumption | (with_reducible apply And.intro) | intro _)) <;> first | omega | (simp only [ab, hn, hs46, hw, hv]; done) | (simp [hn, hs46, hw, hv] <;> omega)))
      | exact (rfl : some _ = _)
      | (fail_if_success refine awL ?_
         refine evTH [(32, fun _ => some (.tup [intsP [n], .bool true])), (35, fun _ => some (.bool false))] [(46, { val := some (.pv (wordsP r)) })] ?_
         repeat1' dsimp only [c9, wordsP, rpM, resB, rpB, headsP, headName, fatesG_nil, fatesB_nil, stepsA_nil, stepsB_nil, c9end, intsP, go_sem]
         first
         | refine aw4 ?_ ?_ rfl ?_
         | apply aw3
         | apply aw2
         | (refine awB (fun hc => ?_) fun hc => ?_ <;> first | (cases hc; done) | (exfalso; simp [hn, hs46, hw, hv] at hc <;> omega) | (try simp only [bn] at hc; try contradiction))
         | skip))
    all_goals
      refine hbad rfl _ _ ?_
      dsimp only [go_sem]
      exact ⟨(by first | exact True.intro | (simp only [vb, lb]; omega) | (simp [vb] <;> omega)), rfl⟩
  · repeat' (first
      | ((with_reducible first | show VCs _ | show All _); (try dsimp only [go_sem]); first | (simp [vb, hn, hs46, hw, hv] <;> omega) | (simp only [vb, and_true, true_implies]; (repeat' (first | assumption | (with_reducible apply And.intro) | intro _)) <;> first | omega | (simp only [ab, hn, hs46, hw, hv]; done) | (simp [hn, hs46, hw, hv] <;> omega)))
      | exact (rfl : some _ = _)
      | (fail_if_success refine awL ?_
         refine evTH [(32, fun _ => some (.tup [intsP [n], .bool true])), (35, fun _ => some (.bool true))] [(46, { val := some (.pv (wordsP r)) })] ?_
         repeat1' dsimp only [c9, wordsP, rpM, resB, rpB, headsP, headName, fatesG_nil, fatesB_nil, stepsA_nil, stepsB_nil, c9end, intsP, go_sem]
         first
         | refine aw4 ?_ ?_ rfl ?_
         | apply aw3
         | apply aw2
         | (refine awB (fun hc => ?_) fun hc => ?_ <;> first | (cases hc; done) | (exfalso; simp [hn, hs46, hw, hv] at hc <;> omega) | (try simp only [bn] at hc; try contradiction))
         | skip))
    exact hgood rfl _ (by (repeat' (first | exact trivial | refine And.intro (by first | rfl | (simp [get, Nat.beq]; done) | (simp [get, Nat.beq]; omega) | (dsimp only [get]; congr 1 <;> first | rfl | omega | (simp; done) | (simp; omega))) ?_)))
set_option maxHeartbeats 4000000 in
theorem rp_head1n (a b c e : Int) (hi : i ≤ 1000000) (hm : r.length ≤ 1000000) (hl : ∀ w ∈ r, w.length ≤ 1000000000) (hbad : BadR R i) (hq : refNumsOf r = none) :
    Aw ctx own 161 0 c9line R ((10, .pv (wordsP (w0 :: r))) :: rpF 1 ls i) (rpM ⟨a, b, c, e, [], [], []⟩ .nilsl) := by
  have hn := refNumbers_ok r hm hl
  have hs46 := slice_words w0 r
  unfold c9line
  rw [hq] at hn
  repeat' (first
    | ((with_reducible first | show VCs _ | show All _); (try dsimp only [go_sem]); first | (simp [vb, hn, hs46] <;> omega) | (simp only [vb, and_true, true_implies]; (repeat' (first | assumption | (with_reducible apply And.intro) | intro _)) <;> first | omega | (simp only [ab, hn, hs46]; done) | (simp [hn, hs46] <;> omega)))
    | exact (rfl : some _ = _)
    | (fail_if_success refine awL ?_
       refine evTH [(32, fun _ => some (.tup [.sl 0 [], .bool false])), (35, fun _ => some (.bool false))] [(46, { val := some (.pv (wordsP r)) })] ?_
       repeat1' dsimp only [c9, wordsP, rpM, resB, rpB, headsP, headName, fatesG_nil, fatesB_nil, stepsA_nil, stepsB_nil, c9end, intsP, go_sem]
       first
       | refine aw4 ?_ ?_ rfl ?_
       | apply aw3
       | apply aw2
       | (refine awB (fun hc => ?_) fun hc => ?_ <;> first | (cases hc; done) | (exfalso; simp [hn, hs46] at hc <;> omega) | (try simp only [bn] at hc; try contradiction))
       | skip))
  all_goals
    refine hbad _ _ ?_
    dsimp only [go_sem]
    exact ⟨(by first | exact True.intro | (simp only [vb, lb]; omega) | (simp [vb] <;> omega)), rfl⟩
set_option maxHeartbeats 4000000 in
theorem rp_head1w (a b c e : Int) (hi : i ≤ 1000000) (hm : r.length ≤ 1000000) (hl : ∀ w ∈ r, w.length ≤ 1000000000) (hbad : BadR R i) (l : List Int) (hq : refNumsOf r = some l) (hw : ¬ w0 = headName 1) :
    Aw ctx own 161 0 c9line R ((10, .pv (wordsP (w0 :: r))) :: rpF 1 ls i) (rpM ⟨a, b, c, e, [], [], []⟩ .nilsl) := by
  have hn := refNumbers_ok r hm hl
  have hs46 := slice_words w0 r
  unfold c9line
  rw [hq] at hn
  simp only [headName] at hw
  repeat' (first
    | ((with_reducible first | show VCs _ | show All _); (try dsimp only [go_sem]); first | (simp [vb, hn, hs46, hw] <;> omega) | (simp only [vb, and_true, true_implies]; (repeat' (first | assumption | (with_reducible apply And.intro) | intro _)) <;> first | omega | (simp only [ab, hn, hs46, hw]; done) | (simp [hn, hs46, hw] <;> omega)))
    | exact (rfl : some _ = _)
    | (fail_if_success refine awL ?_
       refine evTH [(32, fun _ => some (.tup [intsP l, .bool true])), (35, fun _ => some (.bool false))] [(46, { val := some (.pv (wordsP r)) })] ?_
       repeat1' dsimp only [c9, wordsP, rpM, resB, rpB, headsP, headName, fatesG_nil, fatesB_nil, stepsA_nil, stepsB_nil, c9end, intsP, go_sem]
       first
       | refine aw4 ?_ ?_ rfl ?_
       | apply aw3
       | apply aw2
       | (refine awB (fun hc => ?_) fun hc => ?_ <;> first | (cases hc; done) | (exfalso; simp [hn, hs46, hw] at hc <;> omega) | (try simp only [bn] at hc; try contradiction))
       | skip))
  all_goals
    refine hbad _ _ ?_
    dsimp only [go_sem]
    exact ⟨(by first | exact True.intro | (simp only [vb, lb]; omega) | (simp [vb] <;> omega)), rfl⟩
set_option maxHeartbeats 4000000 in
theorem rp_head1l (a b c e : Int) (hi : i ≤ 1000000) (hm : r.length ≤ 1000000) (hl : ∀ w ∈ r, w.length ≤ 1000000000) (hbad : BadR R i) (l : List Int) (hq : refNumsOf r = some l) (hw : w0 = headName 1) (hlen : ¬ (l.length : Int) = 1) :
    Aw ctx own 161 0 c9line R ((10, .pv (wordsP (w0 :: r))) :: rpF 1 ls i) (rpM ⟨a, b, c, e, [], [], []⟩ .nilsl) := by
  have hn := refNumbers_ok r hm hl
  have hs46 := slice_words w0 r
  unfold c9line
  rw [hq] at hn
  simp only [headName] at hw
  repeat' (first
    | ((with_reducible first | show VCs _ | show All _); (try dsimp only [go_sem]); first | (simp [vb, hn, hs46, hw, hlen] <;> omega) | (simp only [vb, and_true, true_implies]; (repeat' (first | assumption | (with_reducible apply And.intro) | intro _)) <;> first | omega | (simp only [ab, hn, hs46, hw, hlen]; done) | (simp [hn, hs46, hw, hlen] <;> omega)))
    | exact (rfl : some _ = _)
    | (fail_if_success refine awL ?_
       refine evTH [(32, fun _ => some (.tup [intsP l, .bool true])), (35, fun _ => some (.bool false))] [(46, { val := some (.pv (wordsP r)) })] ?_
       repeat1' dsimp only [c9, wordsP, rpM, resB, rpB, headsP, headName, fatesG_nil, fatesB_nil, stepsA_nil, stepsB_nil, c9end, intsP, go_sem]
       first
       | refine aw4 ?_ ?_ rfl ?_
       | apply aw3
       | apply aw2
       | (refine awB (fun hc => ?_) fun hc => ?_ <;> first | (cases hc; done) | (exfalso; simp [hn, hs46, hw, hlen] at hc <;> omega) | (try simp only [bn] at hc; try contradiction))
       | skip))
  all_goals
    refine hbad _ _ ?_
    dsimp only [go_sem]
    exact ⟨(by first | exact True.intro | (simp only [vb, lb]; omega) | (simp [vb] <;> omega)), rfl⟩
set_option maxHeartbeats 4000000 in
theorem rp_head1y (a b c e : Int) (hi : i ≤ 1000000) (hm : r.length ≤ 1000000) (hl : ∀ w ∈ r, w.length ≤ 1000000000) (n : Int) (hq : refNumsOf r = some [n]) (hw : w0 = headName 1) (hbad : refValidB ⟨a, n, c, e, [], [], []⟩ = false → BadR R i) (hgood : refValidB ⟨a, n, c, e, [], [], []⟩ = true → ∀ f, Sub (rpF 2 ls i) f → R .normal f (rpM ⟨a, n, c, e, [], [], []⟩ .nilsl)) :
    Aw ctx own 161 0 c9line R ((10, .pv (wordsP (w0 :: r))) :: rpF 1 ls i) (rpM ⟨a, b, c, e, [], [], []⟩ .nilsl) := by
  have hn := refNumbers_ok r hm hl
  have hs46 := slice_words w0 r
  unfold c9line
  have hv := refValid_raw ⟨a, n, c, e, [], [], []⟩ .nilsl rfl (by simp) (by simp) (by simp) (by simp)
  generalize refValidB ⟨a, n, c, e, [], [], []⟩ = v at *
  rw [hq] at hn
  simp only [headName] at hw
  cases v
  · repeat' (first
      | ((with_reducible first | show VCs _ | show All _); (try dsimp only [go_sem]); first | (simp [vb, hn, hs46, hw, hv] <;> omega) | (simp only [vb, and_true, true_implies]; (repeat' (first | assumption | (with_reducible apply And.intro) | intro _)) <;> first | omega | (simp only [ab, hn, hs46, hw, hv]; done) | (simp [hn, hs46, hw, hv] <;> omega)))
      | exact (rfl : some _ = _)
      | (fail_if_success refine awL ?_
         refine evTH [(32, fun _ => some (.tup [intsP [n], .bool true])), (35, fun _ => some (.bool false))] [(46, { val := some (.pv (wordsP r)) })] ?_
         repeat1' dsimp only [c9, wordsP, rpM, resB, rpB, headsP, headName, fatesG_nil, fatesB_nil, stepsA_nil, stepsB_nil, c9end, intsP, go_sem]
         first
         | refine aw4 ?_ ?_ rfl ?_
         | apply aw3
         | apply aw2
         | (refine awB (fun hc => ?_) fun hc => ?_ <;> first | (cases hc; done) | (exfalso; simp [hn, hs46, hw, hv] at hc <;> omega) | (try simp only [bn] at hc; try contradiction))
         | skip))
    all_goals
      refine hbad rfl _ _ ?_
      dsimp only [go_sem]
      exact ⟨(by first | exact True.intro | (simp only [vb, lb]; omega) | (simp [vb] <;> omega)), rfl⟩
  · repeat' (first
      | ((with_reducible first | show VCs _ | show All _); (try dsimp only [go_sem]); first | (simp [vb, hn, hs46, hw, hv] <;> omega) | (simp only [vb, and_true, true_implies]; (repeat' (first | assumption | (with_reducible apply And.intro) | intro _)) <;> first | omega | (simp only [ab, hn, hs46, hw, hv]; done) | (simp [hn, hs46, hw, hv] <;> omega)))
      | exact (rfl : some _ = _)
      | (fail_if_success refine awL ?_
         refine evTH [(32, fun _ => some (.tup [intsP [n], .bool true])), (35, fun _ => some (.bool true))] [(46, { val := some (.pv (wordsP r)) })] ?_
         repeat1' dsimp only [c9, wordsP, rpM, resB, rpB, headsP, headName, fatesG_nil, fatesB_nil, stepsA_nil, stepsB_nil, c9end, intsP, go_sem]
         first
         | refine aw4 ?_ ?_ rfl ?_
         | apply aw3
         | apply aw2
         | (refine awB (fun hc => ?_) fun hc => ?_ <;> first | (cases hc; done) | (exfalso; simp [hn, hs46, hw, hv] at hc <;> omega) | (try simp only [bn] at hc; try contradiction))
         | skip))
    exact hgood rfl _ (by (repeat' (first | exact trivial | refine And.intro (by first | rfl | (simp [get, Nat.beq]; done) | (simp [get, Nat.beq]; omega) | (dsimp only [get]; congr 1 <;> first | rfl | omega | (simp; done) | (simp; omega))) ?_)))
set_option maxHeartbeats 4000000 in
theorem rp_head2n (a b c e : Int) (hi : i ≤ 1000000) (hm : r.length ≤ 1000000) (hl : ∀ w ∈ r, w.length ≤ 1000000000) (hbad : BadR R i) (hq : refNumsOf r = none) :
    Aw ctx own 161 0 c9line R ((10, .pv (wordsP (w0 :: r))) :: rpF 2 ls i) (rpM ⟨a, b, c, e, [], [], []⟩ .nilsl) := by
  have hn := refNumbers_ok r hm hl
  have hs46 := slice_words w0 r
  unfold c9line
  rw [hq] at hn
  repeat' (first
    | ((with_reducible first | show VCs _ | show All _); (try dsimp only [go_sem]); first | (simp [vb, hn, hs46] <;> omega) | (simp only [vb, and_true, true_implies]; (repeat' (first | assumption | (with_reducible apply And.intro) | intro _)) <;> first | omega | (simp only [ab, hn, hs46]; done) | (simp [hn, hs46] <;> omega)))
    | exact (rfl : some _ = _)
    | (fail_if_success refine awL ?_
       refine evTH [(32, fun _ => some (.tup [.sl 0 [], .bool false])), (35, fun _ => some (.bool false))] [(46, { val := some (.pv (wordsP r)) })] ?_
       repeat1' dsimp only [c9, wordsP, rpM, resB, rpB, headsP, headName, fatesG_nil, fatesB_nil, stepsA_nil, stepsB_nil, c9end, intsP, go_sem]
       first
       | refine aw4 ?_ ?_ rfl ?_
       | apply aw3
       | apply aw2
       | (refine awB (fun hc => ?_) fun hc => ?_ <;> first | (cases hc; done) | (exfalso; simp [hn, hs46] at hc <;> omega) | (try simp only [bn] at hc; try contradiction))
       | skip))
  all_goals
    refine hbad _ _ ?_
    dsimp only [go_sem]
    exact ⟨(by first | exact True.intro | (simp only [vb, lb]; omega) | (simp [vb] <;> omega)), rfl⟩
set_option maxHeartbeats 4000000 in
theorem rp_head2w (a b c e : Int) (hi : i ≤ 1000000) (hm : r.length ≤ 1000000) (hl : ∀ w ∈ r, w.length ≤ 1000000000) (hbad : BadR R i) (l : List Int) (hq : refNumsOf r = some l) (hw : ¬ w0 = headName 2) :
    Aw ctx own 161 0 c9line R ((10, .pv (wordsP (w0 :: r))) :: rpF 2 ls i) (rpM ⟨a, b, c, e, [], [], []⟩ .nilsl) := by
  have hn := refNumbers_ok r hm hl
  have hs46 := slice_words w0 r
  unfold c9line
  rw [hq] at hn
  simp only [headName] at hw
  repeat' (first
    | ((with_reducible first | show VCs _ | show All _); (try dsimp only [go_sem]); first | (simp [vb, hn, hs46, hw] <;> omega) | (simp only [vb, and_true, true_implies]; (repeat' (first | assumption | (with_reducible apply And.intro) | intro _)) <;> first | omega | (simp only [ab, hn, hs46, hw]; done) | (simp [hn, hs46, hw] <;> omega)))
    | exact (rfl : some _ = _)
    | (fail_if_success refine awL ?_
       refine evTH [(32, fun _ => some (.tup [intsP l, .bool true])), (35, fun _ => some (.bool false))] [(46, { val := some (.pv (wordsP r)) })] ?_
       repeat1' dsimp only [c9, wordsP, rpM, resB, rpB, headsP, headName, fatesG_nil, fatesB_nil, stepsA_nil, stepsB_nil, c9end, intsP, go_sem]
       first
       | refine aw4 ?_ ?_ rfl ?_
       | apply aw3
       | apply aw2
       | (refine awB (fun hc => ?_) fun hc => ?_ <;> first | (cases hc; done) | (exfalso; simp [hn, hs46, hw] at hc <;> omega) | (try simp only [bn] at hc; try contradiction))
       | skip))
  all_goals
    refine hbad _ _ ?_
    dsimp only [go_sem]
    exact ⟨(by first | exact True.intro | (simp only [vb, lb]; omega) | (simp [vb] <;> omega)), rfl⟩
set_option maxHeartbeats 4000000 in
theorem rp_head2l (a b c e : Int) (hi : i ≤ 1000000) (hm : r.length ≤ 1000000) (hl : ∀ w ∈ r, w.length ≤ 1000000000) (hbad : BadR R i) (l : List Int) (hq : refNumsOf r = some l) (hw : w0 = headName 2) (hlen : ¬ (l.length : Int) = 1) :
    Aw ctx own 161 0 c9line R ((10, .pv (wordsP (w0 :: r))) :: rpF 2 ls i) (rpM ⟨a, b, c, e, [], [], []⟩ .nilsl) := by
  have hn := refNumbers_ok r hm hl
  have hs46 := slice_words w0 r
  unfold c9line
  rw [hq] at hn
  simp only [headName] at hw
  repeat' (first
    | ((with_reducible first | show VCs _ | show All _); (try dsimp only [go_sem]); first | (simp [vb, hn, hs46, hw, hlen] <;> omega) | (simp only [vb, and_true, true_implies]; (repeat' (first | assumption | (with_reducible apply And.intro) | intro _)) <;> first | omega | (simp only [ab, hn, hs46, hw, hlen]; done) | (simp [hn, hs46, hw, hlen] <;> omega)))
    | exact (rfl : some _ = _)
    | (fail_if_success refine awL ?_
       refine evTH [(32, fun _ => some (.tup [intsP l, .bool true])), (35, fun _ => some (.bool false))] [(46, { val := some (.pv (wordsP r)) })] ?_
       repeat1' dsimp only [c9, wordsP, rpM, resB, rpB, headsP, headName, fatesG_nil, fatesB_nil, stepsA_nil, stepsB_nil, c9end, intsP, go_sem]
       first
       | refine aw4 ?_ ?_ rfl ?_
       | apply aw3
       | apply aw2
       | (refine awB (fun hc => ?_) fun hc => ?_ <;> first | (cases hc; done) | (exfalso; simp [hn, hs46, hw, hlen] at hc <;> omega) | (try simp only [bn] at hc; try contradiction))
       | skip))
  all_goals
    refine hbad _ _ ?_
    dsimp only [go_sem]
    exact ⟨(by first | exact True.intro | (simp only [vb, lb]; omega) | (simp [vb] <;> omega)), rfl⟩
set_option maxHeartbeats 4000000 in
theorem rp_head2y (a b c e : Int) (hi : i ≤ 1000000) (hm : r.length ≤ 1000000) (hl : ∀ w ∈ r, w.length ≤ 1000000000) (n : Int) (hq : refNumsOf r = some [n]) (hw : w0 = headName 2) (hbad : refValidB ⟨a, b, n, e, [], [], []⟩ = false → BadR R i) (hgood : refValidB ⟨a, b, n, e, [], [], []⟩ = true → ∀ f, Sub (rpF 3 ls i) f → R .normal f (rpM ⟨a, b, n, e, [], [], []⟩ .nilsl)) :
    Aw ctx own 161 0 c9line R ((10, .pv (wordsP (w0 :: r))) :: rpF 2 ls i) (rpM ⟨a, b, c, e, [], [], []⟩ .nilsl) := by
  have hn := refNumbers_ok r hm hl
  have hs46 := slice_words w0 r
  unfold c9line
  have hv := refValid_raw ⟨a, b, n, e, [], [], []⟩ .nilsl rfl (by simp) (by simp) (by simp) (by simp)
  generalize refValidB ⟨a, b, n, e, [], [], []⟩ = v at *
  rw [hq] at hn
  simp only [headName] at hw
  cases v
  · repeat' (first
      | ((with_reducible first | show VCs _ | show All _); (try dsimp only [go_sem]); first | (simp [vb, hn, hs46, hw, hv] <;> omega) | (simp only [vb, and_true, true_implies]; (repeat' (first | assumption | (with_reducible apply And.intro) | intro _)) <;> first | omega | (simp only [ab, hn, hs46, hw, hv]; done) | (simp [hn, hs46, hw, hv] <;> omega)))
      | exact (rfl : some _ = _)
      | (fail_if_success refine awL ?_
         refine evTH [(32, fun _ => some (.tup [intsP [n], .bool true])), (35, fun _ => some (.bool false))] [(46, { val := some (.pv (wordsP r)) })] ?_
         repeat1' dsimp only [c9, wordsP, rpM, resB, rpB, headsP, headName, fatesG_nil, fatesB_nil, stepsA_nil, stepsB_nil, c9end, intsP, go_sem]
         first
         | refine aw4 ?_ ?_ rfl ?_
         | apply aw3
         | apply aw2
         | (refine awB (fun hc => ?_) fun hc => ?_ <;> first | (cases hc; done) | (exfalso; simp [hn, hs46, hw, hv] at hc <;> omega) | (try simp only [bn] at hc; try contradiction))
         | skip))
    all_goals
      refine hbad rfl _ _ ?_
      dsimp only [go_sem]
      exact ⟨(by first | exact True.intro | (simp only [vb, lb]; omega) | (simp [vb] <;> omega)), rfl⟩
  · repeat' (first
      | ((with_reducible first | show VCs _ | show All _); (try dsimp only [go_sem]); first | (simp [vb, hn, hs46, hw, hv] <;> omega) | (simp only [vb, and_true, true_implies]; (repeat' (first | assumption | (with_reducible apply And.intro) | intro _)) <;> first | omega | (simp only [ab, hn, hs46, hw, hv]; done) | (simp [hn, hs46, hw, hv] <;> omega)))
      | exact (rfl : some _ = _)
      | (fail_if_success refine awL ?_
         refine evTH [(32, fun _ => some (.tup [intsP [n], .bool true])), (35, fun _ => some (.bool true))] [(46, { val := some (.pv (wordsP r)) })] ?_
         repeat1' dsimp only [c9, wordsP, rpM, resB, rpB, headsP, headName, fatesG_nil, fatesB_nil, stepsA_nil, stepsB_nil, c9end, intsP, go_sem]
         first
         | refine aw4 ?_ ?_ rfl ?_
         | apply aw3
         | apply aw2
         | (refine awB (fun hc => ?_) fun hc => ?_ <;> first | (cases hc; done) | (exfalso; simp [hn, hs46, hw, hv] at hc <;> omega) | (try simp only [bn] at hc; try contradiction))
         | skip))
    exact hgood rfl _ (by (repeat' (first | exact trivial | refine And.intro (by first | rfl | (simp [get, Nat.beq]; done) | (simp [get, Nat.beq]; omega) | (dsimp only [get]; congr 1 <;> first | rfl | omega | (simp; done) | (simp; omega))) ?_)))
set_option maxHeartbeats 4000000 in
theorem rp_head3n (a b c e : Int) (hi : i ≤ 1000000) (hm : r.length ≤ 1000000) (hl : ∀ w ∈ r, w.length ≤ 1000000000) (hbad : BadR R i) (hq : refNumsOf r = none) :
    Aw ctx own 161 0 c9line R ((10, .pv (wordsP (w0 :: r))) :: rpF 3 ls i) (rpM ⟨a, b, c, e, [], [], []⟩ .nilsl) := by
  have hn := refNumbers_ok r hm hl
  have hs46 := slice_words w0 r
  unfold c9line
  rw [hq] at hn
  repeat' (first
    | ((with_reducible first | show VCs _ | show All _); (try dsimp only [go_sem]); first | (simp [vb, hn, hs46] <;> omega) | (simp only [vb, and_true, true_implies]; (repeat' (first | assumption | (with_reducible apply And.intro) | intro _)) <;> first | omega | (simp only [ab, hn, hs46]; done) | (simp [hn, hs46] <;> omega)))
    | exact (rfl : some _ = _)
    | (fail_if_success refine awL ?_
       refine evTH [(32, fun _ => some (.tup [.sl 0 [], .bool false])), (35, fun _ => some (.bool false))] [(46, { val := some (.pv (wordsP r)) })] ?_
       repeat1' dsimp only [c9, wordsP, rpM, resB, rpB, headsP, headName, fatesG_nil, fatesB_nil, stepsA_nil, stepsB_nil, c9end, intsP, go_sem]
       first
       | refine aw4 ?_ ?_ rfl ?_
       | apply aw3
       | apply aw2
       | (refine awB (fun hc => ?_) fun hc => ?_ <;> first | (cases hc; done) | (exfalso; simp [hn, hs46] at hc <;> omega) | (try simp only [bn] at hc; try contradiction))
       | skip))
  all_goals
    refine hbad _ _ ?_
    dsimp only [go_sem]
    exact ⟨(by first | exact True.intro | (simp only [vb, lb]; omega) | (simp [vb] <;> omega)), rfl⟩
set_option maxHeartbeats 4000000 in
theorem rp_head3w (a b c e : Int) (hi : i ≤ 1000000) (hm : r.length ≤ 1000000) (hl : ∀ w ∈ r, w.length ≤ 1000000000) (hbad : BadR R i) (l : List Int) (hq : refNumsOf r = some l) (hw : ¬ w0 = headName 3) :
    Aw ctx own 161 0 c9line R ((10, .pv (wordsP (w0 :: r))) :: rpF 3 ls i) (rpM ⟨a, b, c, e, [], [], []⟩ .nilsl) := by
  have hn := refNumbers_ok r hm hl
  have hs46 := slice_words w0 r
  unfold c9line
  rw [hq] at hn
  simp only [headName] at hw
  repeat' (first
    | ((with_reducible first | show VCs _ | show All _); (try dsimp only [go_sem]); first | (simp [vb, hn, hs46, hw] <;> omega) | (simp only [vb, and_true, true_implies]; (repeat' (first | assumption | (with_reducible apply And.intro) | intro _)) <;> first | omega | (simp only [ab, hn, hs46, hw]; done) | (simp [hn, hs46, hw] <;> omega)))
    | exact (rfl : some _ = _)
    | (fail_if_success refine awL ?_
       refine evTH [(32, fun _ => some (.tup [intsP l, .bool true])), (35, fun _ => some (.bool false))] [(46, { val := some (.pv (wordsP r)) })] ?_
       repeat1' dsimp only [c9, wordsP, rpM, resB, rpB, headsP, headName, fatesG_nil, fatesB_nil, stepsA_nil, stepsB_nil, c9end, intsP, go_sem]
       first
       | refine aw4 ?_ ?_ rfl ?_
       | apply aw3
       | apply aw2
       | (refine awB (fun hc => ?_) fun hc => ?_ <;> first | (cases hc; done) | (exfalso; simp [hn, hs46, hw] at hc <;> omega) | (try simp only [bn] at hc; try contradiction))
       | skip))
  all_goals
    refine hbad _ _ ?_
    dsimp only [go_sem]
    exact ⟨(by first | exact True.intro | (simp only [vb, lb]; omega) | (simp [vb] <;> omega)), rfl⟩
set_option maxHeartbeats 4000000 in
theorem rp_head3l (a b c e : Int) (hi : i ≤ 1000000) (hm : r.length ≤ 1000000) (hl : ∀ w ∈ r, w.length ≤ 1000000000) (hbad : BadR R i) (l : List Int) (hq : refNumsOf r = some l) (hw : w0 = headName 3) (hlen : ¬ (l.length : Int) = 1) :
    Aw ctx own 161 0 c9line R ((10, .pv (wordsP (w0 :: r))) :: rpF 3 ls i) (rpM ⟨a, b, c, e, [], [], []⟩ .nilsl) := by
  have hn := refNumbers_ok r hm hl
  have hs46 := slice_words w0 r
  unfold c9line
  rw [hq] at hn
  simp only [headName] at hw
  repeat' (first
    | ((with_reducible first | show VCs _ | show All _); (try dsimp only [go_sem]); first | (simp [vb, hn, hs46, hw, hlen] <;> omega) | (simp only [vb, and_true, true_implies]; (repeat' (first | assumption | (with_reducible apply And.intro) | intro _)) <;> first | omega | (simp only [ab, hn, hs46, hw, hlen]; done) | (simp [hn, hs46, hw, hlen] <;> omega)))
    | exact (rfl : some _ = _)
    | (fail_if_success refine awL ?_
       refine evTH [(32, fun _ => some (.tup [intsP l, .bool true])), (35, fun _ => some (.bool false))] [(46, { val := some (.pv (wordsP r)) })] ?_
       repeat1' dsimp only [c9, wordsP, rpM, resB, rpB, headsP, headName, fatesG_nil, fatesB_nil, stepsA_nil, stepsB_nil, c9end, intsP, go_sem]
       first
       | refine aw4 ?_ ?_ rfl ?_
       | apply aw3
       | apply aw2
       | (refine awB (fun hc => ?_) fun hc => ?_ <;> first | (cases hc; done) | (exfalso; simp [hn, hs46, hw, hlen] at hc <;> omega) | (try simp only [bn] at hc; try contradiction))
       | skip))
  all_goals
    refine hbad _ _ ?_
    dsimp only [go_sem]
    exact ⟨(by first | exact True.intro | (simp only [vb, lb]; omega) | (simp [vb] <;> omega)), rfl⟩
set_option maxHeartbeats 4000000 in
theorem rp_head3y (a b c e : Int) (hi : i ≤ 1000000) (hm : r.length ≤ 1000000) (hl : ∀ w ∈ r, w.length ≤ 1000000000) (n : Int) (hq : refNumsOf r = some [n]) (hw : w0 = headName 3) (hbad : refValidB ⟨a, b, c, n, [], [], []⟩ = false → BadR R i) (hgood : refValidB ⟨a, b, c, n, [], [], []⟩ = true → ∀ f, Sub (rpF 4 ls i) f → R .normal f (rpM ⟨a, b, c, n, [], [], []⟩ .nilsl)) :
    Aw ctx own 161 0 c9line R ((10, .pv (wordsP (w0 :: r))) :: rpF 3 ls i) (rpM ⟨a, b, c, e, [], [], []⟩ .nilsl) := by
  have hn := refNumbers_ok r hm hl
  have hs46 := slice_words w0 r
  unfold c9line
  have hv := refValid_raw ⟨a, b, c, n, [], [], []⟩ .nilsl rfl (by simp) (by simp) (by simp) (by simp)
  generalize refValidB ⟨a, b, c, n, [], [], []⟩ = v at *
  rw [hq] at hn
  simp only [headName] at hw
  cases v
  · repeat' (first
      | ((with_reducible first | show VCs _ | show All _); (try dsimp only [go_sem]); first | (simp [vb, hn, hs46, hw, hv] <;> omega) | (simp only [vb, and_true, true_implies]; (repeat' (first | assumption | (with_reducible apply And.intro) | intro _)) <;> first | omega | (simp only [ab, hn, hs46, hw, hv]; done) | (simp [hn, hs46, hw, hv] <;> omega)))
      | exact (rfl : some _ = _)
      | (fail_if_success refine awL ?_
         refine evTH [(32, fun _ => some (.tup [intsP [n], .bool true])), (35, fun _ => some (.bool false))] [(46, { val := some (.pv (wordsP r)) })] ?_
         repeat1' dsimp only [c9, wordsP, rpM, resB, rpB, headsP, headName, fatesG_nil, fatesB_nil, stepsA_nil, stepsB_nil, c9end, intsP, go_sem]
         first
         | refine aw4 ?_ ?_ rfl ?_
         | apply aw3
         | apply aw2
         | (refine awB (fun hc => ?_) fun hc => ?_ <;> first | (cases hc; done) | (exfalso; simp [hn, hs46, hw, hv] at hc <;> omega) | (try simp only [bn] at hc; try contradiction))
         | skip))
    all_goals
      refine hbad rfl _ _ ?_
      dsimp only [go_sem]
      exact ⟨(by first | exact True.intro | (simp only [vb, lb]; omega) | (simp [vb] <;> omega)), rfl⟩
  · repeat' (first
      | ((with_reducible first | show VCs _ | show All _); (try dsimp only [go_sem]); first | (simp [vb, hn, hs46, hw, hv] <;> omega) | (simp only [vb, and_true, true_implies]; (repeat' (first | assumption | (with_reducible apply And.intro) | intro _)) <;> first | omega | (simp only [ab, hn, hs46, hw, hv]; done) | (simp [hn, hs46, hw, hv] <;> omega)))
      | exact (rfl : some _ = _)
      | (fail_if_success refine awL ?_
         refine evTH [(32, fun _ => some (.tup [intsP [n], .bool true])), (35, fun _ => some (.bool true))] [(46, { val := some (.pv (wordsP r)) })] ?_
         repeat1' dsimp only [c9, wordsP, rpM, resB, rpB, headsP, headName, fatesG_nil, fatesB_nil, stepsA_nil, stepsB_nil, c9end, intsP, go_sem]
         first
         | refine aw4 ?_ ?_ rfl ?_
         | apply aw3
         | apply aw2
         | (refine awB (fun hc => ?_) fun hc => ?_ <;> first | (cases hc; done) | (exfalso; simp [hn, hs46, hw, hv] at hc <;> omega) | (try simp only [bn] at hc; try contradiction))
         | skip))
    exact hgood rfl _ (by (repeat' (first | exact trivial | refine And.intro (by first | rfl | (simp [get, Nat.beq]; done) | (simp [get, Nat.beq]; omega) | (dsimp only [get]; congr 1 <;> first | rfl | omega | (simp; done) | (simp; omega))) ?_)))
set_option maxHeartbeats 4000000 in
theorem rp_head4n (a b c e : Int) (hi : i ≤ 1000000) (hm : r.length ≤ 1000000) (hl : ∀ w ∈ r, w.length ≤ 1000000000) (hbad : BadR R i) (hq : refNumsOf r = none) :
    Aw ctx own 161 0 c9line R ((10, .pv (wordsP (w0 :: r))) :: rpF 4 ls i) (rpM ⟨a, b, c, e, [], [], []⟩ .nilsl) := by
  have hn := refNumbers_ok r hm hl
  have hs46 := slice_words w0 r
  unfold c9line
  rw [hq] at hn
  repeat' (first
    | ((with_reducible first | show VCs _ | show All _); (try dsimp only [go_sem]); first | (simp [vb, hn, hs46] <;> omega) | (simp only [vb, and_true, true_implies]; (repeat' (first | assumption | (with_reducible apply And.intro) | intro _)) <;> first | omega | (simp only [ab, hn, hs46]; done) | (simp [hn, hs46] <;> omega)))
    | exact (rfl : some _ = _)
    | (fail_if_success refine awL ?_
       refine evTH [(32, fun _ => some (.tup [.sl 0 [], .bool false])), (35, fun _ => some (.bool false))] [(46, { val := some (.pv (wordsP r)) })] ?_
       repeat1' dsimp only [c9, wordsP, rpM, resB, rpB, headsP, headName, fatesG_nil, fatesB_nil, stepsA_nil, stepsB_nil, c9end, intsP, go_sem]
       first
       | refine aw4 ?_ ?_ rfl ?_
       | apply aw3
       | apply aw2
       | (refine awB (fun hc => ?_) fun hc => ?_ <;> first | (cases hc; done) | (exfalso; simp [hn, hs46] at hc <;> omega) | (try simp only [bn] at hc; try contradiction))
       | skip))
  all_goals
    refine hbad _ _ ?_
    dsimp only [go_sem]
    exact ⟨(by first | exact True.intro | (simp only [vb, lb]; omega) | (simp [vb] <;> omega)), rfl⟩
set_option maxHeartbeats 4000000 in
theorem rp_head4w (a b c e : Int) (hi : i ≤ 1000000) (hm : r.length ≤ 1000000) (hl : ∀ w ∈ r, w.length ≤ 1000000000) (hbad : BadR R i) (l : List Int) (hq : refNumsOf r = some l) (hw : ¬ w0 = headName 4) :
    Aw ctx own 161 0 c9line R ((10, .pv (wordsP (w0 :: r))) :: rpF 4 ls i) (rpM ⟨a, b, c, e, [], [], []⟩ .nilsl) := by
  have hn := refNumbers_ok r hm hl
  have hs46 := slice_words w0 r
  unfold c9line
  rw [hq] at hn
  simp only [headName] at hw
  repeat' (first
    | ((with_reducible first | show VCs _ | show All _); (try dsimp only [go_sem]); first | (simp [vb, hn, hs46, hw] <;> omega) | (simp only [vb, and_true, true_implies]; (repeat' (first | assumption | (with_reducible apply And.intro) | intro _)) <;> first | omega | (simp only [ab, hn, hs46, hw]; done) | (simp [hn, hs46, hw] <;> omega)))
    | exact (rfl : some _ = _)
    | (fail_if_success refine awL ?_
       refine evTH [(32, fun _ => some (.tup [intsP l, .bool true])), (35, fun _ => some (.bool false))] [(46, { val := some (.pv (wordsP r)) })] ?_
       repeat1' dsimp only [c9, wordsP, rpM, resB, rpB, headsP, headName, fatesG_nil, fatesB_nil, stepsA_nil, stepsB_nil, c9end, intsP, go_sem]
       first
       | refine aw4 ?_ ?_ rfl ?_
       | apply aw3
       | apply aw2
       | (refine awB (fun hc => ?_) fun hc => ?_ <;> first | (cases hc; done) | (exfalso; simp [hn, hs46, hw] at hc <;> omega) | (try simp only [bn] at hc; try contradiction))
       | skip))
  all_goals
    refine hbad _ _ ?_
    dsimp only [go_sem]
    exact ⟨(by first | exact True.intro | (simp only [vb, lb]; omega) | (simp [vb] <;> omega)), rfl⟩
set_option maxHeartbeats 4000000 in
theorem rp_head4y (a b c e : Int) (hi : i ≤ 1000000) (hm : r.length ≤ 1000000) (hl : ∀ w ∈ r, w.length ≤ 1000000000) (l : List Int) (hll : l.length ≤ 1000000) (hq : refNumsOf r = some l) (hw : w0 = headName 4) (hbad : refValidB ⟨a, b, c, e, l, [], []⟩ = false → BadR R i) (hgood : refValidB ⟨a, b, c, e, l, [], []⟩ = true → ∀ f, Sub (rpF 5 ls i) f → R .normal f (rpM ⟨a, b, c, e, l, [], []⟩ (intsP l))) :
    Aw ctx own 161 0 c9line R ((10, .pv (wordsP (w0 :: r))) :: rpF 4 ls i) (rpM ⟨a, b, c, e, [], [], []⟩ .nilsl) := by
  have hn := refNumbers_ok r hm hl
  have hs46 := slice_words w0 r
  unfold c9line
  have hv := refValid_raw ⟨a, b, c, e, l, [], []⟩ (intsP l) (canon_ints 1 l) (by simp) hll (by simp) (by simp)
  generalize refValidB ⟨a, b, c, e, l, [], []⟩ = v at *
  rw [hq] at hn
  simp only [headName] at hw
  cases v
  · repeat' (first
      | ((with_reducible first | show VCs _ | show All _); (try dsimp only [go_sem]); first | (simp [vb, hn, hs46, hw, hv] <;> omega) | (simp only [vb, and_true, true_implies]; (repeat' (first | assumption | (with_reducible apply And.intro) | intro _)) <;> first | omega | (simp only [ab, hn, hs46, hw, hv]; done) | (simp [hn, hs46, hw, hv] <;> omega)))
      | exact (rfl : some _ = _)
      | (fail_if_success refine awL ?_
         refine evTH [(32, fun _ => some (.tup [intsP l, .bool true])), (35, fun _ => some (.bool false))] [(46, { val := some (.pv (wordsP r)) })] ?_
         repeat1' dsimp only [c9, wordsP, rpM, resB, rpB, headsP, headName, fatesG_nil, fatesB_nil, stepsA_nil, stepsB_nil, c9end, intsP, go_sem]
         first
         | refine aw4 ?_ ?_ rfl ?_
         | apply aw3
         | apply aw2
         | (refine awB (fun hc => ?_) fun hc => ?_ <;> first | (cases hc; done) | (exfalso; simp [hn, hs46, hw, hv] at hc <;> omega) | (try simp only [bn] at hc; try contradiction))
         | skip))
    all_goals
      refine hbad rfl _ _ ?_
      dsimp only [go_sem]
      exact ⟨(by first | exact True.intro | (simp only [vb, lb]; omega) | (simp [vb] <;> omega)), rfl⟩
  · repeat' (first
      | ((with_reducible first | show VCs _ | show All _); (try dsimp only [go_sem]); first | (simp [vb, hn, hs46, hw, hv] <;> omega) | (simp only [vb, and_true, true_implies]; (repeat' (first | assumption | (with_reducible apply And.intro) | intro _)) <;> first | omega | (simp only [ab, hn, hs46, hw, hv]; done) | (simp [hn, hs46, hw, hv] <;> omega)))
      | exact (rfl : some _ = _)
      | (fail_if_success refine awL ?_
         refine evTH [(32, fun _ => some (.tup [intsP l, .bool true])), (35, fun _ => some (.bool true))] [(46, { val := some (.pv (wordsP r)) })] ?_
         repeat1' dsimp only [c9, wordsP, rpM, resB, rpB, headsP, headName, fatesG_nil, fatesB_nil, stepsA_nil, stepsB_nil, c9end, intsP, go_sem]
         first
         | refine aw4 ?_ ?_ rfl ?_
         | apply aw3
         | apply aw2
         | (refine awB (fun hc => ?_) fun hc => ?_ <;> first | (cases hc; done) | (exfalso; simp [hn, hs46, hw, hv] at hc <;> omega) | (try simp only [bn] at hc; try contradiction))
         | skip))
    exact hgood rfl _ (by (repeat' (first | exact trivial | refine And.intro (by first | rfl | (simp [get, Nat.beq]; done) | (simp [get, Nat.beq]; omega) | (dsimp only [get]; congr 1 <;> first | rfl | omega | (simp; done) | (simp; omega))) ?_)))
end
end
section
open Sch
theorem renV_pv (keep : List Nat) (d : Nat) (p : PV) : renV keep d (.pv p) = .pv p := by cases d <;> rfl
theorem aw_eq {C : Ctx} {own : Nat → Bool} {n m : Nat} {x : ACode} {R : Exit → AF → AM → Prop} {f : AF} {μ μ' : AM} (hm : μ = μ') (h : Aw C own n m x R f μ') : Aw C own n m x R f μ := hm ▸ h
section
variable {R : Exit → AF → AM → Prop} {own : Nat → Bool} {ls : List (List UInt8)} {i : Nat} {w0 : List UInt8} {r : List (List UInt8)}
set_option maxHeartbeats 4000000 in
theorem rp_other (s : Sched) (st : PV) (hi : i ≤ 1000000) (hm : r.length ≤ 1000000) (hl : ∀ w ∈ r, w.length ≤ 1000000000) (hf : s.fates.length ≤ 1000) (hp : s.steps.length ≤ 1000) (hw1 : ¬ w0 = fateW) (hw2 : ¬ w0 = atW) (hbad : BadR R i) :
    Aw ctx own 161 0 c9line R ((10, .pv (wordsP (w0 :: r))) :: rpF 5 ls i) (rpM s st) := by
  obtain ⟨a, b, c, e, z, fs, ss⟩ := s
  simp only at hf hp
  have hsl := slice_words w0 r
  simp only [fateW, atW] at hw1 hw2
  unfold c9line
  cases fs <;> cases ss
  · repeat' (first
      | ((with_reducible first | show VCs _ | show All _); simp [vb, hw1, hw2] <;> omega)
      | exact (rfl : some _ = _)
      | (fail_if_success refine awL ?_
         refine evH [(146, { val := some (.pv (.bool false)), args := some [] })] ?_
         repeat1' dsimp only [c9, wordsP, rpM, resB, rpB, headsP, headName, fatesG_nil, fatesB_nil, stepsA_nil, stepsB_nil, c9end, intsP, go_sem]
         first
         | refine aw4 ?_ ?_ rfl ?_
         | apply aw3
         | apply aw2
         | (refine awB (fun hc => ?_) fun hc => ?_ <;> first | (cases hc; done) | (exfalso; simp [hw1, hw2] at hc <;> omega) | (try simp only [bn] at hc; try contradiction))
         | skip))
    all_goals
      refine hbad _ _ ?_
      dsimp only [go_sem]
      exact ⟨(by first | exact True.intro | (simp only [vb, lb]; omega) | (simp [vb] <;> omega)), rfl⟩
  · repeat' (first
      | ((with_reducible first | show VCs _ | show All _); simp [vb, hw1, hw2] <;> omega)
      | exact (rfl : some _ = _)
      | (fail_if_success refine awL ?_
         refine evH [(146, { val := some (.pv (.bool false)), args := some [] })] ?_
         repeat1' dsimp only [c9, wordsP, rpM, resB, rpB, headsP, headName, fatesG_nil, fatesB_nil, stepsA_cons, stepsB_cons, c9end, intsP, go_sem]
         first
         | refine aw4 ?_ ?_ rfl ?_
         | apply aw3
         | apply aw2
         | (refine awB (fun hc => ?_) fun hc => ?_ <;> first | (cases hc; done) | (exfalso; simp [hw1, hw2] at hc <;> omega) | (try simp only [bn] at hc; try contradiction))
         | skip))
    all_goals
      refine hbad _ _ ?_
      dsimp only [go_sem]
      exact ⟨(by first | exact True.intro | (simp only [vb, lb]; omega) | (simp [vb] <;> omega)), rfl⟩
  · repeat' (first
      | ((with_reducible first | show VCs _ | show All _); simp [vb, hw1, hw2] <;> omega)
      | exact (rfl : some _ = _)
      | (fail_if_success refine awL ?_
         refine evH [(146, { val := some (.pv (.bool false)), args := some [] })] ?_
         repeat1' dsimp only [c9, wordsP, rpM, resB, rpB, headsP, headName, fatesG_cons, fatesB_cons, stepsA_nil, stepsB_nil, c9end, intsP, go_sem]
         first
         | refine aw4 ?_ ?_ rfl ?_
         | apply aw3
         | apply aw2
         | (refine awB (fun hc => ?_) fun hc => ?_ <;> first | (cases hc; done) | (exfalso; simp [hw1, hw2] at hc <;> omega) | (try simp only [bn] at hc; try contradiction))
         | skip))
    all_goals
      refine hbad _ _ ?_
      dsimp only [go_sem]
      exact ⟨(by first | exact True.intro | (simp only [vb, lb]; omega) | (simp [vb] <;> omega)), rfl⟩
  · repeat' (first
      | ((with_reducible first | show VCs _ | show All _); simp [vb, hw1, hw2] <;> omega)
      | exact (rfl : some _ = _)
      | (fail_if_success refine awL ?_
         refine evH [(146, { val := some (.pv (.bool false)), args := some [] })] ?_
         repeat1' dsimp only [c9, wordsP, rpM, resB, rpB, headsP, headName, fatesG_cons, fatesB_cons, stepsA_cons, stepsB_cons, c9end, intsP, go_sem]
         first
         | refine aw4 ?_ ?_ rfl ?_
         | apply aw3
         | apply aw2
         | (refine awB (fun hc => ?_) fun hc => ?_ <;> first | (cases hc; done) | (exfalso; simp [hw1, hw2] at hc <;> omega) | (try simp only [bn] at hc; try contradiction))
         | skip))
    all_goals
      refine hbad _ _ ?_
      dsimp only [go_sem]
      exact ⟨(by first | exact True.intro | (simp only [vb, lb]; omega) | (simp [vb] <;> omega)), rfl⟩
set_option maxHeartbeats 4000000 in
theorem rp_fateN (s : Sched) (st : PV) (hi : i ≤ 1000000) (hm : r.length ≤ 1000000) (hl : ∀ w ∈ r, w.length ≤ 1000000000) (hf : s.fates.length ≤ 1000) (hp : s.steps.length ≤ 1000) (f : Fate) (hq : refFateP r = (f, false)) (hbad : BadR R i) :
    Aw ctx own 161 0 c9line R ((10, .pv (wordsP (fateW :: r))) :: rpF 5 ls i) (rpM s st) := by
  obtain ⟨a, b, c, e, z, fs, ss⟩ := s
  simp only at hf hp
  have hsl := slice_words fateW r
  have hn := refFate_ok r hm hl
  rw [hq] at hn
  unfold c9line
  have lf : ∀ (x : Fate) y, ((x :: y).flatMap fateC).length = (y.length + 1) * 3 := fun x y => by rw [flatMap_length fateC_len]; simp
  have lp : ∀ (x : Step) y, ((x :: y).flatMap stepC).length = (y.length + 1) * 10 := fun x y => by rw [flatMap_length stepC_len]; simp
  cases fs <;> cases ss
  · simp only [List.length_cons, List.length_nil] at hf hp
    repeat' (first
      | ((with_reducible first | show VCs _ | show All _); (try dsimp only [go_sem]); first | (simp [vb, hn, hsl, lf, lp] <;> omega) | (simp only [vb, and_true, true_implies]; (repeat' (first | assumption | (with_reducible apply And.intro) | intro _)) <;> first | omega | (simp only [ab, hn, hsl, lf, lp]; done) | (simp [hn, hsl, lf, lp] <;> omega)))
      | exact (rfl : some _ = _)
      | (fail_if_success refine awL ?_
         refine evTH [(33, fun _ => some (.tup [.agg (fateC f), .bool false]))] [(108, { val := some (.pv (wordsP r)) }), (146, { val := some (.pv (.bool false)), args := some [] })] ?_
         repeat1' dsimp only [c9, wordsP, rpM, resB, rpB, headsP, headName, fatesG_nil, fatesB_nil, stepsA_nil, stepsB_nil, c9end, intsP, fateW, fateC, stepC, go_sem]
         first
         | refine aw4 ?_ ?_ rfl ?_
         | apply aw3
         | apply aw2
         | (refine awB (fun hc => ?_) fun hc => ?_ <;> first | (cases hc; done) | (exfalso; simp [hn, hsl, lf, lp] at hc <;> omega) | (try simp only [bn] at hc; try contradiction))
         | skip))
    all_goals
      refine hbad _ _ ?_
      dsimp only [go_sem]
      exact ⟨(by first | exact True.intro | (simp only [vb, lb]; omega) | (simp [vb] <;> omega)), rfl⟩
  · simp only [List.length_cons, List.length_nil] at hf hp
    repeat' (first
      | ((with_reducible first | show VCs _ | show All _); (try dsimp only [go_sem]); first | (simp [vb, hn, hsl, lf, lp] <;> omega) | (simp only [vb, and_true, true_implies]; (repeat' (first | assumption | (with_reducible apply And.intro) | intro _)) <;> first | omega | (simp only [ab, hn, hsl, lf, lp]; done) | (simp [hn, hsl, lf, lp] <;> omega)))
      | exact (rfl : some _ = _)
      | (fail_if_success refine awL ?_
         refine evTH [(33, fun _ => some (.tup [.agg (fateC f), .bool false]))] [(108, { val := some (.pv (wordsP r)) }), (146, { val := some (.pv (.bool false)), args := some [] })] ?_
         repeat1' dsimp only [c9, wordsP, rpM, resB, rpB, headsP, headName, fatesG_nil, fatesB_nil, stepsA_cons, stepsB_cons, c9end, intsP, fateW, fateC, stepC, go_sem]
         first
         | refine aw4 ?_ ?_ rfl ?_
         | apply aw3
         | apply aw2
         | (refine awB (fun hc => ?_) fun hc => ?_ <;> first | (cases hc; done) | (exfalso; simp [hn, hsl, lf, lp] at hc <;> omega) | (try simp only [bn] at hc; try contradiction))
         | skip))
    all_goals
      refine hbad _ _ ?_
      dsimp only [go_sem]
      exact ⟨(by first | exact True.intro | (simp only [vb, lb]; omega) | (simp [vb] <;> omega)), rfl⟩
  · simp only [List.length_cons, List.length_nil] at hf hp
    repeat' (first
      | ((with_reducible show VCs _); first | exact True.intro | (simp only [vb, lb]; omega) | (simp only [vb, lb, hn, hsl, lf, lp]; and_intros <;> first | omega | (simp <;> omega)) | (simp [vb, hn, hsl, lf, lp] <;> omega))
      | ((with_reducible show All _); first | exact True.intro | ((try dsimp only [go_sem]); first | (simp [vb, hn, hsl, lf, lp] <;> omega) | (simp only [vb, and_true, true_implies]; (repeat' (first | assumption | (with_reducible apply And.intro) | intro _)) <;> first | omega | rfl | (simp only [ab, hn, hsl, lf, lp]; done) | (simp [Nat.mul_one, hn, hsl, lf, lp] <;> omega) | (simp_all; done))))
      | exact (rfl : some _ = _)
      | (fail_if_success refine awL ?_
         refine evTH [(33, fun _ => some (.tup [.agg (fateC f), .bool false]))] [(108, { val := some (.pv (wordsP r)) }), (146, { val := some (.pv (.bool false)), args := some [] })] ?_
         repeat1' dsimp only [c9, wordsP, rpM, resB, rpB, headsP, headName, fatesG_cons, fatesB_cons, stepsA_nil, stepsB_nil, c9end, intsP, fateW, fateC, stepC, go_sem]
         first
         | refine aw4 ?_ ?_ rfl ?_
         | apply aw3
         | apply aw2
         | (refine awB (fun hc => ?_) fun hc => ?_ <;> first | (cases hc; done) | (exfalso; first | (simp at hc <;> omega) | (simp [hn, hsl, lf, lp] at hc; done)) | (try simp only [bn] at hc; try contradiction))
         | skip))
    all_goals
      refine hbad _ _ ?_
      dsimp only [go_sem]
      exact ⟨(by first | exact True.intro | (simp only [vb, lb]; omega) | (simp [vb] <;> omega)), rfl⟩
  · simp only [List.length_cons, List.length_nil] at hf hp
    repeat' (first
      | ((with_reducible show VCs _); first | exact True.intro | (simp only [vb, lb]; omega) | (simp only [vb, lb, hn, hsl, lf, lp]; and_intros <;> first | omega | (simp <;> omega)) | (simp [vb, hn, hsl, lf, lp] <;> omega))
      | ((with_reducible show All _); first | exact True.intro | ((try dsimp only [go_sem]); first | (simp [vb, hn, hsl, lf, lp] <;> omega) | (simp only [vb, and_true, true_implies]; (repeat' (first | assumption | (with_reducible apply And.intro) | intro _)) <;> first | omega | rfl | (simp only [ab, hn, hsl, lf, lp]; done) | (simp [Nat.mul_one, hn, hsl, lf, lp] <;> omega) | (simp_all; done))))
      | exact (rfl : some _ = _)
      | (fail_if_success refine awL ?_
         refine evTH [(33, fun _ => some (.tup [.agg (fateC f), .bool false]))] [(108, { val := some (.pv (wordsP r)) }), (146, { val := some (.pv (.bool false)), args := some [] })] ?_
         repeat1' dsimp only [c9, wordsP, rpM, resB, rpB, headsP, headName, fatesG_cons, fatesB_cons, stepsA_cons, stepsB_cons, c9end, intsP, fateW, fateC, stepC, go_sem]
         first
         | refine aw4 ?_ ?_ rfl ?_
         | apply aw3
         | apply aw2
         | (refine awB (fun hc => ?_) fun hc => ?_ <;> first | (cases hc; done) | (exfalso; first | (simp at hc <;> omega) | (simp [hn, hsl, lf, lp] at hc; done)) | (try simp only [bn] at hc; try contradiction))
         | skip))
    all_goals
      refine hbad _ _ ?_
      dsimp only [go_sem]
      exact ⟨(by first | exact True.intro | (simp only [vb, lb]; omega) | (simp [vb] <;> omega)), rfl⟩
set_option maxHeartbeats 4000000 in
theorem rp_fateS (s : Sched) (st : PV) (hi : i ≤ 1000000) (hm : r.length ≤ 1000000) (hl : ∀ w ∈ r, w.length ≤ 1000000000) (hf : s.fates.length ≤ 1000) (hp : s.steps.length ≤ 1000) (f : Fate) (hq : refFateP r = (f, true)) (hne : s.steps ≠ []) (hbad : BadR R i) :
    Aw ctx own 161 0 c9line R ((10, .pv (wordsP (fateW :: r))) :: rpF 5 ls i) (rpM s st) := by
  obtain ⟨a, b, c, e, z, fs, ss⟩ := s
  simp only at hf hp
  have hsl := slice_words fateW r
  have hn := refFate_ok r hm hl
  rw [hq] at hn
  unfold c9line
  have lf : ∀ (x : Fate) y, ((x :: y).flatMap fateC).length = (y.length + 1) * 3 := fun x y => by rw [flatMap_length fateC_len]; simp
  have lp : ∀ (x : Step) y, ((x :: y).flatMap stepC).length = (y.length + 1) * 10 := fun x y => by rw [flatMap_length stepC_len]; simp
  cases ss with
  | nil => exact absurd rfl hne
  | cons s0 sr =>
  cases fs
  · simp only [List.length_cons, List.length_nil] at hf hp
    repeat' (first
      | ((with_reducible first | show VCs _ | show All _); (try dsimp only [go_sem]); first | (simp [vb, hn, hsl, lf, lp] <;> omega) | (simp only [vb, and_true, true_implies]; (repeat' (first | assumption | (with_reducible apply And.intro) | intro _)) <;> first | omega | (simp only [ab, hn, hsl, lf, lp]; done) | (simp [hn, hsl, lf, lp] <;> omega)))
      | exact (rfl : some _ = _)
      | (fail_if_success refine awL ?_
         refine evTH [(33, fun _ => some (.tup [.agg (fateC f), .bool true]))] [(108, { val := some (.pv (wordsP r)) }), (146, { val := some (.pv (.bool false)), args := some [] })] ?_
         repeat1' dsimp only [c9, wordsP, rpM, resB, rpB, headsP, headName, fatesG_nil, fatesB_nil, stepsA_cons, stepsB_cons, c9end, intsP, fateW, fateC, stepC, go_sem]
         first
         | refine aw4 ?_ ?_ rfl ?_
         | apply aw3
         | apply aw2
         | (refine awB (fun hc => ?_) fun hc => ?_ <;> first | (cases hc; done) | (exfalso; simp [hn, hsl, lf, lp] at hc <;> omega) | (try simp only [bn] at hc; try contradiction))
         | skip))
    all_goals
      refine hbad _ _ ?_
      dsimp only [go_sem]
      exact ⟨(by first | exact True.intro | (simp only [vb, lb]; omega) | (simp [vb] <;> omega)), rfl⟩
  · simp only [List.length_cons, List.length_nil] at hf hp
    repeat' (first
      | ((with_reducible show VCs _); first | exact True.intro | (simp only [vb, lb]; omega) | (simp only [vb, lb, hn, hsl, lf, lp]; and_intros <;> first | omega | (simp <;> omega)) | (simp [vb, hn, hsl, lf, lp] <;> omega))
      | ((with_reducible show All _); first | exact True.intro | ((try dsimp only [go_sem]); first | (simp [vb, hn, hsl, lf, lp] <;> omega) | (simp only [vb, and_true, true_implies]; (repeat' (first | assumption | (with_reducible apply And.intro) | intro _)) <;> first | omega | rfl | (simp only [ab, hn, hsl, lf, lp]; done) | (simp [Nat.mul_one, hn, hsl, lf, lp] <;> omega) | (simp_all; done))))
      | exact (rfl : some _ = _)
      | (fail_if_success refine awL ?_
         refine evTH [(33, fun _ => some (.tup [.agg (fateC f), .bool true]))] [(108, { val := some (.pv (wordsP r)) }), (146, { val := some (.pv (.bool false)), args := some [] })] ?_
         repeat1' dsimp only [c9, wordsP, rpM, resB, rpB, headsP, headName, fatesG_cons, fatesB_cons, stepsA_cons, stepsB_cons, c9end, intsP, fateW, fateC, stepC, go_sem]
         first
         | refine aw4 ?_ ?_ rfl ?_
         | apply aw3
         | apply aw2
         | (refine awB (fun hc => ?_) fun hc => ?_ <;> first | (cases hc; done) | (exfalso; first | (simp at hc <;> omega) | (simp [hn, hsl, lf, lp] at hc; done)) | (try simp only [bn] at hc; try contradiction))
         | skip))
    all_goals
      refine hbad _ _ ?_
      dsimp only [go_sem]
      exact ⟨(by first | exact True.intro | (simp only [vb, lb]; omega) | (simp [vb] <;> omega)), rfl⟩
set_option maxHeartbeats 4000000 in
theorem rp_fateY (s : Sched) (st : PV) (hi : i ≤ 1000000) (hm : r.length ≤ 1000000) (hl : ∀ w ∈ r, w.length ≤ 1000000000) (hf : s.fates.length ≤ 1000) (hp : s.steps.length ≤ 1000) (f : Fate) (hq : refFateP r = (f, true)) (he : s.steps = []) (hst : canon 2 st = intsP s.state) (hz : s.state.length ≤ 1000000) (hbad : refValidB { s with fates := s.fates ++ [f] } = false → BadR R i) (hgood : refValidB { s with fates := s.fates ++ [f] } = true → ∀ g, Sub (rpF 5 ls i) g → R .normal g (rpM { s with fates := s.fates ++ [f] } st)) :
  Aw ctx own 161 0 c9line R ((10, .pv (wordsP (fateW :: r))) :: rpF 5 ls i) (rpM s st) := by
 obtain ⟨a, b, c, e, z, fs, ss⟩ := s
 simp only at hf hp
 have hsl := slice_words fateW r
 simp only at he hst hz hbad hgood
 subst he
 have hn := refFate_ok r hm hl
 rw [hq] at hn
 have key := rp_end ⟨a, b, c, e, z, fs ++ [f], []⟩ st hst (by simp) hz (by simp; omega) (by simp) 5 i hi ls true own R (fun h => hbad (by simpa using h)) (fun _ => hgood)
 unfold c9line
 have lf : ∀ (x : Fate) y, ((x :: y).flatMap fateC).length = (y.length + 1) * 3 := fun x y => by rw [flatMap_length fateC_len]; simp
 have lp : ∀ (x : Step) y, ((x :: y).flatMap stepC).length = (y.length + 1) * 10 := fun x y => by rw [flatMap_length stepC_len]; simp
 cases fs with
 | nil =>
  iterate 8 first
   | refine ⟨fun h => by simp at h <;> omega, fun _ => ?_⟩
   | refine ⟨by simp [vb] <;> omega, by simp [vb] <;> omega, ?_⟩
   | (refine evH [(108, { val := some (.pv (wordsP r)) }), (109, { val := some (.pv (.tup [.agg (fateC f), .bool true])) })] ?_; iterate 2 (try dsimp only [wordsP, rpM, resB, rpB, headsP, headName, fatesG_nil, fatesB_nil, stepsA_nil, stepsB_nil, c9end, intsP, fateW, fateC, go_sem]))
  refine evH [(108, { val := some (.pv (wordsP r)) }), (109, { val := some (.pv (.tup [.agg (fateC f), .bool true])) })] ?_
  dsimp only [wordsP, rpM, resB, rpB, headsP, headName, fatesG_nil, fatesB_nil, stepsA_nil, stepsB_nil, c9end, intsP, fateW, fateC, go_sem]
  refine ⟨fun _ => ?_, fun h => by simp at h <;> omega⟩
  refine evH [(108, { val := some (.pv (wordsP r)) }), (109, { val := some (.pv (.tup [.agg (fateC f), .bool true])) })] ?_
  dsimp only [wordsP, rpM, resB, rpB, headsP, headName, fatesG_nil, fatesB_nil, stepsA_nil, stepsB_nil, c9end, intsP, fateW, fateC, go_sem]
  try dsimp only [wordsP, rpM, resB, rpB, headsP, headName, fatesG_nil, fatesB_nil, stepsA_nil, stepsB_nil, c9end, intsP, fateW, fateC, go_sem]
  refine ⟨(by simp [vb] <;> omega), ?_, ?_⟩
  ·exact ⟨hn, hsl, trivial⟩
  refine evA ?_
  dsimp only [fateC, go_sem]
  try dsimp only [fateC, go_sem]
  refine ⟨(by simp [vb] <;> omega), (by simp [vb] <;> omega), ?_⟩
  refine evA ?_
  dsimp only [fateC, go_sem]
  try dsimp only [fateC, go_sem]
  refine ⟨(by first | exact True.intro | (simp only [vb, lb]; omega) | (simp [vb] <;> omega)), (by first | exact True.intro | ((try dsimp only [go_sem]); first | (simp [vb] <;> omega) | (simp only [vb, and_true, true_implies]; (repeat' (first | assumption | (with_reducible apply And.intro) | intro _)) <;> first | omega | rfl | (simp only [ab]; done) | (simp [Nat.mul_one] <;> omega) | (simp_all; done)))), ?_⟩
  refine aw_keep [0, 1, 3] rfl ?_
  dsimp only [go_sem]
  refine aw_frame ((11, .pv (.bool true)) :: rpF 5 ls i) (by (repeat' (first | exact trivial | refine And.intro (by first | rfl | (simp [get, Nat.beq]; done) | (simp [get, Nat.beq]; omega) | (dsimp only [get]; congr 1 <;> first | rfl | omega | (simp; done) | (simp; omega))) ?_))) ?_
  exact key
 | cons f0 fr =>
  simp only [List.length_cons] at hf
  iterate 8 first
   | refine ⟨fun h => by simp at h <;> omega, fun _ => ?_⟩
   | refine ⟨by simp [vb] <;> omega, by simp [vb] <;> omega, ?_⟩
   | (refine evH [(108, { val := some (.pv (wordsP r)) }), (109, { val := some (.pv (.tup [.agg (fateC f), .bool true])) })] ?_; iterate 2 (try dsimp only [wordsP, rpM, resB, rpB, headsP, headName, fatesG_cons, fatesB_cons, stepsA_nil, stepsB_nil, c9end, intsP, fateW, fateC, go_sem]))
  refine evH [(108, { val := some (.pv (wordsP r)) }), (109, { val := some (.pv (.tup [.agg (fateC f), .bool true])) })] ?_
  dsimp only [wordsP, rpM, resB, rpB, headsP, headName, fatesG_cons, fatesB_cons, stepsA_nil, stepsB_nil, c9end, intsP, fateW, fateC, go_sem]
  refine ⟨fun _ => ?_, fun h => by simp at h <;> omega⟩
  refine evH [(108, { val := some (.pv (wordsP r)) }), (109, { val := some (.pv (.tup [.agg (fateC f), .bool true])) })] ?_
  dsimp only [wordsP, rpM, resB, rpB, headsP, headName, fatesG_cons, fatesB_cons, stepsA_nil, stepsB_nil, c9end, intsP, fateW, fateC, go_sem]
  try dsimp only [wordsP, rpM, resB, rpB, headsP, headName, fatesG_cons, fatesB_cons, stepsA_nil, stepsB_nil, c9end, intsP, fateW, fateC, go_sem]
  refine ⟨(by simp [vb] <;> omega), ?_, ?_⟩
  ·exact ⟨hn, hsl, trivial⟩
  refine evA ?_
  dsimp only [fateC, go_sem]
  try dsimp only [fateC, go_sem]
  refine ⟨(by simp [vb, lf] <;> omega), (by simp [vb, lf] <;> omega), ?_⟩
  refine evA ?_
  dsimp only [fateC, go_sem]
  try dsimp only [fateC, go_sem]
  refine ⟨(by first | exact True.intro | (simp only [vb, lb]; omega) | (simp only [vb, lb, lf]; and_intros <;> first | omega | (simp <;> omega)) | (simp [vb, lf] <;> omega)), (by first | exact True.intro | ((try dsimp only [go_sem]); first | (simp [vb, lf] <;> omega) | (simp only [vb, and_true, true_implies]; (repeat' (first | assumption | (with_reducible apply And.intro) | intro _)) <;> first | omega | rfl | (simp only [ab, lf]; done) | (simp [Nat.mul_one, lf] <;> omega) | (simp_all; done)))), ?_⟩
  refine aw_keep [0, 1, 2] rfl ?_
  dsimp only [go_sem]
  refine aw_frame ((11, .pv (.bool true)) :: rpF 5 ls i) (by (repeat' (first | exact trivial | refine And.intro (by first | rfl | (simp [get, Nat.beq]; done) | (simp [get, Nat.beq]; omega) | (dsimp only [get]; congr 1 <;> first | rfl | omega | (simp; done) | (simp; omega))) ?_))) ?_
  rw [show (List.map AV.pv (List.flatMap fateC (f0 :: fr)) ++ [.pv (.bool f.drop), .pv (.int .i64 f.delay), .pv (.int .i64 f.again)] : List AV) = ((f0 :: (fr ++ [f])).flatMap fateC).map AV.pv by simp [fateC], renV_pvs, show fr.length + 1 = (fr ++ [f]).length by simp]
  exact key
set_option maxHeartbeats 4000000 in
theorem rp_atN (s : Sched) (st : PV) (hi : i ≤ 1000000) (hm : r.length ≤ 1000000) (hl : ∀ w ∈ r, w.length ≤ 1000000000) (hf : s.fates.length ≤ 1000) (hp : s.steps.length ≤ 1000) (x : Step) (hq : refStepP r = (x, false)) (hbad : BadR R i) :
    Aw ctx own 161 0 c9line R ((10, .pv (wordsP (atW :: r))) :: rpF 5 ls i) (rpM s st) := by
  obtain ⟨a, b, c, e, z, fs, ss⟩ := s
  simp only at hf hp
  have hsl := slice_words atW r
  have hn := refStep_ok r hm hl
  rw [hq] at hn
  unfold c9line
  have lf : ∀ (x : Fate) y, ((x :: y).flatMap fateC).length = (y.length + 1) * 3 := fun x y => by rw [flatMap_length fateC_len]; simp
  have lp : ∀ (x : Step) y, ((x :: y).flatMap stepC).length = (y.length + 1) * 10 := fun x y => by rw [flatMap_length stepC_len]; simp
  cases fs <;> cases ss
  · simp only [List.length_cons, List.length_nil] at hf hp
    repeat' (first
      | ((with_reducible first | show VCs _ | show All _); (try dsimp only [go_sem]); first | (simp [vb, hn, hsl, lf, lp] <;> omega) | (simp only [vb, and_true, true_implies]; (repeat' (first | assumption | (with_reducible apply And.intro) | intro _)) <;> first | omega | (simp only [ab, hn, hsl, lf, lp]; done) | (simp [hn, hsl, lf, lp] <;> omega)))
      | exact (rfl : some _ = _)
      | (fail_if_success refine awL ?_
         refine evTH [(34, fun _ => some (.tup [.agg [.int .i64 x.tick, .int .i64 x.kind, .int .i64 x.replica, .int .i64 x.other, .int .i64 x.session, .int .i64 x.action, .int .i64 x.after, queriesP x.queries, intsP x.survive, intsP x.voters], .bool false]))] [(131, { val := some (.pv (wordsP r)) }), (146, { val := some (.pv (.bool false)), args := some [] })] ?_
         repeat1' dsimp only [c9, wordsP, rpM, resB, rpB, headsP, headName, fatesG_nil, fatesB_nil, stepsA_nil, stepsB_nil, c9end, intsP, queriesP, atW, go_sem]
         first
         | refine aw4 ?_ ?_ rfl ?_
         | apply aw3
         | apply aw2
         | (refine awB (fun hc => ?_) fun hc => ?_ <;> first | (cases hc; done) | (exfalso; simp [hn, hsl, lf, lp] at hc <;> omega) | (try simp only [bn] at hc; try contradiction))
         | skip))
    all_goals
      refine hbad _ _ ?_
      dsimp only [go_sem]
      exact ⟨(by first | exact True.intro | (simp only [vb, lb]; omega) | (simp [vb] <;> omega)), rfl⟩
  · simp only [List.length_cons, List.length_nil] at hf hp
    repeat' (first
      | ((with_reducible show VCs _); first | exact True.intro | (simp only [vb, lb]; omega) | (simp only [vb, lb, hn, hsl, lf, lp]; and_intros <;> first | omega | (simp <;> omega)) | (simp [vb, hn, hsl, lf, lp] <;> omega))
      | ((with_reducible show All _); first | exact True.intro | ((try dsimp only [go_sem]); first | (simp [vb, hn, hsl, lf, lp] <;> omega) | (simp only [vb, and_true, true_implies]; (repeat' (first | assumption | (with_reducible apply And.intro) | intro _)) <;> first | omega | rfl | (simp only [ab, hn, hsl, lf, lp]; done) | (simp [Nat.mul_one, hn, hsl, lf, lp] <;> omega) | (simp_all; done))))
      | exact (rfl : some _ = _)
      | (fail_if_success refine awL ?_
         refine evTH [(34, fun _ => some (.tup [.agg [.int .i64 x.tick, .int .i64 x.kind, .int .i64 x.replica, .int .i64 x.other, .int .i64 x.session, .int .i64 x.action, .int .i64 x.after, queriesP x.queries, intsP x.survive, intsP x.voters], .bool false]))] [(131, { val := some (.pv (wordsP r)) }), (146, { val := some (.pv (.bool false)), args := some [] })] ?_
         repeat1' dsimp only [c9, wordsP, rpM, resB, rpB, headsP, headName, fatesG_nil, fatesB_nil, stepsA_cons, stepsB_cons, c9end, intsP, queriesP, atW, go_sem]
         first
         | refine aw4 ?_ ?_ rfl ?_
         | apply aw3
         | apply aw2
         | (refine awB (fun hc => ?_) fun hc => ?_ <;> first | (cases hc; done) | (exfalso; first | (simp at hc <;> omega) | (simp [hn, hsl, lf, lp] at hc; done)) | (try simp only [bn] at hc; try contradiction))
         | skip))
    all_goals
      refine hbad _ _ ?_
      dsimp only [go_sem]
      exact ⟨(by first | exact True.intro | (simp only [vb, lb]; omega) | (simp [vb] <;> omega)), rfl⟩
  · simp only [List.length_cons, List.length_nil] at hf hp
    repeat' (first
      | ((with_reducible first | show VCs _ | show All _); (try dsimp only [go_sem]); first | (simp [vb, hn, hsl, lf, lp] <;> omega) | (simp only [vb, and_true, true_implies]; (repeat' (first | assumption | (with_reducible apply And.intro) | intro _)) <;> first | omega | (simp only [ab, hn, hsl, lf, lp]; done) | (simp [hn, hsl, lf, lp] <;> omega)))
      | exact (rfl : some _ = _)
      | (fail_if_success refine awL ?_
         refine evTH [(34, fun _ => some (.tup [.agg [.int .i64 x.tick, .int .i64 x.kind, .int .i64 x.replica, .int .i64 x.other, .int .i64 x.session, .int .i64 x.action, .int .i64 x.after, queriesP x.queries, intsP x.survive, intsP x.voters], .bool false]))] [(131, { val := some (.pv (wordsP r)) }), (146, { val := some (.pv (.bool false)), args := some [] })] ?_
         repeat1' dsimp only [c9, wordsP, rpM, resB, rpB, headsP, headName, fatesG_cons, fatesB_cons, stepsA_nil, stepsB_nil, c9end, intsP, queriesP, atW, go_sem]
         first
         | refine aw4 ?_ ?_ rfl ?_
         | apply aw3
         | apply aw2
         | (refine awB (fun hc => ?_) fun hc => ?_ <;> first | (cases hc; done) | (exfalso; simp [hn, hsl, lf, lp] at hc <;> omega) | (try simp only [bn] at hc; try contradiction))
         | skip))
    all_goals
      refine hbad _ _ ?_
      dsimp only [go_sem]
      exact ⟨(by first | exact True.intro | (simp only [vb, lb]; omega) | (simp [vb] <;> omega)), rfl⟩
  · simp only [List.length_cons, List.length_nil] at hf hp
    repeat' (first
      | ((with_reducible show VCs _); first | exact True.intro | (simp only [vb, lb]; omega) | (simp only [vb, lb, hn, hsl, lf, lp]; and_intros <;> first | omega | (simp <;> omega)) | (simp [vb, hn, hsl, lf, lp] <;> omega))
      | ((with_reducible show All _); first | exact True.intro | ((try dsimp only [go_sem]); first | (simp [vb, hn, hsl, lf, lp] <;> omega) | (simp only [vb, and_true, true_implies]; (repeat' (first | assumption | (with_reducible apply And.intro) | intro _)) <;> first | omega | rfl | (simp only [ab, hn, hsl, lf, lp]; done) | (simp [Nat.mul_one, hn, hsl, lf, lp] <;> omega) | (simp_all; done))))
      | exact (rfl : some _ = _)
      | (fail_if_success refine awL ?_
         refine evTH [(34, fun _ => some (.tup [.agg [.int .i64 x.tick, .int .i64 x.kind, .int .i64 x.replica, .int .i64 x.other, .int .i64 x.session, .int .i64 x.action, .int .i64 x.after, queriesP x.queries, intsP x.survive, intsP x.voters], .bool false]))] [(131, { val := some (.pv (wordsP r)) }), (146, { val := some (.pv (.bool false)), args := some [] })] ?_
         repeat1' dsimp only [c9, wordsP, rpM, resB, rpB, headsP, headName, fatesG_cons, fatesB_cons, stepsA_cons, stepsB_cons, c9end, intsP, queriesP, atW, go_sem]
         first
         | refine aw4 ?_ ?_ rfl ?_
         | apply aw3
         | apply aw2
         | (refine awB (fun hc => ?_) fun hc => ?_ <;> first | (cases hc; done) | (exfalso; first | (simp at hc <;> omega) | (simp [hn, hsl, lf, lp] at hc; done)) | (try simp only [bn] at hc; try contradiction))
         | skip))
    all_goals
      refine hbad _ _ ?_
      dsimp only [go_sem]
      exact ⟨(by first | exact True.intro | (simp only [vb, lb]; omega) | (simp [vb] <;> omega)), rfl⟩
set_option maxHeartbeats 4000000 in
theorem rp_atY (s : Sched) (st : PV) (hi : i ≤ 1000000) (hm : r.length ≤ 1000000) (hl : ∀ w ∈ r, w.length ≤ 1000000000) (hf : s.fates.length ≤ 1000) (hp : s.steps.length ≤ 1000) (x : Step) (hq : refStepP r = (x, true)) (hst : canon 2 st = intsP s.state) (hz : s.state.length ≤ 1000000) (hx : ∀ y ∈ s.steps ++ [x], Few y) (hbad : refValidB { s with steps := s.steps ++ [x] } = false → BadR R i) (hgood : refValidB { s with steps := s.steps ++ [x] } = true → ∀ g, Sub (rpF 5 ls i) g → R .normal g (rpM { s with steps := s.steps ++ [x] } st)) :
  Aw ctx own 161 0 c9line R ((10, .pv (wordsP (atW :: r))) :: rpF 5 ls i) (rpM s st) := by
 obtain ⟨a, b, c, e, z, fs, ss⟩ := s
 simp only at hf hp
 have hsl := slice_words atW r
 simp only at hst hz hx hbad hgood
 have hn := refStep_ok r hm hl
 rw [hq] at hn
 have key := rp_end ⟨a, b, c, e, z, fs, ss ++ [x]⟩ st hst hx hz (by simp; omega) (by simp; omega) 5 i hi ls true own R (fun h => hbad (by simpa using h)) (fun _ => hgood)
 unfold c9line
 have lf : ∀ (x : Fate) y, ((x :: y).flatMap fateC).length = (y.length + 1) * 3 := fun x y => by rw [flatMap_length fateC_len]; simp
 have lp : ∀ (x : Step) y, ((x :: y).flatMap stepC).length = (y.length + 1) * 10 := fun x y => by rw [flatMap_length stepC_len]; simp
 cases fs <;> cases ss
 ·simp only [List.length_cons, List.length_nil] at hf hp
  iterate 12 first
   | refine ⟨fun h => by simp at h <;> omega, fun _ => ?_⟩
   | refine ⟨by simp [vb] <;> omega, by simp [vb] <;> omega, ?_⟩
   | (refine evH [(131, { val := some (.pv (wordsP r)) }), (132, { val := some (.pv (.tup [.agg [.int .i64 x.tick, .int .i64 x.kind, .int .i64 x.replica, .int .i64 x.other, .int .i64 x.session, .int .i64 x.action, .int .i64 x.after, queriesP x.queries, intsP x.survive, intsP x.voters], .bool true])) })] ?_; iterate 2 (try dsimp only [wordsP, rpM, resB, rpB, headsP, headName, fatesG_nil, fatesB_nil, stepsA_nil, stepsB_nil, c9end, intsP, queriesP, atW, go_sem]))
  refine evH [(131, { val := some (.pv (wordsP r)) }), (132, { val := some (.pv (.tup [.agg [.int .i64 x.tick, .int .i64 x.kind, .int .i64 x.replica, .int .i64 x.other, .int .i64 x.session, .int .i64 x.action, .int .i64 x.after, queriesP x.queries, intsP x.survive, intsP x.voters], .bool true])) })] ?_
  dsimp only [wordsP, rpM, resB, rpB, headsP, headName, fatesG_nil, fatesB_nil, stepsA_nil, stepsB_nil, c9end, intsP, queriesP, atW, go_sem]
  refine ⟨fun _ => ?_, fun h => by simp at h <;> omega⟩
  refine evH [(131, { val := some (.pv (wordsP r)) }), (132, { val := some (.pv (.tup [.agg [.int .i64 x.tick, .int .i64 x.kind, .int .i64 x.replica, .int .i64 x.other, .int .i64 x.session, .int .i64 x.action, .int .i64 x.after, queriesP x.queries, intsP x.survive, intsP x.voters], .bool true])) })] ?_
  dsimp only [wordsP, rpM, resB, rpB, headsP, headName, fatesG_nil, fatesB_nil, stepsA_nil, stepsB_nil, c9end, intsP, queriesP, atW, go_sem]
  try dsimp only [wordsP, rpM, resB, rpB, headsP, headName, fatesG_nil, fatesB_nil, stepsA_nil, stepsB_nil, c9end, intsP, queriesP, atW, go_sem]
  refine ⟨(by simp [vb] <;> omega), ?_, ?_⟩
  ·exact ⟨hn, hsl, trivial⟩
  refine evA ?_
  dsimp only [intsP, queriesP, go_sem]
  try dsimp only [intsP, queriesP, go_sem]
  refine ⟨(by simp [vb, lf, lp] <;> omega), (by simp [vb, lf, lp] <;> omega), ?_⟩
  refine evA ?_
  dsimp only [intsP, queriesP, go_sem]
  try dsimp only [intsP, queriesP, go_sem]
  refine ⟨(by first | exact True.intro | (simp only [vb, lb]; omega) | (simp only [vb, lb, lf, lp]; and_intros <;> first | omega | (simp <;> omega)) | (simp [vb, lf, lp] <;> omega)), (by first | exact True.intro | ((try dsimp only [go_sem]); first | (simp [vb, lf, lp] <;> omega) | (simp only [vb, and_true, true_implies]; (repeat' (first | assumption | (with_reducible apply And.intro) | intro _)) <;> first | omega | rfl | (simp only [ab, lf, lp]; done) | (simp [Nat.mul_one, lf, lp] <;> omega) | (simp_all; done)))), ?_⟩
  refine aw_keep [0, 1, 3] rfl ?_
  dsimp only [go_sem]
  refine aw_frame ((11, .pv (.bool true)) :: rpF 5 ls i) (by (repeat' (first | exact trivial | refine And.intro (by first | rfl | (simp [get, Nat.beq]; done) | (simp [get, Nat.beq]; omega) | (dsimp only [get]; congr 1 <;> first | rfl | omega | (simp; done) | (simp; omega))) ?_))) ?_
  refine aw_eq ?_ key
  simp [rpM, resB, rpB, fatesG, fatesB, stepsA, stepsB, stepC, renV_pv, intsP, queriesP, Function.comp_def]
 ·rename_i s0 sr
  simp only [List.length_cons, List.length_nil] at hf hp
  iterate 12 first
   | refine ⟨fun h => by simp at h <;> omega, fun _ => ?_⟩
   | refine ⟨by simp [vb] <;> omega, by simp [vb] <;> omega, ?_⟩
   | (refine evH [(131, { val := some (.pv (wordsP r)) }), (132, { val := some (.pv (.tup [.agg [.int .i64 x.tick, .int .i64 x.kind, .int .i64 x.replica, .int .i64 x.other, .int .i64 x.session, .int .i64 x.action, .int .i64 x.after, queriesP x.queries, intsP x.survive, intsP x.voters], .bool true])) })] ?_; iterate 2 (try dsimp only [wordsP, rpM, resB, rpB, headsP, headName, fatesG_nil, fatesB_nil, stepsA_cons, stepsB_cons, c9end, intsP, queriesP, atW, go_sem]))
  refine evH [(131, { val := some (.pv (wordsP r)) }), (132, { val := some (.pv (.tup [.agg [.int .i64 x.tick, .int .i64 x.kind, .int .i64 x.replica, .int .i64 x.other, .int .i64 x.session, .int .i64 x.action, .int .i64 x.after, queriesP x.queries, intsP x.survive, intsP x.voters], .bool true])) })] ?_
  dsimp only [wordsP, rpM, resB, rpB, headsP, headName, fatesG_nil, fatesB_nil, stepsA_cons, stepsB_cons, c9end, intsP, queriesP, atW, go_sem]
  refine ⟨fun _ => ?_, fun h => by simp at h <;> omega⟩
  refine evH [(131, { val := some (.pv (wordsP r)) }), (132, { val := some (.pv (.tup [.agg [.int .i64 x.tick, .int .i64 x.kind, .int .i64 x.replica, .int .i64 x.other, .int .i64 x.session, .int .i64 x.action, .int .i64 x.after, queriesP x.queries, intsP x.survive, intsP x.voters], .bool true])) })] ?_
  dsimp only [wordsP, rpM, resB, rpB, headsP, headName, fatesG_nil, fatesB_nil, stepsA_cons, stepsB_cons, c9end, intsP, queriesP, atW, go_sem]
  try dsimp only [wordsP, rpM, resB, rpB, headsP, headName, fatesG_nil, fatesB_nil, stepsA_cons, stepsB_cons, c9end, intsP, queriesP, atW, go_sem]
  refine ⟨(by simp [vb] <;> omega), ?_, ?_⟩
  ·exact ⟨hn, hsl, trivial⟩
  refine evA ?_
  dsimp only [intsP, queriesP, go_sem]
  try dsimp only [intsP, queriesP, go_sem]
  refine ⟨(by simp [vb, lf, lp] <;> omega), (by simp [vb, lf, lp] <;> omega), ?_⟩
  refine evA ?_
  dsimp only [intsP, queriesP, go_sem]
  try dsimp only [intsP, queriesP, go_sem]
  refine ⟨(by first | exact True.intro | (simp only [vb, lb]; omega) | (simp only [vb, lb, lf, lp]; and_intros <;> first | omega | (simp <;> omega)) | (simp [vb, lf, lp] <;> omega)), (by first | exact True.intro | ((try dsimp only [go_sem]); first | (simp [vb, lf, lp] <;> omega) | (simp only [vb, and_true, true_implies]; (repeat' (first | assumption | (with_reducible apply And.intro) | intro _)) <;> first | omega | rfl | (simp only [ab, lf, lp]; done) | (simp [Nat.mul_one, lf, lp] <;> omega) | (simp_all; done)))), ?_⟩
  refine aw_keep [0, 1, 2] rfl ?_
  dsimp only [go_sem]
  refine aw_frame ((11, .pv (.bool true)) :: rpF 5 ls i) (by (repeat' (first | exact trivial | refine And.intro (by first | rfl | (simp [get, Nat.beq]; done) | (simp [get, Nat.beq]; omega) | (dsimp only [get]; congr 1 <;> first | rfl | omega | (simp; done) | (simp; omega))) ?_))) ?_
  refine aw_eq ?_ key
  simp [rpM, resB, rpB, fatesG, fatesB, stepsA, stepsB, stepC, renV_pv, intsP, queriesP, Function.comp_def]
 ·rename_i f0 fr
  simp only [List.length_cons, List.length_nil] at hf hp
  iterate 12 first
   | refine ⟨fun h => by simp at h <;> omega, fun _ => ?_⟩
   | refine ⟨by simp [vb] <;> omega, by simp [vb] <;> omega, ?_⟩
   | (refine evH [(131, { val := some (.pv (wordsP r)) }), (132, { val := some (.pv (.tup [.agg [.int .i64 x.tick, .int .i64 x.kind, .int .i64 x.replica, .int .i64 x.other, .int .i64 x.session, .int .i64 x.action, .int .i64 x.after, queriesP x.queries, intsP x.survive, intsP x.voters], .bool true])) })] ?_; iterate 2 (try dsimp only [wordsP, rpM, resB, rpB, headsP, headName, fatesG_cons, fatesB_cons, stepsA_nil, stepsB_nil, c9end, intsP, queriesP, atW, go_sem]))
  refine evH [(131, { val := some (.pv (wordsP r)) }), (132, { val := some (.pv (.tup [.agg [.int .i64 x.tick, .int .i64 x.kind, .int .i64 x.replica, .int .i64 x.other, .int .i64 x.session, .int .i64 x.action, .int .i64 x.after, queriesP x.queries, intsP x.survive, intsP x.voters], .bool true])) })] ?_
  dsimp only [wordsP, rpM, resB, rpB, headsP, headName, fatesG_cons, fatesB_cons, stepsA_nil, stepsB_nil, c9end, intsP, queriesP, atW, go_sem]
  refine ⟨fun _ => ?_, fun h => by simp at h <;> omega⟩
  refine evH [(131, { val := some (.pv (wordsP r)) }), (132, { val := some (.pv (.tup [.agg [.int .i64 x.tick, .int .i64 x.kind, .int .i64 x.replica, .int .i64 x.other, .int .i64 x.session, .int .i64 x.action, .int .i64 x.after, queriesP x.queries, intsP x.survive, intsP x.voters], .bool true])) })] ?_
  dsimp only [wordsP, rpM, resB, rpB, headsP, headName, fatesG_cons, fatesB_cons, stepsA_nil, stepsB_nil, c9end, intsP, queriesP, atW, go_sem]
  try dsimp only [wordsP, rpM, resB, rpB, headsP, headName, fatesG_cons, fatesB_cons, stepsA_nil, stepsB_nil, c9end, intsP, queriesP, atW, go_sem]
  refine ⟨(by simp [vb] <;> omega), ?_, ?_⟩
  ·exact ⟨hn, hsl, trivial⟩
  refine evA ?_
  dsimp only [intsP, queriesP, go_sem]
  try dsimp only [intsP, queriesP, go_sem]
  refine ⟨(by simp [vb, lf, lp] <;> omega), (by simp [vb, lf, lp] <;> omega), ?_⟩
  refine evA ?_
  dsimp only [intsP, queriesP, go_sem]
  try dsimp only [intsP, queriesP, go_sem]
  refine ⟨(by first | exact True.intro | (simp only [vb, lb]; omega) | (simp only [vb, lb, lf, lp]; and_intros <;> first | omega | (simp <;> omega)) | (simp [vb, lf, lp] <;> omega)), (by first | exact True.intro | ((try dsimp only [go_sem]); first | (simp [vb, lf, lp] <;> omega) | (simp only [vb, and_true, true_implies]; (repeat' (first | assumption | (with_reducible apply And.intro) | intro _)) <;> first | omega | rfl | (simp only [ab, lf, lp]; done) | (simp [Nat.mul_one, lf, lp] <;> omega) | (simp_all; done)))), ?_⟩
  refine aw_keep [0, 1, 2, 4] rfl ?_
  dsimp only [go_sem]
  refine aw_frame ((11, .pv (.bool true)) :: rpF 5 ls i) (by (repeat' (first | exact trivial | refine And.intro (by first | rfl | (simp [get, Nat.beq]; done) | (simp [get, Nat.beq]; omega) | (dsimp only [get]; congr 1 <;> first | rfl | omega | (simp; done) | (simp; omega))) ?_))) ?_
  refine aw_eq ?_ key
  simp [rpM, resB, rpB, fatesG, fatesB, stepsA, stepsB, stepC, renV_pv, intsP, queriesP, Function.comp_def]
 ·rename_i f0 fr s0 sr
  simp only [List.length_cons, List.length_nil] at hf hp
  iterate 12 first
   | refine ⟨fun h => by simp at h <;> omega, fun _ => ?_⟩
   | refine ⟨by simp [vb] <;> omega, by simp [vb] <;> omega, ?_⟩
   | (refine evH [(131, { val := some (.pv (wordsP r)) }), (132, { val := some (.pv (.tup [.agg [.int .i64 x.tick, .int .i64 x.kind, .int .i64 x.replica, .int .i64 x.other, .int .i64 x.session, .int .i64 x.action, .int .i64 x.after, queriesP x.queries, intsP x.survive, intsP x.voters], .bool true])) })] ?_; iterate 2 (try dsimp only [wordsP, rpM, resB, rpB, headsP, headName, fatesG_cons, fatesB_cons, stepsA_cons, stepsB_cons, c9end, intsP, queriesP, atW, go_sem]))
  refine evH [(131, { val := some (.pv (wordsP r)) }), (132, { val := some (.pv (.tup [.agg [.int .i64 x.tick, .int .i64 x.kind, .int .i64 x.replica, .int .i64 x.other, .int .i64 x.session, .int .i64 x.action, .int .i64 x.after, queriesP x.queries, intsP x.survive, intsP x.voters], .bool true])) })] ?_
  dsimp only [wordsP, rpM, resB, rpB, headsP, headName, fatesG_cons, fatesB_cons, stepsA_cons, stepsB_cons, c9end, intsP, queriesP, atW, go_sem]
  refine ⟨fun _ => ?_, fun h => by simp at h <;> omega⟩
  refine evH [(131, { val := some (.pv (wordsP r)) }), (132, { val := some (.pv (.tup [.agg [.int .i64 x.tick, .int .i64 x.kind, .int .i64 x.replica, .int .i64 x.other, .int .i64 x.session, .int .i64 x.action, .int .i64 x.after, queriesP x.queries, intsP x.survive, intsP x.voters], .bool true])) })] ?_
  dsimp only [wordsP, rpM, resB, rpB, headsP, headName, fatesG_cons, fatesB_cons, stepsA_cons, stepsB_cons, c9end, intsP, queriesP, atW, go_sem]
  try dsimp only [wordsP, rpM, resB, rpB, headsP, headName, fatesG_cons, fatesB_cons, stepsA_cons, stepsB_cons, c9end, intsP, queriesP, atW, go_sem]
  refine ⟨(by simp [vb] <;> omega), ?_, ?_⟩
  ·exact ⟨hn, hsl, trivial⟩
  refine evA ?_
  dsimp only [intsP, queriesP, go_sem]
  try dsimp only [intsP, queriesP, go_sem]
  refine ⟨(by simp [vb, lf, lp] <;> omega), (by simp [vb, lf, lp] <;> omega), ?_⟩
  refine evA ?_
  dsimp only [intsP, queriesP, go_sem]
  try dsimp only [intsP, queriesP, go_sem]
  refine ⟨(by first | exact True.intro | (simp only [vb, lb]; omega) | (simp only [vb, lb, lf, lp]; and_intros <;> first | omega | (simp <;> omega)) | (simp [vb, lf, lp] <;> omega)), (by first | exact True.intro | ((try dsimp only [go_sem]); first | (simp [vb, lf, lp] <;> omega) | (simp only [vb, and_true, true_implies]; (repeat' (first | assumption | (with_reducible apply And.intro) | intro _)) <;> first | omega | rfl | (simp only [ab, lf, lp]; done) | (simp [Nat.mul_one, lf, lp] <;> omega) | (simp_all; done)))), ?_⟩
  refine aw_keep [0, 1, 2, 3] rfl ?_
  dsimp only [go_sem]
  refine aw_frame ((11, .pv (.bool true)) :: rpF 5 ls i) (by (repeat' (first | exact trivial | refine And.intro (by first | rfl | (simp [get, Nat.beq]; done) | (simp [get, Nat.beq]; omega) | (dsimp only [get]; congr 1 <;> first | rfl | omega | (simp; done) | (simp; omega))) ?_))) ?_
  refine aw_eq ?_ key
  simp [rpM, resB, rpB, fatesG, fatesB, stepsA, stepsB, stepC, renV_pv, intsP, queriesP, Function.comp_def]
end
end
end Pur
end Go.Proofs.YteokbngllldmdaaGreatDoor
namespace Go.Proofs.YteokbngllldmdaaGreatDoor
namespace Pur
open Go.RowKit
section
open Sch
theorem few_zero : Few zeroStep := ⟨by simp [zeroStep], by simp [zeroStep], by simp [zeroStep]⟩
theorem refKind_few (k t r : Int) (l : List Int) (h : l.length ≤ 1000000) : Few (refKind k t r l).1 := by
 unfold refKind
 dsimp only
 repeat' split
 all_goals first
  | exact few_zero
  | (refine ⟨?_, ?_, ?_⟩ <;> simp [zeroStep] <;> (simp only [List.length_cons] at h; omega))
  | (refine ⟨?_, ?_, ?_⟩ <;> simp [zeroStep] <;> omega)
theorem refStep_few (r : List (List UInt8)) (h : r.length ≤ 1000000) : Few (refStepP r).1 := by
 match r, h with
 | [], _ => exact few_zero
 | [_], _ => exact few_zero
 | [_, _], _ => exact few_zero
 | w0 :: w1 :: w2 :: rest, h =>
  simp only [List.length_cons] at h
  simp only [refStepP]
  split
  ·split
   ·split
    ·exact few_zero
    ·split
     ·split
      ·refine ⟨?_, ?_, ?_⟩
       ·simp only [refQs_len]; omega
       ·simp [zeroStep]
       ·simp [zeroStep]
      ·exact few_zero
     ·exact few_zero
   ·split
    ·exact few_zero
    ·split
     ·rename_i l hl
      exact refKind_few _ _ _ _ (by rw [refNumsOf_len _ _ hl]; omega)
     ·exact few_zero
  ·exact few_zero
theorem refValidB_len {s : Sched} (h : refValidB s = true) : s.fates.length ≤ 256 ∧ s.steps.length ≤ 256 ∧ s.state.length ≤ 128 := by
 simp only [refValidB, head, Bool.and_eq_true, decide_eq_true_eq] at h
 omega
theorem setHead_keep (s : Sched) (k : Nat) (n : Int) : (setHead s k n).fates = s.fates ∧ (setHead s k n).steps = s.steps ∧ (setHead s k n).state = s.state := by
 unfold setHead
 split <;> exact ⟨rfl, rfl, rfl⟩
theorem headSet_keep (s : Sched) (d : Nat) (l : List Int) : (headSet d s l).fates = s.fates ∧ (headSet d s l).steps = s.steps ∧ (d ≠ 4 → (headSet d s l).state = s.state) := by
 unfold headSet
 split
 ·exact ⟨rfl, rfl, fun h => by omega⟩
 ·have := setHead_keep s d (l.getD 0 0)
  exact ⟨this.1, this.2.1, fun _ => this.2.2⟩
theorem refCand_inv {d : Nat} {s : Sched} {w0 : List UInt8} {r : List (List UInt8)} {q : Nat × Sched} (h : RInv d s) (hm : r.length ≤ 1000000) (hq : refCand d s w0 r = some q) :
  q.1 ≤ 5 ∧ (q.1 < 5 → q.2.fates = [] ∧ q.2.steps = [] ∧ q.2.state = []) ∧ (∀ x ∈ q.2.steps, Few x) := by
 unfold refCand at hq
 split at hq
 ·rename_i hd
  split at hq
  ·rename_i l hn
   split at hq
   ·injection hq with hq
    subst hq
    have hk := headSet_keep s d l
    have he := h.e1 hd
    refine ⟨hd, fun h5 => ⟨by rw [hk.1]; exact he.1, by rw [hk.2.1]; exact he.2.1, ?_⟩, by rw [hk.2.1]; exact h.x⟩
    dsimp only at h5 ⊢
    rw [hk.2.2 (by omega)]
    exact he.2.2
   ·cases hq
  ·cases hq
 ·split at hq
  ·split at hq
   ·injection hq with hq
    subst hq
    exact ⟨Nat.le_refl _, fun h5 => absurd h5 (by simp), h.x⟩
   ·cases hq
  ·split at hq
   ·split at hq
    ·injection hq with hq
     subst hq
     refine ⟨Nat.le_refl _, fun h5 => absurd h5 (by simp), fun x hx => ?_⟩
     simp only [List.mem_append, List.mem_singleton] at hx
     rcases hx with hx | hx
     ·exact h.x x hx
     ·rw [hx]; exact refStep_few r hm
    ·cases hq
   ·cases hq
theorem refLine_inv {d : Nat} {s : Sched} {w0 : List UInt8} {r : List (List UInt8)} {q : Nat × Sched} (h : RInv d s) (hm : r.length ≤ 1000000) (hq : refLine d s w0 r = some q) : RInv q.1 q.2 := by
 unfold refLine at hq
 cases hc : refCand d s w0 r with
 | none => rw [hc] at hq; cases hq
 | some q' =>
  rw [hc] at hq
  dsimp only at hq
  split at hq
  ·rename_i hv
   injection hq with hq
   subst hq
   have hl := refValidB_len hv
   obtain ⟨h1, h2, h3⟩ := refCand_inv h hm hc
   exact ⟨h1, h2, hl.1, hl.2.1, hl.2.2, h3⟩
  ·cases hq
section
variable {R : Exit → AF → AM → Prop} {own : Nat → Bool} {ls : List (List UInt8)} {i : Nat} {w0 : List UInt8} {r : List (List UInt8)}
set_option maxHeartbeats 4000000 in
theorem rp_line (d : Nat) (s : Sched) (h : RInv d s) (hi : i ≤ 1000000) (hm : r.length ≤ 1000000) (hl : ∀ w ∈ r, w.length ≤ 1000000000) (hbad : refLine d s w0 r = none → BadR R i)
  (hgood : ∀ q, refLine d s w0 r = some q → ∀ g, Sub (rpF q.1 ls i) g → R .normal g (rpM q.2 (rstOf q.1 q.2))) : Aw ctx own 161 0 c9line R ((10, .pv (wordsP (w0 :: r))) :: rpF d ls i) (rpM s (rstOf d s)) := by
 unfold refLine at hbad hgood
 have hst := rstOf_canon d s h
 by_cases hd : d < 5
 ·obtain ⟨e1, e2, e3⟩ := h.e1 hd
  have hz : rstOf d s = .nilsl := by unfold rstOf; rw [if_pos hd]
  rw [hz]
  clear hst hz
  obtain ⟨a, b, c, e, z, fs, ss⟩ := s
  simp only at e1 e2 e3
  subst e1 e2 e3
  cases hn : refNumsOf r with
  | none =>
   have hc : refCand d ⟨a, b, c, e, [], [], []⟩ w0 r = none := by unfold refCand; rw [if_pos hd, hn]
   rw [hc] at hbad
   match d, hd with
   | 0, _ => exact rp_head0n a b c e hi hm hl (hbad rfl) hn
   | 1, _ => exact rp_head1n a b c e hi hm hl (hbad rfl) hn
   | 2, _ => exact rp_head2n a b c e hi hm hl (hbad rfl) hn
   | 3, _ => exact rp_head3n a b c e hi hm hl (hbad rfl) hn
   | 4, _ => exact rp_head4n a b c e hi hm hl (hbad rfl) hn
  | some l =>
   by_cases hw : w0 = headName d
   ·by_cases hlen : d = 4 ∨ l.length = 1
    ·have hc : refCand d ⟨a, b, c, e, [], [], []⟩ w0 r = some (d + 1, headSet d ⟨a, b, c, e, [], [], []⟩ l) := by unfold refCand; rw [if_pos hd, hn]; dsimp only; rw [if_pos ⟨hw, hlen⟩]
     rw [hc] at hbad hgood
     dsimp only at hbad hgood
     have hb2 : refValidB (headSet d ⟨a, b, c, e, [], [], []⟩ l) = false → BadR R i := fun hv => hbad (by rw [if_neg (by simp [hv])])
     have hg2 : refValidB (headSet d ⟨a, b, c, e, [], [], []⟩ l) = true → ∀ g, Sub (rpF (d + 1) ls i) g → R .normal g (rpM (headSet d ⟨a, b, c, e, [], [], []⟩ l) (rstOf (d + 1) (headSet d ⟨a, b, c, e, [], [], []⟩ l))) := fun hv => hgood _ (by rw [if_pos hv])
     have hll := refNumsOf_len r l hn
     by_cases h4 : d = 4
     ·subst h4
      rw [show headSet 4 ⟨a, b, c, e, [], [], []⟩ l = ⟨a, b, c, e, l, [], []⟩ from rfl] at hb2 hg2
      exact rp_head4y a b c e hi hm hl l (by omega) hn hw hb2 hg2
     ·obtain ⟨n, rfl⟩ : ∃ n, l = [n] := by
       have h1 := hlen.resolve_left h4
       match l, h1 with
       | [n], _ => exact ⟨n, rfl⟩
      have hd4 : d = 0 ∨ d = 1 ∨ d = 2 ∨ d = 3 := by omega
      rcases hd4 with hd4 | hd4 | hd4 | hd4
      ·subst hd4
       rw [show headSet 0 ⟨a, b, c, e, [], [], []⟩ [n] = ⟨n, b, c, e, [], [], []⟩ from rfl] at hb2 hg2
       exact rp_head0y a b c e hi hm hl n hn hw hb2 hg2
      ·subst hd4
       rw [show headSet 1 ⟨a, b, c, e, [], [], []⟩ [n] = ⟨a, n, c, e, [], [], []⟩ from rfl] at hb2 hg2
       exact rp_head1y a b c e hi hm hl n hn hw hb2 hg2
      ·subst hd4
       rw [show headSet 2 ⟨a, b, c, e, [], [], []⟩ [n] = ⟨a, b, n, e, [], [], []⟩ from rfl] at hb2 hg2
       exact rp_head2y a b c e hi hm hl n hn hw hb2 hg2
      ·subst hd4
       rw [show headSet 3 ⟨a, b, c, e, [], [], []⟩ [n] = ⟨a, b, c, n, [], [], []⟩ from rfl] at hb2 hg2
       exact rp_head3y a b c e hi hm hl n hn hw hb2 hg2
    ·have hc : refCand d ⟨a, b, c, e, [], [], []⟩ w0 r = none := by unfold refCand; rw [if_pos hd, hn]; dsimp only; rw [if_neg (fun h => hlen h.2)]
     rw [hc] at hbad
     have h1 : ¬ (l.length : Int) = 1 := by omega
     match d, hd with
     | 0, _ => exact rp_head0l a b c e hi hm hl (hbad rfl) l hn hw h1
     | 1, _ => exact rp_head1l a b c e hi hm hl (hbad rfl) l hn hw h1
     | 2, _ => exact rp_head2l a b c e hi hm hl (hbad rfl) l hn hw h1
     | 3, _ => exact rp_head3l a b c e hi hm hl (hbad rfl) l hn hw h1
     | 4, _ => exact absurd (.inl rfl) hlen
   ·have hc : refCand d ⟨a, b, c, e, [], [], []⟩ w0 r = none := by unfold refCand; rw [if_pos hd, hn]; dsimp only; rw [if_neg (fun h => hw h.1)]
    rw [hc] at hbad
    match d, hd with
    | 0, _ => exact rp_head0w a b c e hi hm hl (hbad rfl) l hn hw
    | 1, _ => exact rp_head1w a b c e hi hm hl (hbad rfl) l hn hw
    | 2, _ => exact rp_head2w a b c e hi hm hl (hbad rfl) l hn hw
    | 3, _ => exact rp_head3w a b c e hi hm hl (hbad rfl) l hn hw
    | 4, _ => exact rp_head4w a b c e hi hm hl (hbad rfl) l hn hw
 ·have h5 : d = 5 := by have := h.n5; omega
  subst h5
  have hf := h.f
  have hp := h.p
  have ha := h.a
  by_cases hw : w0 = fateW
  ·subst hw
   cases hq : refFateP r with
   | mk f b =>
    cases b
    ·exact rp_fateN s _ hi hm hl (by omega) (by omega) f hq (hbad (by simp [refCand, hq]))
    ·by_cases he : s.steps = []
     ·have hc : refCand 5 s fateW r = some (5, { s with fates := s.fates ++ [f] }) := by simp [refCand, hq, he]
      rw [hc] at hbad hgood
      exact rp_fateY s _ hi hm hl (by omega) (by omega) f hq he hst (by omega) (fun hv => hbad (by simp [hv])) (fun hv => hgood _ (by dsimp only; rw [if_pos hv]))
     ·exact rp_fateS s _ hi hm hl (by omega) (by omega) f hq he (hbad (by simp [refCand, hq, he]))
  ·by_cases hw2 : w0 = atW
   ·subst hw2
    cases hq : refStepP r with
    | mk x b =>
     have hxf : Few x := by have := refStep_few r hm; rw [hq] at this; exact this
     cases b
     ·exact rp_atN s _ hi hm hl (by omega) (by omega) x hq (hbad (by simp [refCand, hq, hw]))
     ·have hc : refCand 5 s atW r = some (5, { s with steps := s.steps ++ [x] }) := by simp [refCand, hq, hw]
      rw [hc] at hbad hgood
      refine rp_atY s _ hi hm hl (by omega) (by omega) x hq hst (by omega) (fun y hy => ?_) (fun hv => hbad (by simp [hv])) (fun hv => hgood _ (by dsimp only; rw [if_pos hv]))
      simp only [List.mem_append, List.mem_singleton] at hy
      rcases hy with hy | hy
      ·exact h.x y hy
      ·rw [hy]; exact hxf
   ·exact rp_other s _ hi hm hl (by omega) (by omega) hw hw2 (hbad (by simp [refCand, hw, hw2]))
end
end
end Pur
end Go.Proofs.YteokbngllldmdaaGreatDoor
namespace Go.Proofs.YteokbngllldmdaaGreatDoor
namespace Pur
open Go.RowKit
attribute [local go_sem] evOps evOp evOpV evRun evK argF List.map hintAt stripped get put tmpsOf tmpOf tmpO tmpL tmpP conds ev cond_true cond_false Nat.beq Nat.ble Nat.add quiet After thenR blockR IfD List.append_eq List.nil_append List.cons_append evInt exactI_a exactI_b exactI_c exactI_d exactI_e exactI_f evBin evStr evBool evUn guardC calm quiet.isCallK evPick List.getElem?_cons_zero List.getElem?_cons_succ fromCells fromPVs cellsOf List.all oneCell List.length_cons List.length_nil mkAgg plains List.drop List.take List.getD Option.getD_some bo1 bo2 ba1 ba2 bn1 bn2 kk_i64 kk_u8 kk_i32 kk_u64 setAt List.set Nat.reduceAdd Nat.reduceMul evCall safeCall refsOf refsIn scalarA scalar scalarL thawL mapAll thawArg thawRef after freeze RetD RetE evResult evRess evRes1 thaw_pv mkTup nilOf_a nilOf_b nilOf_bb nilOf_c nilOf_d nilOf_e nilOf_f nilOf_g nilOf_h nilOf_i nilOf_j nilOf_k nilOf_l nilOf_m eqLeaf_a eqLeaf_b eqLeaf_c eqOffs evMM bytesOf evOpsF AfterF footOf footRefs notIn indepF footAt freeOk still evParts fillA zeros intOfA boundA srcOf List.isEmpty appNil_0 appNil_1 appNil_2 Int.reduceToNat Nat.mul_one Nat.reduceSub evC evOpsT evOpsTF autoH tabHint look hintD strip guarded RetPD RetRD mpLen keysOk leafKA leafK bitI nilOf_n nilOf_o Bool.or_false Bool.or_true Bool.and_true Bool.and_false Nat.blt renF renM renB renV idxOf solF solM solA solV thawRef ev1
section
open Sch
def refS0 : Sched := ⟨1, 0, 8, 0, [], [], []⟩
def refGo : List (List UInt8) → Nat → Nat → Sched → Sum Nat (Nat × Sched)
 | [], _, d, s => .inr (d, s)
 | ln :: r, i, d, s => match splitP ln with
  | [] => refGo r (i + 1) d s
  | w0 :: ws => match refLine d s w0 ws with
   | some q => refGo r (i + 1) q.1 q.2
   | none => .inl (i + 1)
def refParseP (text : List UInt8) : Sched × Int × Int :=
 if 65536 < text.length then (zeroSched, 0, 8) else
 match refGo (linesP text) 0 0 refS0 with
 | .inl k => (zeroSched, k, 3)
 | .inr (d, s) => if d < 5 then (zeroSched, (linesP text).length + 1, 3) else (s, 0, 0)
def refParseV (text : List UInt8) : PV :=
 if 65536 < text.length then .tup [.agg [.int .i64 0, .int .i64 0, .int .i64 0, .int .i64 0, .nilsl, .nilsl, .nilsl], .int .i64 0, .int .i64 8] else
 match refGo (linesP text) 0 0 refS0 with
 | .inl k => errP k
 | .inr (d, s) => if d < 5 then errP ((linesP text).length + 1) else okP s
theorem rinv0 : RInv 0 refS0 := ⟨by omega, fun _ => ⟨rfl, rfl, rfl⟩, by simp [refS0], by simp [refS0], by simp [refS0], by simp [refS0]⟩
theorem spAt_words (l : List UInt8) : ∀ k, k ≤ l.length → (∀ w ∈ (spAt l k).1, w.length ≤ l.length) ∧ (spAt l k).2.length ≤ l.length
 | 0, _ => ⟨by simp [spAt], by simp [spAt]⟩
 | k + 1, h => by
  have ih := spAt_words l k (by omega)
  have h2 := spAt_le l (k + 1)
  refine ⟨?_, by omega⟩
  unfold spAt
  split
  ·split
   ·exact ih.1
   ·intro w hw
    simp only [List.mem_append, List.mem_singleton] at hw
    rcases hw with hw | hw
    ·exact ih.1 w hw
    ·rw [hw]; exact ih.2
  ·exact ih.1
theorem splitP_small (l : List UInt8) : (splitP l).length ≤ l.length + 1 ∧ ∀ w ∈ splitP l, w.length ≤ l.length := by
 have h1 := hash_le l
 have h2 := spAt_le l (hashAt l)
 have h3 := spAt_words l _ h1
 unfold splitP
 split
 ·exact ⟨by omega, h3.1⟩
 ·refine ⟨by simp; omega, fun w hw => ?_⟩
  simp only [List.mem_append, List.mem_singleton] at hw
  rcases hw with hw | hw
  ·exact h3.1 w hw
  ·rw [hw]; exact h3.2
theorem linesAt_words (t : List UInt8) : ∀ k, ∀ w ∈ (linesAt t k).1, w.length ≤ t.length
 | 0 => by simp [linesAt]
 | k + 1 => by
  unfold linesAt
  split
  ·intro w hw
   simp only [List.mem_append, List.mem_singleton] at hw
   rcases hw with hw | hw
   ·exact linesAt_words t k w hw
   ·rw [hw]; simp; omega
  ·exact linesAt_words t k
theorem linesP_small (t : List UInt8) : (linesP t).length ≤ t.length + 1 ∧ ∀ w ∈ linesP t, w.length ≤ t.length := by
 have h2 := linesAt_le t t.length
 have h3 := linesAt_words t t.length
 unfold linesP
 split
 ·refine ⟨by simp; omega, fun w hw => ?_⟩
  simp only [List.mem_append, List.mem_singleton] at hw
  rcases hw with hw | hw
  ·exact h3 w hw
  ·rw [hw]; simp
 ·exact ⟨by omega, h3⟩
theorem thaw_rpres (a b c d : Int) (st : PV) (fs : List Fate) (ss : List Step) (k0 k1 : Blk) (x y : PV) :
  thaw (k0 :: k1 :: (fatesB fs ++ stepsB ss)) depth (mkTup [mkAgg [.pv (.int .i64 a), .pv (.int .i64 b), .pv (.int .i64 c), .pv (.int .i64 d), .pv st, fatesG 2 fs, stepsA (2 + (fatesB fs).length) ss], .pv x, .pv y]) =
   some (.tup [.agg [.int .i64 a, .int .i64 b, .int .i64 c, .int .i64 d, st, fatesN fs, stepsN ss], x, y]) := by
 have h1 : ∀ e, thaw (k0 :: k1 :: (fatesB fs ++ stepsB ss)) (e + 2) (fatesG 2 fs) = some (fatesN fs) := fun e => thaw_fatesG2 fun k hk => by
  have : (fatesB fs).length = 1 := by
   cases fs with
   | nil => simp [fatesB] at hk
   | cons => rfl
  simp only [List.getElem?_cons_succ]
  rw [List.getElem?_append_left (by omega)]
  exact hk
 have h2 : ∀ e, thaw (k0 :: k1 :: (fatesB fs ++ stepsB ss)) (e + 2) (stepsA (2 + (fatesB fs).length) ss) = some (stepsN ss) := fun e => thaw_stepsA fun k hk => by
  have : 1 ≤ (stepsB ss).length := by
   cases ss with
   | nil => simp [stepsB] at hk
   | cons => simp [stepsB]
  simp only [Nat.add_comm 2, List.getElem?_cons_succ]
  rw [List.getElem?_append_right (Nat.le_refl _), Nat.sub_self]
  exact hk
 have h0 : ∀ e p, thaw (k0 :: k1 :: (fatesB fs ++ stepsB ss)) (e + 1) (.pv p) = some p := fun _ _ => rfl
 have hA : ∀ e, thaw (k0 :: k1 :: (fatesB fs ++ stepsB ss)) (e + 4) (.tup [.agg [.pv (.int .i64 a), .pv (.int .i64 b), .pv (.int .i64 c), .pv (.int .i64 d), .pv st, fatesG 2 fs, stepsA (2 + (fatesB fs).length) ss], .pv x, .pv y]) = some (.tup [.agg [.int .i64 a, .int .i64 b, .int .i64 c, .int .i64 d, st, fatesN fs, stepsN ss], x, y]) := fun e => by
  simp only [thaw_tup, thaw_agg, mapAll, h0, h1, h2]
 cases fs with
 | nil =>
  cases ss with
  | nil => rfl
  | cons y yr => exact hA 4
 | cons f fr => exact hA 4
set_option maxHeartbeats 4000000 in
theorem refParse_raw (text : List UInt8) (ht : text.length ≤ 900000) : PureOK ctx 9 [.str text] (refParseV text) := by
  unfold refParseV
  have hls := linesP_small text
  have hlo := lines_ok text (by omega)
  by_cases h6 : 65536 < text.length
  · rw [if_pos h6]
    refine pure_body' (C := ctx) (Fn.of fn9 rfl) rfl ?_
    unfold c9
    repeat' (first
      | ((with_reducible first | show VCs _ | show All _); simp [vb] <;> omega)
      | exact (rfl : some _ = _)
      | (fail_if_success refine awL ?_
         refine evA ?_
         repeat1' dsimp only [c9, go_sem]
         first
         | refine aw4 ?_ ?_ rfl ?_
         | apply aw3
         | apply aw2
         | (refine awB (fun hc => ?_) fun hc => ?_ <;> first | (cases hc; done) | (exfalso; simp at hc <;> omega) | (try simp only [bn] at hc; try contradiction))
         | skip))
  rw [if_neg h6]
  generalize linesP text = ls at *
  generalize hG : refGo ls 0 0 refS0 = G
  refine pure_body' (C := ctx) (Fn.of fn9 rfl) rfl ?_
  unfold c9
  repeat' (first
    | ((with_reducible first | show VCs _ | show All _); simp [vb, hlo] <;> omega)
    | exact (rfl : some _ = _)
    | (fail_if_success refine awL ?_
       refine evT [(30, fun _ => some (wordsP ls))] ?_
       repeat1' dsimp only [c9, go_sem]
       first
       | refine aw4 ?_ ?_ rfl ?_
       | apply aw3
       | apply aw2
       | (refine awB (fun hc => ?_) fun hc => ?_ <;> first | (cases hc; done) | (exfalso; simp [hlo] at hc <;> omega) | (try simp only [bn] at hc; try contradiction))
       | skip))
  refine aw_loopJ (σ := Nat × Nat × Sched) (fun q => q.1 ≤ ls.length ∧ RInv q.2.1 q.2.2 ∧ refGo (ls.drop q.1) q.1 q.2.1 q.2.2 = G) (fun q => rpF q.2.1 ls q.1) (fun q => rpM q.2.2 (rstOf q.2.1 q.2.2)) (fun q => ls.length - q.1) (0, 0, refS0) ⟨Nat.zero_le _, rinv0, by simpa using hG⟩ (by (repeat' (first | exact trivial | refine And.intro (by first | rfl | (simp [get, Nat.beq]; done) | (simp [get, Nat.beq]; omega) | (dsimp only [get]; congr 1 <;> first | rfl | omega | (simp; done) | (simp; omega))) ?_))) ⟨[], rfl⟩ (fun q hq => ⟨Nat.zero_le _, ?_, rpM_ok _ _⟩) ?_
  · obtain ⟨i, d, a, b, c, e, z, fs, ss⟩ := q
    cases fs <;> cases ss <;> simp [okFrame, rpM, bnd, Nat.blt, headsP, wordsP]
  rintro ⟨i, d, s⟩ ⟨hi, hinv, hgo⟩
  dsimp only at hi hinv hgo ⊢
  by_cases hlt : i < ls.length
  · have e := getD_strs ls i hlt
    have hln := hls.2 _ (getD_mem (d := []) hlt)
    have hdrop : ls.drop i = ls.getD i [] :: ls.drop (i + 1) := by
      rw [List.drop_eq_getElem_cons hlt, List.getD, List.getElem?_eq_getElem hlt]
      rfl
    have hsp := refSplit_ok (ls.getD i []) (by omega)
    rw [hdrop] at hgo
    generalize ls.getD i [] = ln at *
    have hsm := splitP_small ln
    simp only [refGo] at hgo
    generalize splitP ln = ws at *
    cases ws with
    | nil =>
      obtain ⟨a, b, c, e', z, fs, ss⟩ := s
      dsimp only at hgo
      repeat' (first
        | ((with_reducible first | show VCs _ | show All _); (try dsimp only [go_sem]); first | (simp [vb, e, hsp] <;> omega) | (simp only [vb, and_true, true_implies]; (repeat' (first | assumption | (with_reducible apply And.intro) | intro _)) <;> first | omega | (simp only [ab, e, hsp]; done) | (simp [e, hsp] <;> omega)))
        | exact (rfl : some _ = _)
        | (fail_if_success refine awL ?_
           refine evTH [(31, fun _ => some (wordsP []))] [(35, { val := some (.pv (.str ln)) })] ?_
           repeat1' dsimp only [c9, wordsP, go_sem]
           first
           | refine aw4 ?_ ?_ rfl ?_
           | apply aw3
           | apply aw2
           | (refine awB (fun hc => ?_) fun hc => ?_ <;> first | (cases hc; done) | (exfalso; simp [e, hsp] at hc <;> omega) | (try simp only [bn] at hc; try contradiction))
           | skip))
      exact ⟨(i + 1, d, _), by dsimp only; omega, ⟨by dsimp only; omega, hinv, hgo⟩, by (repeat' (first | exact trivial | refine And.intro (by first | rfl | (simp [get, Nat.beq]; done) | (simp [get, Nat.beq]; omega) | (dsimp only [get]; congr 1 <;> first | rfl | omega | (simp; done) | (simp; omega))) ?_)), [], (List.append_nil _).symm⟩
    | cons w0 r =>
      dsimp only at hgo
      iterate 5 first
        | refine ⟨fun _ => ?_, fun h => by simp at h <;> omega⟩
        | refine ⟨by simp [vb, hlt] <;> omega, by simp [vb, hlt] <;> omega, ?_⟩
        | (refine evTH [(31, fun _ => some (wordsP (w0 :: r)))] [(35, { val := some (.pv (.str ln)) })] ?_; iterate 2 (try dsimp only [wordsP, go_sem]))
      refine evTH [(31, fun _ => some (wordsP (w0 :: r)))] [(35, { val := some (.pv (.str ln)) })] ?_
      dsimp only [wordsP, go_sem]
      try dsimp only [wordsP, go_sem]
      refine ⟨(by simp [vb, hlt] <;> omega), ?_, ?_⟩
      · exact ⟨hsp, congrArg AV.pv (by rw [Int.toNat_natCast, Nat.mul_one]; exact e), trivial⟩
      iterate 5 first
        | refine ⟨fun h => by simp at h <;> omega, fun _ => ?_⟩
        | refine ⟨by simp [vb] <;> omega, by simp [vb] <;> omega, ?_⟩
        | (refine evA ?_; iterate 2 (try dsimp only [go_sem]))
      refine aw_frame ((10, .pv (wordsP (w0 :: r))) :: rpF d ls i) (by (repeat' (first | exact trivial | refine And.intro (by first | rfl | (simp [get, Nat.beq]; done) | (simp [get, Nat.beq]; omega) | (dsimp only [get]; congr 1 <;> first | rfl | omega | (simp; done) | (simp; omega))) ?_))) ?_
      have hrm : r.length ≤ 1000000 := by have := hsm.1; simp only [List.length_cons] at this; omega
      refine rp_line d s hinv (by omega) hrm (fun w hw => by have := hsm.2 w (by simp [hw]); omega) (fun hq => ?_) (fun q hq g hg => ?_)
      · rw [hq] at hgo
        dsimp only at hgo
        subst hgo
        intro f μ h
        have hc : ((i + 1 : Nat) : Int) = (i : Int) + 1 := by omega
        show RetD μ (errP ((i + 1 : Nat) : Int)) (evResult f μ parseRes)
        rw [hc]
        exact h
      · rw [hq] at hgo
        refine aw_frame (rpF q.1 ls i) hg ?_
        refine evA ?_
        dsimp only [go_sem]
        try dsimp only [go_sem]
        refine ⟨(by simp [vb] <;> omega), (by simp [vb] <;> omega), ?_⟩
        exact ⟨(i + 1, q.1, q.2), by dsimp only; omega, ⟨by dsimp only; omega, refLine_inv hinv hrm hq, hgo⟩, by (repeat' (first | exact trivial | refine And.intro (by first | rfl | (simp [get, Nat.beq]; done) | (simp [get, Nat.beq]; omega) | (dsimp only [get]; congr 1 <;> first | rfl | omega | (simp; done) | (simp; omega))) ?_)), [], (List.append_nil _).symm⟩
  · have hil : i = ls.length := by omega
    subst hil
    rw [List.drop_length] at hgo
    simp only [refGo] at hgo
    subst hgo
    have hn5 := hinv.n5
    have hll : ls.length ≤ 1000000 := by omega
    dsimp only
    obtain ⟨a, b, c, e', z, fs, ss⟩ := s
    by_cases hd : d < 5
    · rw [if_pos hd]
      repeat' (first
        | ((with_reducible first | show VCs _ | show All _); simp [vb] <;> omega)
        | exact (rfl : some _ = _)
        | (fail_if_success refine awL ?_
           refine evA ?_
           repeat1' dsimp only [c9, wordsP, headsP, rpM, resB, rpB, go_sem]
           first
           | refine aw4 ?_ ?_ rfl ?_
           | apply aw3
           | apply aw2
           | (refine awB (fun hc => ?_) fun hc => ?_ <;> first | (cases hc; done) | (exfalso; simp at hc <;> omega) | (try simp only [bn] at hc; try contradiction))
           | skip))
    · have h5 : d = 5 := by omega
      subst h5
      rw [if_neg hd]
      cases fs <;> cases ss
      · repeat' (first
          | ((with_reducible first | show VCs _ | show All _); simp [vb] <;> omega)
          | exact (rfl : some _ = _)
          | (fail_if_success refine awL ?_
             refine evA ?_
             repeat1' dsimp only [c9, wordsP, headsP, rpM, resB, rpB, fatesG_nil, fatesB_nil, stepsA_nil, stepsB_nil, go_sem]
             first
             | refine aw4 ?_ ?_ rfl ?_
             | apply aw3
             | apply aw2
             | (refine awB (fun hc => ?_) fun hc => ?_ <;> first | (cases hc; done) | (exfalso; simp at hc <;> omega) | (try simp only [bn] at hc; try contradiction))
             | skip))
      · repeat' (first
          | ((with_reducible first | show VCs _ | show All _); simp [vb] <;> omega)
          | exact (rfl : some _ = _)
          | (fail_if_success refine awL ?_
             refine evA ?_
             repeat1' dsimp only [c9, wordsP, headsP, rpM, resB, rpB, fatesG_nil, fatesB_nil, stepsA_cons, stepsB_cons, go_sem]
             first
             | refine aw4 ?_ ?_ rfl ?_
             | apply aw3
             | apply aw2
             | (refine awB (fun hc => ?_) fun hc => ?_ <;> first | (cases hc; done) | (exfalso; simp at hc <;> omega) | (try simp only [bn] at hc; try contradiction))
             | skip))
        exact thaw_rpres a b c e' (intsP z) [] (_ :: _) _ _ _ _
      · repeat' (first
          | ((with_reducible first | show VCs _ | show All _); simp [vb] <;> omega)
          | exact (rfl : some _ = _)
          | (fail_if_success refine awL ?_
             refine evA ?_
             repeat1' dsimp only [c9, wordsP, headsP, rpM, resB, rpB, fatesG_cons, fatesB_cons, stepsA_nil, stepsB_nil, go_sem]
             first
             | refine aw4 ?_ ?_ rfl ?_
             | apply aw3
             | apply aw2
             | (refine awB (fun hc => ?_) fun hc => ?_ <;> first | (cases hc; done) | (exfalso; simp at hc <;> omega) | (try simp only [bn] at hc; try contradiction))
             | skip))
        exact thaw_rpres a b c e' (intsP z) (_ :: _) [] _ _ _ _
      · repeat' (first
          | ((with_reducible first | show VCs _ | show All _); simp [vb] <;> omega)
          | exact (rfl : some _ = _)
          | (fail_if_success refine awL ?_
             refine evA ?_
             repeat1' dsimp only [c9, wordsP, headsP, rpM, resB, rpB, fatesG_cons, fatesB_cons, stepsA_cons, stepsB_cons, go_sem]
             first
             | refine aw4 ?_ ?_ rfl ?_
             | apply aw3
             | apply aw2
             | (refine awB (fun hc => ?_) fun hc => ?_ <;> first | (cases hc; done) | (exfalso; simp at hc <;> omega) | (try simp only [bn] at hc; try contradiction))
             | skip))
        exact thaw_rpres a b c e' (intsP z) (_ :: _) (_ :: _) _ _ _ _
theorem refParse_ok (text : List UInt8) (ht : text.length ≤ 900000) : PureOK ctx 9 [.str text] (.tup [schedP (refParseP text).1, .int .i64 (refParseP text).2.1, .int .i64 (refParseP text).2.2]) := by
 have h := (refParse_raw text ht).canon_res 4
 have hz : ∀ x y : Int, canon 4 (.tup [.agg [.int .i64 0, .int .i64 0, .int .i64 0, .int .i64 0, .nilsl, .nilsl, .nilsl], .int .i64 x, .int .i64 y]) = .tup [schedP zeroSched, .int .i64 x, .int .i64 y] := fun _ _ => rfl
 have ho : ∀ s, canon 4 (okP s) = .tup [schedP s, .int .i64 0, .int .i64 0] := fun s => by
  have : canon 4 (okP s) = .tup [canon 3 (schedN s (intsP s.state)), .int .i64 0, .int .i64 0] := rfl
  rw [this, canon_sched]
 unfold refParseV at h
 unfold refParseP
 split at h
 ·rename_i h6
  rw [if_pos h6]
  rwa [hz] at h
 ·rename_i h6
  rw [if_neg h6]
  split at h
  ·rename_i k hg
   unfold errP at h
   rwa [hz] at h
  ·rename_i d s hg
   split at h
   ·rename_i hd
    rw [if_pos hd]
    unfold errP at h
    rwa [hz] at h
   ·rename_i hd
    rw [if_neg hd]
    rwa [ho] at h
end
end Pur
end Go.Proofs.YteokbngllldmdaaGreatDoor
namespace Go.Proofs.YteokbngllldmdaaGreatDoor
namespace Pur
open Go.RowKit
section
open Sch Pl
theorem upTo_get (l : List UInt8) (k : Nat) (h : k < hashAt l) : (upTo 35 l).getD k 0 = l.getD k 0 := by
 unfold hashAt at h
 have hp : (upTo 35 l) <+: l := List.takeWhile_prefix _
 obtain ⟨t, ht⟩ := hp
 simp only [List.getD]
 conv => rhs; rw [← ht]
 rw [List.getElem?_append_left h]
theorem words_at (l : List UInt8) : ∀ k, k ≤ hashAt l → wordsOn 32 (upTo 35 l) = (spAt l k).1 ++ wordsGo 32 ((upTo 35 l).drop k) (spAt l k).2
 | 0, _ => by simp [spAt, wordsOn]
 | k + 1, h => by
  rw [words_at l k (by omega)]
  have hk : k < (upTo 35 l).length := h
  have hd : (upTo 35 l).drop k = l.getD k 0 :: (upTo 35 l).drop (k + 1) := by
   rw [List.drop_eq_getElem_cons hk, ← upTo_get l k h, List.getD, List.getElem?_eq_getElem hk]
   rfl
  rw [hd, wordsGo]
  have hs : spAt l (k + 1) = if l.getD k 0 = 32 then (if (spAt l k).2 = [] then spAt l k else ((spAt l k).1 ++ [(spAt l k).2], [])) else ((spAt l k).1, (spAt l k).2 ++ [l.getD k 0]) := rfl
  rw [hs]
  split
  ·split
   ·rename_i h2
    rw [h2]
   ·simp
  ·rfl
theorem words_split (l : List UInt8) : wordsOn 32 (upTo 35 l) = splitP l := by
 rw [words_at l (hashAt l) (Nat.le_refl _)]
 unfold splitP
 rw [show (upTo 35 l).drop (hashAt l) = [] from List.drop_eq_nil_of_le (Nat.le_refl _)]
 simp only [wordsGo]
 split <;> simp
theorem lines_at (t : List UInt8) : ∀ k, k ≤ t.length → splitOn 10 t = (linesAt t k).1 ++ (match splitOn 10 (t.drop k) with
  | h :: r => ((t.take k).drop (linesAt t k).2 ++ h) :: r
  | [] => [])
 | 0, _ => by
  simp only [linesAt, List.drop_zero, List.take_zero, List.nil_append]
  have := splitOn_ne 10 t
  cases h : splitOn 10 t with
  | nil => exact absurd h this
  | cons a b => rfl
 | k + 1, h => by
  rw [lines_at t k (by omega)]
  have hk : k < t.length := h
  have hd : t.drop k = t.getD k 0 :: t.drop (k + 1) := by
   rw [List.drop_eq_getElem_cons hk, List.getD, List.getElem?_eq_getElem hk]
   rfl
  have hle := linesAt_le t k
  rw [hd, splitOn]
  have hs : linesAt t (k + 1) = if t.getD k 0 = 10 then ((linesAt t k).1 ++ [(t.take k).drop (linesAt t k).2], k + 1) else linesAt t k := rfl
  rw [hs]
  by_cases h10 : t.getD k 0 = 10
  ·rw [if_pos h10, if_pos h10]
   simp only [List.append_nil, List.append_assoc]
   have hne := splitOn_ne 10 (t.drop (k + 1))
   cases hq : splitOn 10 (t.drop (k + 1)) with
   | nil => exact absurd hq hne
   | cons a b => simp
  ·rw [if_neg h10, if_neg h10]
   have hne := splitOn_ne 10 (t.drop (k + 1))
   cases hq : splitOn 10 (t.drop (k + 1)) with
   | nil => exact absurd hq hne
   | cons a b =>
    simp only
    rw [take_succ_getD t k 0 hk, List.drop_append_of_le_length (by simp; omega)]
    simp
theorem lines_split (t : List UInt8) : splitOn 10 t = linesP t ++ (if (linesAt t t.length).2 < t.length then [] else [[]]) := by
 rw [lines_at t t.length (Nat.le_refl _)]
 unfold linesP
 simp only [List.drop_length, splitOn, List.append_nil, List.take_length]
 split
 ·simp
 ·rename_i h
  rw [List.drop_eq_nil_of_le (by omega)]
def smallN (n : Int) : Prop := -1000000000 < n ∧ n < 1000000000
theorem dec_digits : ∀ u : Nat, Lib.decFrom 0 (Lib.decDigits u) = some u := by
 intro u
 induction u using Nat.strongRecOn with
 | _ u ih =>
  have dig : ∀ d, d < 10 → Lib.digitVal (UInt8.ofNat (48 + d)) = some d := fun d hd => by
   have : (UInt8.ofNat (48 + d)).toNat = 48 + d := UInt8.toNat_ofNat_of_lt' (by have : UInt8.size = 256 := rfl; omega)
   rw [Lib.digitVal, this, if_pos (by omega)]
   congr 1
   omega
  rw [Lib.decDigits]
  split
  ·rename_i h
   simp only [Lib.decFrom, dig u h]
   simp
  ·rename_i h
   rw [decFrom_append, ih (u / 10) (by omega)]
   simp only [Lib.decFrom, dig (u % 10) (by omega)]
   congr 1
   omega
theorem nDigits_9 {u : Nat} (h : u < 1000000000) : Lib.nDigits u ≤ 9 := by
 have : ∀ k u : Nat, u < 10 ^ (k + 1) → Lib.nDigits u ≤ k + 1 := by
  intro k
  induction k with
  | zero => intro u hu; rw [Lib.nDigits_small (by simpa using hu)]; omega
  | succ k ih =>
   intro u hu
   by_cases h : u < 10
   ·rw [Lib.nDigits_small h]; omega
   ·rw [Lib.nDigits_big h]
    have := ih (u / 10) (by rw [Nat.div_lt_iff_lt_mul (by decide)]; rw [Nat.pow_succ] at hu; exact hu)
    omega
 exact this 8 u (by simpa using h)
theorem head_digits (u : Nat) : (Lib.decDigits u).head? ≠ some 45 ∧ Lib.decDigits u ≠ [] := by
 have hne : Lib.decDigits u ≠ [] := fun h => by
  have := Lib.decDigits_length u
  rw [h] at this
  have := Lib.nDigits_pos u
  simp at *
  omega
 refine ⟨fun h => ?_, hne⟩
 have h0 : (Lib.decDigits u)[0]? = some 45 := by rw [← List.head?_eq_getElem?]; exact h
 obtain ⟨d, hd⟩ := Lib.digit_of_decFrom _ 0 u (dec_digits u) 0 45 h0
 simp [Lib.digitVal] at hd
theorem digits_itoa (v : Int) : digitsOf (Lib.itoa v) = Lib.decDigits v.natAbs ∧ ∀ m : Nat, signed (Lib.itoa v) m = if v < 0 then -(m : Int) else m := by
 unfold Lib.itoa
 split
 ·refine ⟨by simp [digitsOf], fun m => by simp [signed]⟩
 ·rename_i h
  have e : v.toNat = v.natAbs := by omega
  rw [e]
  have := (head_digits v.natAbs).1
  refine ⟨by unfold digitsOf; rw [if_neg this], fun m => by unfold signed; rw [if_neg this]⟩
theorem refNum_itoa {v : Int} (h : smallN v) : refNumOf (Lib.itoa v) = some v := by
 obtain ⟨h1, h2⟩ := digits_itoa v
 unfold smallN at h
 have hl := Lib.decDigits_length v.natAbs
 have hp := Lib.nDigits_pos v.natAbs
 have h9 := nDigits_9 (u := v.natAbs) (by omega)
 rw [refNum_ok (m := v.natAbs) (by rw [h1]; omega) (by rw [h1]; exact dec_digits _), h2]
 have : (if v < 0 then -(v.natAbs : Int) else (v.natAbs : Int)) = v := by split <;> omega
 rw [this, if_pos rfl]
theorem refNum_inv {l : List UInt8} {v : Int} (h : refNumOf l = some v) : l = Lib.itoa v ∧ smallN v := by
 unfold refNumOf at h
 split at h
 ·rename_i hd
  split at h
  ·rename_i m hm
   split at h
   ·rename_i he
    injection h with h
    subst h
    refine ⟨he.symm, ?_⟩
    have := Lib.decFrom_lt _ _ _ hm
    have h9 : 10 ^ (digitsOf l).length ≤ 10 ^ 9 := Nat.pow_le_pow_right (by decide) hd.2
    unfold smallN signed
    split <;> omega
   ·cases h
  ·cases h
 ·cases h
theorem decFrom_ge : ∀ (l : List UInt8) (acc m : Nat), Lib.decFrom acc l = some m → acc ≤ m
 | [], acc, m, h => by simp [Lib.decFrom] at h; omega
 | c :: r, acc, m, h => by
  simp only [Lib.decFrom] at h
  split at h
  ·have := decFrom_ge r _ m h
   omega
  ·cases h
theorem parse_dec : ∀ (l : List UInt8) (acc m : Nat), Lib.decFrom acc l = some m → m < 1000000000000000000 → Lib.parseUint10 acc l = .ok m
 | [], acc, m, h, _ => by simp [Lib.decFrom] at h; rw [Lib.parseUint10, h]
 | c :: r, acc, m, h, hm => by
  simp only [Lib.decFrom] at h
  split at h
  ·rename_i d hd
   obtain ⟨h1, h2, h3⟩ := Lib.digitVal_eq hd
   have hge := decFrom_ge r _ m h
   rw [Lib.parseUint10, if_pos ⟨h1, h2⟩, if_neg (by omega), if_neg (by omega), ← h3]
   exact parse_dec r _ m h hm
  ·cases h
theorem num_itoa {v : Int} (h : smallN v) : numOf (Lib.itoa v) = some v := by
 unfold smallN at h
 have hp := parse_dec _ 0 _ (dec_digits v.natAbs) (by omega)
 obtain ⟨h1, h2⟩ := head_digits v.natAbs
 have hm : Lib.parseMag (Lib.decDigits v.natAbs) = .ok v.natAbs := by rw [Lib.parseMag, if_neg h2, hp]
 unfold numOf
 have ha : Lib.atoiAll (Lib.itoa v) = .ok v := by
  unfold Lib.itoa
  split
  ·rename_i hv
   simp only [Lib.atoiAll]
   rw [if_pos (.inr (by decide)), hm]
   simp only
   rw [if_neg (by simp), if_neg (by omega), if_pos (by decide)]
   congr 1
   omega
  ·rename_i hv
   have e : v.toNat = v.natAbs := by omega
   rw [e]
   cases hd : Lib.decDigits v.natAbs with
   | nil => exact absurd hd h2
   | cons c r =>
    obtain ⟨d, hdd⟩ := Lib.digit_of_decFrom _ 0 _ (dec_digits v.natAbs) 0 c (by rw [hd]; rfl)
    obtain ⟨g1, g2, g3⟩ := Lib.digitVal_eq hdd
    simp only [Lib.atoiAll]
    rw [if_neg (by omega), ← hd, hm]
    simp only
    rw [if_neg (by omega), if_neg (by omega), if_neg (by omega)]
    congr 1
    omega
 rw [ha]
 simp
theorem num_inv {l : List UInt8} {v : Int} (h : numOf l = some v) : l = Lib.itoa v := by
 unfold numOf at h
 split at h
 ·split at h
  ·rename_i he
   injection h with h
   subst h
   exact he.symm
  ·cases h
 ·cases h
theorem ref_num {l : List UInt8} {v : Int} : refNumOf l = some v ↔ numOf l = some v ∧ smallN v := by
 constructor
 ·intro h
  obtain ⟨rfl, hs⟩ := refNum_inv h
  exact ⟨num_itoa hs, hs⟩
 ·rintro ⟨h, hs⟩
  rw [num_inv h]
  exact refNum_itoa hs
theorem ref_nums : ∀ {l : List (List UInt8)} {ns : List Int}, refNumsOf l = some ns ↔ numsOf l = some ns ∧ ∀ n ∈ ns, smallN n
 | [], ns => by
  simp only [refNumsOf, numsOf, Option.some.injEq]
  constructor
  ·rintro rfl; exact ⟨rfl, by simp⟩
  ·exact fun h => h.1
 | w :: r, ns => by
  simp only [refNumsOf, numsOf]
  constructor
  ·intro h
   cases h1 : refNumOf w with
   | none => rw [h1] at h; cases h
   | some a =>
    rw [h1] at h
    cases h2 : refNumsOf r with
    | none => rw [h2] at h; cases h
    | some b =>
     rw [h2] at h
     injection h with h
     subst h
     have g1 := ref_num.1 h1
     have g2 := ref_nums.1 h2
     rw [g1.1, g2.1]
     refine ⟨rfl, fun n hn => ?_⟩
     cases hn with
     | head => exact g1.2
     | tail _ hn => exact g2.2 n hn
  ·rintro ⟨h, hs⟩
   cases h1 : numOf w with
   | none => rw [h1] at h; cases h
   | some a =>
    rw [h1] at h
    cases h2 : numsOf r with
    | none => rw [h2] at h; cases h
    | some b =>
     rw [h2] at h
     injection h with h
     subst h
     rw [ref_num.2 ⟨h1, hs a (by simp)⟩, ref_nums.2 ⟨h2, fun n hn => hs n (by simp [hn])⟩]
end
end Pur
end Go.Proofs.YteokbngllldmdaaGreatDoor
namespace Go.Proofs.YteokbngllldmdaaGreatDoor
namespace Pur
open Go.RowKit
attribute [local go_sem] evOps evOp evOpV evRun evK argF List.map hintAt stripped get put tmpsOf tmpOf tmpO tmpL tmpP conds ev cond_true cond_false Nat.beq Nat.ble Nat.add quiet After thenR blockR IfD List.append_eq List.nil_append List.cons_append evInt exactI_a exactI_b exactI_c exactI_d exactI_e exactI_f evBin evStr evBool evUn guardC calm quiet.isCallK evPick List.getElem?_cons_zero List.getElem?_cons_succ fromCells fromPVs cellsOf List.all oneCell List.length_cons List.length_nil mkAgg plains List.drop List.take List.getD Option.getD_some bo1 bo2 ba1 ba2 bn1 bn2 kk_i64 kk_u8 kk_i32 kk_u64 setAt List.set Nat.reduceAdd Nat.reduceMul evCall safeCall refsOf refsIn scalarA scalar scalarL thawL mapAll thawArg thawRef after freeze RetD RetE evResult evRess evRes1 thaw_pv mkTup nilOf_a nilOf_b nilOf_bb nilOf_c nilOf_d nilOf_e nilOf_f nilOf_g nilOf_h nilOf_i nilOf_j nilOf_k nilOf_l nilOf_m eqLeaf_a eqLeaf_b eqLeaf_c eqOffs evMM bytesOf evOpsF AfterF footOf footRefs notIn indepF footAt freeOk still evParts fillA zeros intOfA boundA srcOf List.isEmpty appNil_0 appNil_1 appNil_2 Int.reduceToNat Nat.mul_one Nat.reduceSub evC evOpsT evOpsTF autoH tabHint look hintD strip guarded RetPD RetRD mpLen keysOk leafKA leafK bitI nilOf_n nilOf_o Bool.or_false Bool.or_true Bool.and_true Bool.and_false Nat.blt renF renM renB renV idxOf solF solM solA solV thawRef ev1
section
open Sch
def pick (acc : Nat → Step → Bool) : Nat → List Step → List Step
 | _, [] => []
 | i, x :: r => if acc i x then x :: pick acc (i + 1) r else pick acc (i + 1) r
theorem pick_append (acc : Nat → Step → Bool) : ∀ (a b : List Step) (i : Nat), pick acc i (a ++ b) = pick acc i a ++ pick acc (i + a.length) b
 | [], _, _ => by simp [pick]
 | x :: r, b, i => by
  simp only [List.cons_append, pick, pick_append acc r b (i + 1), List.length_cons, show i + 1 + r.length = i + (r.length + 1) by omega]
  split <;> rfl
theorem pick_len (acc : Nat → Step → Bool) : ∀ (a : List Step) (i : Nat), (pick acc i a).length ≤ a.length
 | [], _ => Nat.le_refl _
 | x :: r, i => by
  have := pick_len acc r (i + 1)
  simp only [pick]
  split <;> simp only [List.length_cons] <;> omega
theorem pick_take (acc : Nat → Step → Bool) (l : List Step) (k : Nat) (hk : k < l.length) (d : Step) : pick acc 0 (l.take (k + 1)) = pick acc 0 (l.take k) ++ (if acc k (l.getD k d) then [l.getD k d] else []) := by
 rw [List.take_add_one, pick_append]
 have : (l.take k).length = k := by simp; omega
 rw [this, List.getElem?_eq_getElem hk]
 simp [pick, List.getD, List.getElem?_eq_getElem hk]
theorem steps_at (l : List Step) (k : Nat) (hk : k < l.length) (d : Step) : ((l.flatMap stepC).drop (k * 10)).take 10 = stepC (l.getD k d) := by
 have hL := flatMap_length (g := stepC) (m := 10) (fun _ => rfl) l
 refine List.ext_getElem? fun j => ?_
 by_cases hj : j < 10
 ·rw [List.getElem?_take, if_pos hj, List.getElem?_drop, flatMap_get (m := 10) (fun _ => rfl) l k d j hk hj]
 ·rw [List.getElem?_take, if_neg hj, List.getElem?_eq_none (by simp [stepC]; omega)]
def withS (acc : Nat → Step → Bool) (s : Sched) : Sched := { s with steps := pick acc 0 s.steps }
theorem renV_pv1 (keep : List Nat) (p : PV) : renV keep 3 (AV.pv p) = AV.pv p := rfl
def stepBlk0 (x : Step) : Blk := ⟨(stepC x).map .pv, 0, 10, 41, false⟩
def boxB (s : Sched) : Blk := ⟨[.pv (.int .i64 s.replicas), .pv (.int .i64 s.sessions), .pv (.int .i64 s.sectors), .pv (.int .i64 s.ticks), .pv (intsP s.state), .pv (fatesP s.fates), .pv (stepsP s.steps)], 0, 7, 27, false⟩
def outB (s : Sched) (st : AV) : Blk := ⟨[.pv (.int .i64 s.replicas), .pv (.int .i64 s.sessions), .pv (.int .i64 s.sectors), .pv (.int .i64 s.ticks), .pv (intsP s.state), .pv (fatesP s.fates), st], 0, 7, 27, false⟩
def c51 : ACode := (⟨_, by conv => (lhs; reduce; try simp only [lt1, Int.cast_ofNat_Int, Int.reduceNegSucc, UInt8.reduceOfNat])⟩ : {x // codeOf Tryz.prog 51 (fun _ => false) = some x}).1
theorem fn51 : fnOf Tryz.prog 51 (fun _ => false) = some (c51, [.cell 4 7 true], 39, true) := by kernel_rfl
section
variable (g : FuncId) (caps : List AV) (acc : Nat → Step → Bool) (s : Sched) (p0 p1 : List PV) (z0 z1 : Nat) (e0 e1 : TypeId)
def w20 : AM := [⟨p0.map .pv, 0, z0, e0, false⟩, ⟨p1.map .pv, 0, z1, e1, false⟩]
def w2M (l : List Step) : AM := w20 p0 p1 z0 z1 e0 e1 ++ [boxB s, resB, outB s (stepsA 5 l)] ++ stepsB l
def w2F (k : Nat) : AF := [(1, .fn g caps), (2, .ptr 2 0 0), (4, .ptr 3 0 0), (5, .ptr 4 0 0), (19, .pv (stepsP s.steps)), (20, .pv (.int .i64 s.steps.length)), (21, .pv (.int .i64 k))]
set_option maxHeartbeats 4000000 in
theorem with2_ok (hs : s.steps.length ≤ 1000000) (h1 : s.state.length ≤ 1000000000000) (h2 : s.fates.length ≤ 1000000000000) (hz : ∀ x ∈ s.steps, Short x)
  (hr1 : caps.map (renV [0, 1, 2, 3, 4] 2) = caps) (hr2 : caps.map (renV [0, 1, 2, 3, 4, 6] 2) = caps) (hr3 : caps.map (renV [0, 1, 2, 3, 4, 5] 2) = caps)
  (hcb : ∀ (k : Nat) ν, k < s.steps.length → okMem (w20 p0 p1 z0 z1 e0 e1 ++ ν) (w20 p0 p1 z0 z1 e0 e1 ++ ν).length = true → RefOK ctx g ([.pv (.int .i64 k), .pv (stepP (s.steps.getD k zeroStep))] ++ caps) (w20 p0 p1 z0 z1 e0 e1 ++ ν) (.pv (.bool (acc k (s.steps.getD k zeroStep)))) (w20 p0 p1 z0 z1 e0 e1 ++ ν)) :
  RefOK ctx 51 [.pv (schedP s), .fn g caps] (w20 p0 p1 z0 z1 e0 e1) (.pv (schedP (withS acc s))) (w20 p0 p1 z0 z1 e0 e1) := by
 have c1 := cloneI_ok s.state h1
 have c2 := cloneF_ok s.fates h2
 have hok : okMem (w20 p0 p1 z0 z1 e0 e1) (w20 p0 p1 z0 z1 e0 e1).length = true := by simp [okMem, w20, bnd]
 generalize hres : schedP (withS acc s) = res
 refine ref_body' (C := ctx) (Fn.of fn51 rfl) rfl (by simp) rfl hok ?_
 unfold c51
 refine evT [(86, fun _ => some (intsP s.state)), (87, fun _ => some (fatesP s.fates))] ?_
 dsimp only [w20, schedP, intsP, fatesP, stepsP, go_sem]
 try dsimp only [w20, schedP, intsP, fatesP, stepsP, go_sem]
 refine ⟨(by simp [vb, c1, c2] <;> omega), (by simp [vb, c1, c2] <;> omega), ?_⟩
 refine evT [(86, fun _ => some (intsP s.state)), (87, fun _ => some (fatesP s.fates))] ?_
 dsimp only [w20, schedP, intsP, fatesP, stepsP, go_sem]
 try dsimp only [w20, schedP, intsP, fatesP, stepsP, go_sem]
 refine ⟨(by simp [vb, c1, c2] <;> omega), (by simp [vb, c1, c2] <;> omega), ?_⟩
 refine evT [(86, fun _ => some (intsP s.state)), (87, fun _ => some (fatesP s.fates))] ?_
 dsimp only [w20, schedP, intsP, fatesP, stepsP, go_sem]
 try dsimp only [w20, schedP, intsP, fatesP, stepsP, go_sem]
 refine ⟨(by first | exact True.intro | (simp only [vb, lb]; omega) | (simp only [vb, lb, c1, c2]; and_intros <;> first | omega | (simp <;> omega)) | (simp [vb, c1, c2] <;> omega)), (by first | exact True.intro | ((try dsimp only [go_sem]); first | (simp [vb, c1, c2] <;> omega) | (simp only [vb, and_true, true_implies]; (repeat' (first | assumption | (with_reducible apply And.intro) | intro _)) <;> first | omega | rfl | (simp only [ab, c1, c2]; done) | (simp [Nat.mul_one, c1, c2] <;> omega) | (simp_all; done)))), ?_⟩
 refine aw_seq ?_
 refine evA ?_
 dsimp only [stepsP, go_sem]
 try dsimp only [stepsP, go_sem]
 refine ⟨(by simp [vb] <;> omega), (by simp [vb] <;> omega), ?_⟩
 refine aw_block ?_
 refine aw_forP s.steps.length (fun _ => True) (w2F g caps s) (fun k => w2M s p0 p1 z0 z1 e0 e1 (pick acc 0 (s.steps.take k))) trivial ⟨rfl, rfl, rfl, rfl, rfl, rfl, rfl, trivial⟩ rfl fun k hk _ => ?_
 by_cases hlt : k < s.steps.length
 ·have hd : decide ((k : Int) < s.steps.length) = true := by simp; omega
  have hT := pick_take acc s.steps k hlt zeroStep
  have hC := fun ν => hcb k ν hlt
  have hat := steps_at s.steps k hlt zeroStep
  have hcp := copied_ok (s.steps.getD k zeroStep) (hz _ (by rw [List.getD, List.getElem?_eq_getElem hlt]; exact List.getElem_mem hlt))
  have hL := flatMap_length (g := stepC) (m := 10) (fun _ => rfl) s.steps
  generalize s.steps.getD k zeroStep = x at *
  generalize hpk : pick acc 0 (s.steps.take k) = pk at *
  have hlen : pk.length ≤ 1000000 := by have := pick_len acc (s.steps.take k) 0; rw [hpk] at this; simp at this; omega
  generalize hI : (fun (f' : AF) (μ' : AM) => k < s.steps.length ∧ True ∧ Sub (w2F g caps s (k + 1)) f' ∧ μ' = w2M s p0 p1 z0 z1 e0 e1 (pick acc 0 (s.steps.take (k + 1)))) = I
  unfold w2F w2M
  cases pk with
  | nil =>
   refine evA ?_
   dsimp only [w20, boxB, resB, outB, stepsA_nil, stepsB_nil, go_sem]
   try dsimp only [w20, boxB, resB, outB, stepsA_nil, stepsB_nil, go_sem]
   refine ⟨(by simp [vb] <;> omega), (by simp [vb] <;> omega), ?_⟩
   rw [hd]
   refine evA ?_
   dsimp only [go_sem]
   refine ⟨fun _ => ?_, fun h => by simp at h <;> omega⟩
   refine evA ?_
   dsimp only [go_sem]
   refine aw_seq ?_
   refine aw_block ?_
   refine evH [(25, { val := some (.pv (stepP x)) })] ?_
   dsimp only [stepsP, stepP, stepC, queriesP, intsP, go_sem]
   try dsimp only [stepsP, stepP, stepC, queriesP, intsP, go_sem]
   refine ⟨(by simp [vb, hlt, hL] <;> omega), ?_, ?_⟩
   ·refine ⟨?_, trivial⟩
    rw [Int.toNat_natCast, hat]
    rfl
   have hC' := hC [boxB s, resB, outB s (stepsA 5 []), stepBlk0 x] (by simp [okMem, w20, boxB, resB, outB, stepBlk0, stepC, bnd, stepsA])
   unfold w20 boxB resB outB stepBlk0 stepP stepC at hC'
   cases ha : acc k x with
   | false =>
    rw [ha] at hC'
    refine evH [(29, { val := some (.pv (.bool false)), ro := true })] ?_
    dsimp only [go_sem]
    try dsimp only [go_sem]
    refine ⟨(by simp [vb] <;> omega), ?_, ?_⟩
    ·exact ⟨hC', trivial⟩
    refine evA ?_
    dsimp only [go_sem]
    refine ⟨fun h => by simp at h <;> omega, fun _ => ?_⟩
    refine evA ?_
    dsimp only [go_sem]
    refine aw_keep [0, 1, 2, 3, 4] rfl ?_
    refine evA ?_
    dsimp only [go_sem]
    try dsimp only [go_sem]
    refine ⟨(by simp [vb] <;> omega), (by simp [vb] <;> omega), ?_⟩
    subst hI
    refine ⟨hlt, trivial, ⟨congrArg (AV.fn g) hr1, rfl, rfl, rfl, rfl, rfl, rfl, trivial⟩, ?_⟩
    rw [hT, ha]
    simp [w2M, w20, boxB, resB, outB, stepsA_nil, stepsB_nil, renV_pv1, intsP, fatesP, stepsP]
   | true =>
    rw [ha] at hC'
    refine evH [(29, { val := some (.pv (.bool true)), ro := true })] ?_
    dsimp only [go_sem]
    try dsimp only [go_sem]
    refine ⟨(by simp [vb] <;> omega), ?_, ?_⟩
    ·exact ⟨hC', trivial⟩
    refine evTH [(88, fun _ => some (stepP x))] [(35, { mode := 1 })] ?_
    dsimp only [go_sem]
    refine ⟨fun _ => ?_, fun h => by simp at h <;> omega⟩
    refine evTH [(88, fun _ => some (stepP x))] [(35, { mode := 1 })] ?_
    dsimp only [go_sem]
    try dsimp only [go_sem]
    refine ⟨(by first | exact True.intro | (simp only [vb, lb]; omega) | (simp only [vb, lb, hcp]; and_intros <;> first | omega | (simp <;> omega)) | (simp [vb, hcp] <;> omega)), (by first | exact True.intro | ((try dsimp only [go_sem]); first | (simp [vb, hcp] <;> omega) | (simp only [vb, and_true, true_implies]; (repeat' (first | assumption | (with_reducible apply And.intro) | intro _)) <;> first | omega | rfl | (simp only [ab, hcp]; done) | (simp [Nat.mul_one, hcp] <;> omega) | (simp_all; done)))), ?_⟩
    refine aw_keep [0, 1, 2, 3, 4, 6] rfl ?_
    refine evA ?_
    dsimp only [go_sem]
    try dsimp only [go_sem]
    refine ⟨(by simp [vb] <;> omega), (by simp [vb] <;> omega), ?_⟩
    subst hI
    refine ⟨hlt, trivial, ⟨congrArg (AV.fn g) hr2, rfl, rfl, rfl, rfl, rfl, rfl, trivial⟩, ?_⟩
    rw [hT, ha]
    simp [w2M, w20, boxB, resB, outB, stepsA_cons, stepsB_cons, renV_pv1, intsP, fatesP, stepsP, stepC, queriesP]
  | cons y yr =>
   simp only [List.length_cons] at hlen
   refine evA ?_
   dsimp only [w20, boxB, resB, outB, stepsA_cons, stepsB_cons, go_sem]
   try dsimp only [w20, boxB, resB, outB, stepsA_cons, stepsB_cons, go_sem]
   refine ⟨(by simp [vb] <;> omega), (by simp [vb] <;> omega), ?_⟩
   rw [hd]
   refine evA ?_
   dsimp only [go_sem]
   refine ⟨fun _ => ?_, fun h => by simp at h <;> omega⟩
   refine evA ?_
   dsimp only [go_sem]
   refine aw_seq ?_
   refine aw_block ?_
   refine evH [(25, { val := some (.pv (stepP x)) })] ?_
   dsimp only [stepsP, stepP, stepC, queriesP, intsP, go_sem]
   try dsimp only [stepsP, stepP, stepC, queriesP, intsP, go_sem]
   refine ⟨(by simp [vb, hlt, hL] <;> omega), ?_, ?_⟩
   ·refine ⟨?_, trivial⟩
    rw [Int.toNat_natCast, hat]
    rfl
   have hC' := hC ([boxB s, resB, outB s (stepsA 5 (y :: yr))] ++ stepsB (y :: yr) ++ [stepBlk0 x]) (by simp [okMem, w20, boxB, resB, outB, stepBlk0, stepC, bnd, stepsA, stepsB, Nat.blt])
   unfold w20 boxB resB outB stepBlk0 stepP stepC at hC'
   cases ha : acc k x with
   | false =>
    rw [ha] at hC'
    refine evH [(29, { val := some (.pv (.bool false)), ro := true })] ?_
    dsimp only [go_sem]
    try dsimp only [go_sem]
    refine ⟨(by simp [vb] <;> omega), ?_, ?_⟩
    ·exact ⟨hC', trivial⟩
    refine evA ?_
    dsimp only [go_sem]
    refine ⟨fun h => by simp at h <;> omega, fun _ => ?_⟩
    refine evA ?_
    dsimp only [go_sem]
    refine aw_keep [0, 1, 2, 3, 4, 5] rfl ?_
    refine evA ?_
    dsimp only [go_sem]
    try dsimp only [go_sem]
    refine ⟨(by simp [vb] <;> omega), (by simp [vb] <;> omega), ?_⟩
    subst hI
    refine ⟨hlt, trivial, ⟨congrArg (AV.fn g) hr3, rfl, rfl, rfl, rfl, rfl, rfl, trivial⟩, ?_⟩
    rw [hT, ha]
    simp [w2M, w20, boxB, resB, outB, stepsA_cons, stepsB_cons, renV_pv1, intsP, fatesP, stepsP, stepC, queriesP]
   | true =>
    rw [ha] at hC'
    refine evH [(29, { val := some (.pv (.bool true)), ro := true })] ?_
    dsimp only [go_sem]
    try dsimp only [go_sem]
    refine ⟨(by simp [vb] <;> omega), ?_, ?_⟩
    ·exact ⟨hC', trivial⟩
    refine evTH [(88, fun _ => some (stepP x))] [(35, { mode := 1 })] ?_
    dsimp only [go_sem]
    refine ⟨fun _ => ?_, fun h => by simp at h <;> omega⟩
    refine evTH [(88, fun _ => some (stepP x))] [(35, { mode := 1 })] ?_
    dsimp only [go_sem]
    try dsimp only [go_sem]
    refine ⟨(by first | exact True.intro | (simp only [vb, lb]; omega) | (simp only [vb, lb, hcp, flatMap_length stepC_len, stepC_len]; and_intros <;> first | omega | (simp <;> omega)) | (simp [vb, hcp, flatMap_length stepC_len, stepC_len] <;> omega)), (by first | exact True.intro | ((try dsimp only [go_sem]); first | (simp [vb, hcp, flatMap_length stepC_len, stepC_len] <;> omega) | (simp only [vb, and_true, true_implies]; (repeat' (first | assumption | (with_reducible apply And.intro) | intro _)) <;> first | omega | rfl | (simp only [ab, hcp, flatMap_length stepC_len, stepC_len]; done) | (simp [Nat.mul_one, hcp, flatMap_length stepC_len, stepC_len] <;> omega) | (simp_all; done)))), ?_⟩
    refine aw_keep [0, 1, 2, 3, 4, 5] rfl ?_
    refine evA ?_
    dsimp only [go_sem]
    try dsimp only [go_sem]
    refine ⟨(by simp [vb] <;> omega), (by simp [vb] <;> omega), ?_⟩
    subst hI
    refine ⟨hlt, trivial, ⟨congrArg (AV.fn g) hr3, rfl, rfl, rfl, rfl, rfl, rfl, trivial⟩, ?_⟩
    rw [hT, ha]
    simp [w2M, w20, boxB, resB, outB, stepsA_cons, stepsB_cons, renV_pv1, intsP, fatesP, stepsP, stepC, queriesP]
 ·have hd : decide ((k : Int) < s.steps.length) = false := by simp; omega
  have : k = s.steps.length := by omega
  subst this
  rw [List.take_length]
  have hlen := pick_len acc s.steps 0
  have hL := flatMap_length (g := stepC) (m := 10) (fun _ => rfl) (pick acc 0 s.steps)
  unfold w2F w2M
  have hres' : schedP { s with steps := pick acc 0 s.steps } = res := hres
  generalize hpk : pick acc 0 s.steps = pk at *
  subst hres'
  cases pk with
  | nil =>
   refine evA ?_
   dsimp only [w20, boxB, resB, outB, stepsA_nil, stepsB_nil, go_sem]
   try dsimp only [w20, boxB, resB, outB, stepsA_nil, stepsB_nil, go_sem]
   refine ⟨(by simp [vb] <;> omega), (by simp [vb] <;> omega), ?_⟩
   rw [hd]
   refine evA ?_
   dsimp only [go_sem]
   refine ⟨fun h => by simp at h <;> omega, fun _ => ?_⟩
   refine evA ?_
   dsimp only [go_sem]
   refine aw_frame [(4, .ptr 3 0 0), (5, .ptr 4 0 0)] ⟨rfl, rfl, trivial⟩ ?_
   refine aw_weak (μ' := w20 p0 p1 z0 z1 e0 e1 ++ [boxB s, resB] ++ [outB s (.pv (.sl 0 []))]) (MW.last (μ := w20 p0 p1 z0 z1 e0 e1 ++ [boxB s, resB]) (x := outB s (.pv .nilsl)) ⟨PW.cons (CW.refl _) (PW.cons (CW.refl _) (PW.cons (CW.refl _) (PW.cons (CW.refl _) (PW.cons (CW.refl _) (PW.cons (CW.refl _) (PW.cons CW.nil PW.nil)))))), rfl, rfl, rfl, rfl⟩) ?_
   refine evA ?_
   dsimp only [w20, boxB, resB, outB, go_sem]
   try dsimp only [w20, boxB, resB, outB, go_sem]
   refine ⟨(by simp [vb] <;> omega), (by simp [vb] <;> omega), ?_⟩
   refine evA ?_
   dsimp only [w20, boxB, resB, outB, go_sem]
   exact ⟨⟨(by first | exact True.intro | (simp only [vb, lb]; omega) | (simp [vb] <;> omega)), rfl⟩, _, rfl⟩
  | cons y yr =>
   refine evA ?_
   dsimp only [w20, boxB, resB, outB, stepsA_cons, stepsB_cons, go_sem]
   try dsimp only [w20, boxB, resB, outB, stepsA_cons, stepsB_cons, go_sem]
   refine ⟨(by simp [vb] <;> omega), (by simp [vb] <;> omega), ?_⟩
   rw [hd]
   refine evA ?_
   dsimp only [go_sem]
   refine ⟨fun h => by simp at h <;> omega, fun _ => ?_⟩
   refine evA ?_
   dsimp only [go_sem]
   refine aw_frame [(4, .ptr 3 0 0), (5, .ptr 4 0 0)] ⟨rfl, rfl, trivial⟩ ?_
   refine aw_rowDone (μ := w20 p0 p1 z0 z1 e0 e1 ++ [boxB s, resB]) (c1 := [.int .i64 s.replicas, .int .i64 s.sessions, .int .i64 s.sectors, .int .i64 s.ticks, intsP s.state, fatesP s.fates]) (c2 := []) (ps := (y :: yr).flatMap stepC) (n := yr.length + 1) (sz := 10) ?_ (by simp [w20]) (by decide) (by simpa using hL) (fun M => rfl) rfl ?_
   ·simp [okMem, w20, boxB, resB, bnd]
   refine evA ?_
   dsimp only [w20, boxB, resB, go_sem]
   try dsimp only [w20, boxB, resB, go_sem]
   refine ⟨(by simp [vb] <;> omega), (by simp [vb] <;> omega), ?_⟩
   refine evA ?_
   dsimp only [w20, boxB, resB, go_sem]
   exact ⟨⟨(by first | exact True.intro | (simp only [vb, lb]; omega) | (simp [vb] <;> omega)), rfl⟩, _, rfl⟩
end
section
variable (g : FuncId) (caps : List AV) (acc : Nat → Step → Bool) (s : Sched) (p0 p1 p2 : List PV) (z0 z1 z2 : Nat) (e0 e1 e2 : TypeId)
def w30 : AM := [⟨p0.map .pv, 0, z0, e0, false⟩, ⟨p1.map .pv, 0, z1, e1, false⟩, ⟨p2.map .pv, 0, z2, e2, false⟩]
def w3M (l : List Step) : AM := w30 p0 p1 p2 z0 z1 z2 e0 e1 e2 ++ [boxB s, resB, outB s (stepsA 6 l)] ++ stepsB l
def w3F (k : Nat) : AF := [(1, .fn g caps), (2, .ptr 3 0 0), (4, .ptr 4 0 0), (5, .ptr 5 0 0), (19, .pv (stepsP s.steps)), (20, .pv (.int .i64 s.steps.length)), (21, .pv (.int .i64 k))]
set_option maxHeartbeats 4000000 in
theorem with3_ok (hs : s.steps.length ≤ 1000000) (h1 : s.state.length ≤ 1000000000000) (h2 : s.fates.length ≤ 1000000000000) (hz : ∀ x ∈ s.steps, Short x)
  (hr1 : caps.map (renV [0, 1, 2, 3, 4, 5] 2) = caps) (hr2 : caps.map (renV [0, 1, 2, 3, 4, 5, 7] 2) = caps) (hr3 : caps.map (renV [0, 1, 2, 3, 4, 5, 6] 2) = caps)
  (hcb : ∀ (k : Nat) ν, k < s.steps.length → okMem (w30 p0 p1 p2 z0 z1 z2 e0 e1 e2 ++ ν) (w30 p0 p1 p2 z0 z1 z2 e0 e1 e2 ++ ν).length = true → RefOK ctx g ([.pv (.int .i64 k), .pv (stepP (s.steps.getD k zeroStep))] ++ caps) (w30 p0 p1 p2 z0 z1 z2 e0 e1 e2 ++ ν) (.pv (.bool (acc k (s.steps.getD k zeroStep)))) (w30 p0 p1 p2 z0 z1 z2 e0 e1 e2 ++ ν)) :
  RefOK ctx 51 [.pv (schedP s), .fn g caps] (w30 p0 p1 p2 z0 z1 z2 e0 e1 e2) (.pv (schedP (withS acc s))) (w30 p0 p1 p2 z0 z1 z2 e0 e1 e2) := by
 have c1 := cloneI_ok s.state h1
 have c2 := cloneF_ok s.fates h2
 have hok : okMem (w30 p0 p1 p2 z0 z1 z2 e0 e1 e2) (w30 p0 p1 p2 z0 z1 z2 e0 e1 e2).length = true := by simp [okMem, w30, bnd]
 generalize hres : schedP (withS acc s) = res
 refine ref_body' (C := ctx) (Fn.of fn51 rfl) rfl (by simp) rfl hok ?_
 unfold c51
 refine evT [(86, fun _ => some (intsP s.state)), (87, fun _ => some (fatesP s.fates))] ?_
 dsimp only [w30, schedP, intsP, fatesP, stepsP, go_sem]
 try dsimp only [w30, schedP, intsP, fatesP, stepsP, go_sem]
 refine ⟨(by simp [vb, c1, c2] <;> omega), (by simp [vb, c1, c2] <;> omega), ?_⟩
 refine evT [(86, fun _ => some (intsP s.state)), (87, fun _ => some (fatesP s.fates))] ?_
 dsimp only [w30, schedP, intsP, fatesP, stepsP, go_sem]
 try dsimp only [w30, schedP, intsP, fatesP, stepsP, go_sem]
 refine ⟨(by simp [vb, c1, c2] <;> omega), (by simp [vb, c1, c2] <;> omega), ?_⟩
 refine evT [(86, fun _ => some (intsP s.state)), (87, fun _ => some (fatesP s.fates))] ?_
 dsimp only [w30, schedP, intsP, fatesP, stepsP, go_sem]
 try dsimp only [w30, schedP, intsP, fatesP, stepsP, go_sem]
 refine ⟨(by first | exact True.intro | (simp only [vb, lb]; omega) | (simp only [vb, lb, c1, c2]; and_intros <;> first | omega | (simp <;> omega)) | (simp [vb, c1, c2] <;> omega)), (by first | exact True.intro | ((try dsimp only [go_sem]); first | (simp [vb, c1, c2] <;> omega) | (simp only [vb, and_true, true_implies]; (repeat' (first | assumption | (with_reducible apply And.intro) | intro _)) <;> first | omega | rfl | (simp only [ab, c1, c2]; done) | (simp [Nat.mul_one, c1, c2] <;> omega) | (simp_all; done)))), ?_⟩
 refine aw_seq ?_
 refine evA ?_
 dsimp only [stepsP, go_sem]
 try dsimp only [stepsP, go_sem]
 refine ⟨(by simp [vb] <;> omega), (by simp [vb] <;> omega), ?_⟩
 refine aw_block ?_
 refine aw_forP s.steps.length (fun _ => True) (w3F g caps s) (fun k => w3M s p0 p1 p2 z0 z1 z2 e0 e1 e2 (pick acc 0 (s.steps.take k))) trivial ⟨rfl, rfl, rfl, rfl, rfl, rfl, rfl, trivial⟩ rfl fun k hk _ => ?_
 by_cases hlt : k < s.steps.length
 ·have hd : decide ((k : Int) < s.steps.length) = true := by simp; omega
  have hT := pick_take acc s.steps k hlt zeroStep
  have hC := fun ν => hcb k ν hlt
  have hat := steps_at s.steps k hlt zeroStep
  have hcp := copied_ok (s.steps.getD k zeroStep) (hz _ (by rw [List.getD, List.getElem?_eq_getElem hlt]; exact List.getElem_mem hlt))
  have hL := flatMap_length (g := stepC) (m := 10) (fun _ => rfl) s.steps
  generalize s.steps.getD k zeroStep = x at *
  generalize hpk : pick acc 0 (s.steps.take k) = pk at *
  have hlen : pk.length ≤ 1000000 := by have := pick_len acc (s.steps.take k) 0; rw [hpk] at this; simp at this; omega
  generalize hI : (fun (f' : AF) (μ' : AM) => k < s.steps.length ∧ True ∧ Sub (w3F g caps s (k + 1)) f' ∧ μ' = w3M s p0 p1 p2 z0 z1 z2 e0 e1 e2 (pick acc 0 (s.steps.take (k + 1)))) = I
  unfold w3F w3M
  cases pk with
  | nil =>
   refine evA ?_
   dsimp only [w30, boxB, resB, outB, stepsA_nil, stepsB_nil, go_sem]
   try dsimp only [w30, boxB, resB, outB, stepsA_nil, stepsB_nil, go_sem]
   refine ⟨(by simp [vb] <;> omega), (by simp [vb] <;> omega), ?_⟩
   rw [hd]
   refine evA ?_
   dsimp only [go_sem]
   refine ⟨fun _ => ?_, fun h => by simp at h <;> omega⟩
   refine evA ?_
   dsimp only [go_sem]
   refine aw_seq ?_
   refine aw_block ?_
   refine evH [(25, { val := some (.pv (stepP x)) })] ?_
   dsimp only [stepsP, stepP, stepC, queriesP, intsP, go_sem]
   try dsimp only [stepsP, stepP, stepC, queriesP, intsP, go_sem]
   refine ⟨(by simp [vb, hlt, hL] <;> omega), ?_, ?_⟩
   ·refine ⟨?_, trivial⟩
    rw [Int.toNat_natCast, hat]
    rfl
   have hC' := hC [boxB s, resB, outB s (stepsA 6 []), stepBlk0 x] (by simp [okMem, w30, boxB, resB, outB, stepBlk0, stepC, bnd, stepsA])
   unfold w30 boxB resB outB stepBlk0 stepP stepC at hC'
   cases ha : acc k x with
   | false =>
    rw [ha] at hC'
    refine evH [(29, { val := some (.pv (.bool false)), ro := true })] ?_
    dsimp only [go_sem]
    try dsimp only [go_sem]
    refine ⟨(by simp [vb] <;> omega), ?_, ?_⟩
    ·exact ⟨hC', trivial⟩
    refine evA ?_
    dsimp only [go_sem]
    refine ⟨fun h => by simp at h <;> omega, fun _ => ?_⟩
    refine evA ?_
    dsimp only [go_sem]
    refine aw_keep [0, 1, 2, 3, 4, 5] rfl ?_
    refine evA ?_
    dsimp only [go_sem]
    try dsimp only [go_sem]
    refine ⟨(by simp [vb] <;> omega), (by simp [vb] <;> omega), ?_⟩
    subst hI
    refine ⟨hlt, trivial, ⟨congrArg (AV.fn g) hr1, rfl, rfl, rfl, rfl, rfl, rfl, trivial⟩, ?_⟩
    rw [hT, ha]
    simp [w3M, w30, boxB, resB, outB, stepsA_nil, stepsB_nil, renV_pv1, intsP, fatesP, stepsP]
   | true =>
    rw [ha] at hC'
    refine evH [(29, { val := some (.pv (.bool true)), ro := true })] ?_
    dsimp only [go_sem]
    try dsimp only [go_sem]
    refine ⟨(by simp [vb] <;> omega), ?_, ?_⟩
    ·exact ⟨hC', trivial⟩
    refine evTH [(88, fun _ => some (stepP x))] [(35, { mode := 1 })] ?_
    dsimp only [go_sem]
    refine ⟨fun _ => ?_, fun h => by simp at h <;> omega⟩
    refine evTH [(88, fun _ => some (stepP x))] [(35, { mode := 1 })] ?_
    dsimp only [go_sem]
    try dsimp only [go_sem]
    refine ⟨(by first | exact True.intro | (simp only [vb, lb]; omega) | (simp only [vb, lb, hcp]; and_intros <;> first | omega | (simp <;> omega)) | (simp [vb, hcp] <;> omega)), (by first | exact True.intro | ((try dsimp only [go_sem]); first | (simp [vb, hcp] <;> omega) | (simp only [vb, and_true, true_implies]; (repeat' (first | assumption | (with_reducible apply And.intro) | intro _)) <;> first | omega | rfl | (simp only [ab, hcp]; done) | (simp [Nat.mul_one, hcp] <;> omega) | (simp_all; done)))), ?_⟩
    refine aw_keep [0, 1, 2, 3, 4, 5, 7] rfl ?_
    refine evA ?_
    dsimp only [go_sem]
    try dsimp only [go_sem]
    refine ⟨(by simp [vb] <;> omega), (by simp [vb] <;> omega), ?_⟩
    subst hI
    refine ⟨hlt, trivial, ⟨congrArg (AV.fn g) hr2, rfl, rfl, rfl, rfl, rfl, rfl, trivial⟩, ?_⟩
    rw [hT, ha]
    simp [w3M, w30, boxB, resB, outB, stepsA_cons, stepsB_cons, renV_pv1, intsP, fatesP, stepsP, stepC, queriesP]
  | cons y yr =>
   simp only [List.length_cons] at hlen
   refine evA ?_
   dsimp only [w30, boxB, resB, outB, stepsA_cons, stepsB_cons, go_sem]
   try dsimp only [w30, boxB, resB, outB, stepsA_cons, stepsB_cons, go_sem]
   refine ⟨(by simp [vb] <;> omega), (by simp [vb] <;> omega), ?_⟩
   rw [hd]
   refine evA ?_
   dsimp only [go_sem]
   refine ⟨fun _ => ?_, fun h => by simp at h <;> omega⟩
   refine evA ?_
   dsimp only [go_sem]
   refine aw_seq ?_
   refine aw_block ?_
   refine evH [(25, { val := some (.pv (stepP x)) })] ?_
   dsimp only [stepsP, stepP, stepC, queriesP, intsP, go_sem]
   try dsimp only [stepsP, stepP, stepC, queriesP, intsP, go_sem]
   refine ⟨(by simp [vb, hlt, hL] <;> omega), ?_, ?_⟩
   ·refine ⟨?_, trivial⟩
    rw [Int.toNat_natCast, hat]
    rfl
   have hC' := hC ([boxB s, resB, outB s (stepsA 6 (y :: yr))] ++ stepsB (y :: yr) ++ [stepBlk0 x]) (by simp [okMem, w30, boxB, resB, outB, stepBlk0, stepC, bnd, stepsA, stepsB, Nat.blt])
   unfold w30 boxB resB outB stepBlk0 stepP stepC at hC'
   cases ha : acc k x with
   | false =>
    rw [ha] at hC'
    refine evH [(29, { val := some (.pv (.bool false)), ro := true })] ?_
    dsimp only [go_sem]
    try dsimp only [go_sem]
    refine ⟨(by simp [vb] <;> omega), ?_, ?_⟩
    ·exact ⟨hC', trivial⟩
    refine evA ?_
    dsimp only [go_sem]
    refine ⟨fun h => by simp at h <;> omega, fun _ => ?_⟩
    refine evA ?_
    dsimp only [go_sem]
    refine aw_keep [0, 1, 2, 3, 4, 5, 6] rfl ?_
    refine evA ?_
    dsimp only [go_sem]
    try dsimp only [go_sem]
    refine ⟨(by simp [vb] <;> omega), (by simp [vb] <;> omega), ?_⟩
    subst hI
    refine ⟨hlt, trivial, ⟨congrArg (AV.fn g) hr3, rfl, rfl, rfl, rfl, rfl, rfl, trivial⟩, ?_⟩
    rw [hT, ha]
    simp [w3M, w30, boxB, resB, outB, stepsA_cons, stepsB_cons, renV_pv1, intsP, fatesP, stepsP, stepC, queriesP]
   | true =>
    rw [ha] at hC'
    refine evH [(29, { val := some (.pv (.bool true)), ro := true })] ?_
    dsimp only [go_sem]
    try dsimp only [go_sem]
    refine ⟨(by simp [vb] <;> omega), ?_, ?_⟩
    ·exact ⟨hC', trivial⟩
    refine evTH [(88, fun _ => some (stepP x))] [(35, { mode := 1 })] ?_
    dsimp only [go_sem]
    refine ⟨fun _ => ?_, fun h => by simp at h <;> omega⟩
    refine evTH [(88, fun _ => some (stepP x))] [(35, { mode := 1 })] ?_
    dsimp only [go_sem]
    try dsimp only [go_sem]
    refine ⟨(by first | exact True.intro | (simp only [vb, lb]; omega) | (simp only [vb, lb, hcp, flatMap_length stepC_len, stepC_len]; and_intros <;> first | omega | (simp <;> omega)) | (simp [vb, hcp, flatMap_length stepC_len, stepC_len] <;> omega)), (by first | exact True.intro | ((try dsimp only [go_sem]); first | (simp [vb, hcp, flatMap_length stepC_len, stepC_len] <;> omega) | (simp only [vb, and_true, true_implies]; (repeat' (first | assumption | (with_reducible apply And.intro) | intro _)) <;> first | omega | rfl | (simp only [ab, hcp, flatMap_length stepC_len, stepC_len]; done) | (simp [Nat.mul_one, hcp, flatMap_length stepC_len, stepC_len] <;> omega) | (simp_all; done)))), ?_⟩
    refine aw_keep [0, 1, 2, 3, 4, 5, 6] rfl ?_
    refine evA ?_
    dsimp only [go_sem]
    try dsimp only [go_sem]
    refine ⟨(by simp [vb] <;> omega), (by simp [vb] <;> omega), ?_⟩
    subst hI
    refine ⟨hlt, trivial, ⟨congrArg (AV.fn g) hr3, rfl, rfl, rfl, rfl, rfl, rfl, trivial⟩, ?_⟩
    rw [hT, ha]
    simp [w3M, w30, boxB, resB, outB, stepsA_cons, stepsB_cons, renV_pv1, intsP, fatesP, stepsP, stepC, queriesP]
 ·have hd : decide ((k : Int) < s.steps.length) = false := by simp; omega
  have : k = s.steps.length := by omega
  subst this
  rw [List.take_length]
  have hlen := pick_len acc s.steps 0
  have hL := flatMap_length (g := stepC) (m := 10) (fun _ => rfl) (pick acc 0 s.steps)
  unfold w3F w3M
  have hres' : schedP { s with steps := pick acc 0 s.steps } = res := hres
  generalize hpk : pick acc 0 s.steps = pk at *
  subst hres'
  cases pk with
  | nil =>
   refine evA ?_
   dsimp only [w30, boxB, resB, outB, stepsA_nil, stepsB_nil, go_sem]
   try dsimp only [w30, boxB, resB, outB, stepsA_nil, stepsB_nil, go_sem]
   refine ⟨(by simp [vb] <;> omega), (by simp [vb] <;> omega), ?_⟩
   rw [hd]
   refine evA ?_
   dsimp only [go_sem]
   refine ⟨fun h => by simp at h <;> omega, fun _ => ?_⟩
   refine evA ?_
   dsimp only [go_sem]
   refine aw_frame [(4, .ptr 4 0 0), (5, .ptr 5 0 0)] ⟨rfl, rfl, trivial⟩ ?_
   refine aw_weak (μ' := w30 p0 p1 p2 z0 z1 z2 e0 e1 e2 ++ [boxB s, resB] ++ [outB s (.pv (.sl 0 []))]) (MW.last (μ := w30 p0 p1 p2 z0 z1 z2 e0 e1 e2 ++ [boxB s, resB]) (x := outB s (.pv .nilsl)) ⟨PW.cons (CW.refl _) (PW.cons (CW.refl _) (PW.cons (CW.refl _) (PW.cons (CW.refl _) (PW.cons (CW.refl _) (PW.cons (CW.refl _) (PW.cons CW.nil PW.nil)))))), rfl, rfl, rfl, rfl⟩) ?_
   refine evA ?_
   dsimp only [w30, boxB, resB, outB, go_sem]
   try dsimp only [w30, boxB, resB, outB, go_sem]
   refine ⟨(by simp [vb] <;> omega), (by simp [vb] <;> omega), ?_⟩
   refine evA ?_
   dsimp only [w30, boxB, resB, outB, go_sem]
   exact ⟨⟨(by first | exact True.intro | (simp only [vb, lb]; omega) | (simp [vb] <;> omega)), rfl⟩, _, rfl⟩
  | cons y yr =>
   refine evA ?_
   dsimp only [w30, boxB, resB, outB, stepsA_cons, stepsB_cons, go_sem]
   try dsimp only [w30, boxB, resB, outB, stepsA_cons, stepsB_cons, go_sem]
   refine ⟨(by simp [vb] <;> omega), (by simp [vb] <;> omega), ?_⟩
   rw [hd]
   refine evA ?_
   dsimp only [go_sem]
   refine ⟨fun h => by simp at h <;> omega, fun _ => ?_⟩
   refine evA ?_
   dsimp only [go_sem]
   refine aw_frame [(4, .ptr 4 0 0), (5, .ptr 5 0 0)] ⟨rfl, rfl, trivial⟩ ?_
   refine aw_rowDone (μ := w30 p0 p1 p2 z0 z1 z2 e0 e1 e2 ++ [boxB s, resB]) (c1 := [.int .i64 s.replicas, .int .i64 s.sessions, .int .i64 s.sectors, .int .i64 s.ticks, intsP s.state, fatesP s.fates]) (c2 := []) (ps := (y :: yr).flatMap stepC) (n := yr.length + 1) (sz := 10) ?_ (by simp [w30]) (by decide) (by simpa using hL) (fun M => rfl) rfl ?_
   ·simp [okMem, w30, boxB, resB, bnd]
   refine evA ?_
   dsimp only [w30, boxB, resB, go_sem]
   try dsimp only [w30, boxB, resB, go_sem]
   refine ⟨(by simp [vb] <;> omega), (by simp [vb] <;> omega), ?_⟩
   refine evA ?_
   dsimp only [w30, boxB, resB, go_sem]
   exact ⟨⟨(by first | exact True.intro | (simp only [vb, lb]; omega) | (simp [vb] <;> omega)), rfl⟩, _, rfl⟩
end
end
section
open Sch
def c89 : ACode := (⟨_, by conv => (lhs; reduce; try simp only [lt1, Int.cast_ofNat_Int, Int.reduceNegSucc, UInt8.reduceOfNat])⟩ : {x // codeOf Tryz.prog 89 (fun _ => false) = some x}).1
theorem fn89 : fnOf Tryz.prog 89 (fun _ => false) = some (c89, [.t 4], 19, true) := by kernel_rfl
def idxI (l : List Int) (n : Int) : Int := match l.findIdx? (fun x => n == x) with
 | some i => i
 | none => -1
theorem idxI_at {l : List Int} {w : Int} {k : Nat} (hk : k < l.length) (hb : ∀ j, j < k → (w == l.getD j 0) = false) (h : (w == l.getD k 0) = true) : idxI l w = k := by
 have : l.findIdx? (fun x => w == x) = some k := by
  rw [List.findIdx?_eq_some_iff_getElem]
  refine ⟨hk, by simpa [List.getD, List.getElem?_eq_getElem hk] using h, fun j hj => ?_⟩
  have := hb j hj
  simpa [List.getD, List.getElem?_eq_getElem (show j < l.length by omega)] using this
 simp [idxI, this]
theorem idxI_no {l : List Int} {w : Int} (hb : ∀ j, j < l.length → (w == l.getD j 0) = false) : idxI l w = -1 := by
 have : l.findIdx? (fun x => w == x) = none := by
  rw [List.findIdx?_eq_none_iff]
  intro x hx
  obtain ⟨j, hj, rfl⟩ := List.mem_iff_getElem.mp hx
  have := hb j hj
  simpa [List.getD, List.getElem?_eq_getElem hj] using this
 simp [idxI, this]
theorem idxI_has (l : List Int) (n : Int) : decide (idxI l n ≥ 0) = l.contains n := by
 rw [Bool.eq_iff_iff]
 simp only [decide_eq_true_eq, List.contains_iff_mem]
 unfold idxI
 cases h : l.findIdx? (fun x => n == x) with
 | none =>
  rw [List.findIdx?_eq_none_iff] at h
  simp only [show ¬((-1 : Int) ≥ 0) by omega, false_iff]
  intro hn
  have := h n hn
  simp at this
 | some i =>
  rw [List.findIdx?_eq_some_iff_getElem] at h
  obtain ⟨hi, he, -⟩ := h
  simp only [show ((i : Int) ≥ 0) by omega, true_iff]
  have : n = l[i] := by simpa using he
  rw [this]
  exact List.getElem_mem hi
set_option maxHeartbeats 1000000 in
theorem indexI_ok (l : List Int) (w : Int) (hl : l.length ≤ 1000000) : PureOK ctx 89 [intsP l, .int .i64 w] (.int .i64 (idxI l w)) := by
 refine pure_body' (C := ctx) (Fn.of fn89 rfl) rfl ?_
 unfold c89
 refine evA ?_
 dsimp only [intsP, go_sem]
 try dsimp only [intsP, go_sem]
 refine ⟨(by simp [vb] <;> omega), (by simp [vb] <;> omega), ?_⟩
 refine aw_seq ?_
 refine evA ?_
 dsimp only [go_sem]
 try dsimp only [go_sem]
 refine ⟨(by simp [vb] <;> omega), (by simp [vb] <;> omega), ?_⟩
 refine aw_block ?_
 refine aw_forP l.length (fun k => ∀ j, j < k → (w == l.getD j 0) = false) (fun k => [(8, .pv (.int .i64 k)), (7, .pv (.int .i64 l.length)), (0, .pv (.sl l.length (l.map (.int .i64)))), (1, .pv (.int .i64 w))]) (fun _ => []) (fun j hj => by omega) ⟨rfl, rfl, rfl, rfl, trivial⟩ rfl fun k hk hP => ?_
 refine evA ?_
 dsimp only [go_sem]
 try dsimp only [go_sem]
 refine ⟨(by simp [vb] <;> omega), (by simp [vb] <;> omega), ?_⟩
 refine evA ?_
 dsimp only [go_sem]
 refine ⟨fun hc => ?_, fun hc => ?_⟩
 ·have hk2 : k < l.length := by simpa using hc
  have e := getD_map (PV.int .i64) l k 0 default hk2
  simp only [List.getD] at e
  iterate 5 first
   | refine ⟨by simp [vb, hk2] <;> omega, by simp [vb, hk2] <;> omega, ?_⟩
   | (refine evH [(15, { val := some (.pv (.int .i64 (l.getD k 0))) })] ?_; iterate 2 (try dsimp only [go_sem]))
  cases hq : w == l.getD k 0 with
  | true =>
   simp only [List.getD] at hq
   rw [hq]
   iterate 5 first
    | refine ⟨fun _ => ?_, fun h => by simp at h <;> omega⟩
    | refine ⟨by simp [vb] <;> omega, by simp [vb] <;> omega, ?_⟩
    | (refine evA ?_; iterate 2 (try dsimp only [go_sem]))
   exact ⟨trivial, by rw [idxI_at hk2 hP (by simpa [List.getD] using hq)]⟩
  | false =>
   have hq2 := hq
   simp only [List.getD] at hq2
   rw [hq2]
   iterate 5 first
    | refine ⟨fun h => by simp at h <;> omega, fun _ => ?_⟩
    | refine ⟨by simp [vb] <;> omega, by simp [vb] <;> omega, ?_⟩
    | (refine evA ?_; iterate 2 (try dsimp only [go_sem]))
   refine ⟨hk2, fun j hj => ?_, ⟨rfl, rfl, rfl, rfl, trivial⟩, rfl⟩
   by_cases hj2 : j = k
   ·rw [hj2]; exact hq
   ·exact hP j (by omega)
 ·have hk2 : k = l.length := by simp at hc; omega
  subst hk2
  iterate 4 first
   | refine ⟨by simp [vb] <;> omega, by simp [vb] <;> omega, ?_⟩
   | (refine evA ?_; iterate 2 (try dsimp only [go_sem]))
  exact ⟨trivial, by rw [idxI_no hP]⟩
def c54 : ACode := (⟨_, by conv => (lhs; reduce; try simp only [lt1, Int.cast_ofNat_Int, Int.reduceNegSucc, UInt8.reduceOfNat])⟩ : {x // codeOf Tryz.prog 54 (fun _ => false) = some x}).1
theorem fn54 : fnOf Tryz.prog 54 (fun _ => false) = some (c54, [.t 4], 9, true) := by kernel_rfl
theorem containsI_ok (l : List Int) (w : Int) (hl : l.length ≤ 1000000) : PureOK ctx 54 [intsP l, .int .i64 w] (.bool (l.contains w)) := by
 have h := indexI_ok l w hl
 rw [← idxI_has]
 refine pure_body' (C := ctx) (Fn.of fn54 rfl) rfl ?_
 unfold c54
 refine evT [(89, fun _ => some (.int .i64 (idxI l w)))] ?_
 dsimp only [intsP, go_sem]
 try dsimp only [intsP, go_sem]
 refine ⟨(by simp [vb, h] <;> omega), (by simp [vb, h] <;> omega), ?_⟩
 refine evT [(89, fun _ => some (.int .i64 (idxI l w)))] ?_
 dsimp only [intsP, go_sem]
 try dsimp only [intsP, go_sem]
 refine ⟨(by first | exact True.intro | (simp only [vb, lb]; omega) | (simp only [vb, lb, h]; and_intros <;> first | omega | (simp <;> omega)) | (simp [vb, h] <;> omega)), (by first | exact True.intro | ((try dsimp only [go_sem]); first | (simp [vb, h] <;> omega) | (simp only [vb, and_true, true_implies]; (repeat' (first | assumption | (with_reducible apply And.intro) | intro _)) <;> first | omega | rfl | (simp only [ab, h]; done) | (simp [Nat.mul_one, h] <;> omega) | (simp_all; done)))), ?_⟩
 refine evT [(89, fun _ => some (.int .i64 (idxI l w)))] ?_
 dsimp only [intsP, go_sem]
 exact ⟨(by first | exact True.intro | (simp only [vb, lb]; omega) | (simp [vb] <;> omega)), rfl⟩
theorem get_below {μ : AM} {b : Nat} {k : Blk} (h : μ[b]? = some k) (x : Blk) : (μ ++ [x])[b]? = some k := by
 rw [List.getElem?_append_left (List.getElem?_eq_some_iff.mp h).1]
 exact h
def c52 : ACode := (⟨_, by conv => (lhs; reduce; try simp only [lt1, Int.cast_ofNat_Int, Int.reduceNegSucc, UInt8.reduceOfNat])⟩ : {x // codeOf Tryz.prog 52 (fun _ => false) = some x}).1
theorem fn52 : fnOf Tryz.prog 52 (fun _ => false) = some (c52, [.t 5], 10, true) := by kernel_rfl
theorem at1_ok (μ : AM) (hμ : okMem μ μ.length = true) (c : Nat) (tick : Int) (hc : μ[c]? = some ⟨[.pv (.int .i64 tick)], 0, 1, 3, false⟩) (k : Nat) (x : Step) :
  RefOK ctx 52 [.pv (.int .i64 k), .pv (stepP x), .ptr c 0 0] μ (.pv (.bool (x.tick == tick))) μ := by
 refine ref_body' (C := ctx) (Fn.of fn52 rfl) rfl (by simp) rfl hμ ?_
 unfold c52
 refine evA ?_
 simp only [stepP, stepC, queriesP, intsP, mem2_get, mem2_last, mem2_set0, mem2_set1, mem_last, mem_set, mem_len, go_sem]
 try simp only [stepP, stepC, queriesP, intsP, mem2_get, mem2_last, mem2_set0, mem2_set1, mem_last, mem_set, mem_len, go_sem]
 refine ⟨(by simp [vb] <;> omega), (by simp [vb] <;> omega), ?_⟩
 refine evA ?_
 simp only [get_below hc, mem2_get, mem2_last, mem2_set0, mem2_set1, mem_last, mem_set, mem_len, go_sem]
 try simp only [get_below hc, mem2_get, mem2_last, mem2_set0, mem2_set1, mem_last, mem_set, mem_len, go_sem]
 refine ⟨(by simp [vb] <;> omega), (by simp [vb] <;> omega), ?_⟩
 refine evA ?_
 dsimp only [go_sem]
 exact ⟨⟨(by first | exact True.intro | (simp only [vb, lb]; omega) | (simp [vb] <;> omega)), rfl⟩, _, rfl⟩
def c59 : ACode := (⟨_, by conv => (lhs; reduce; try simp only [lt1, Int.cast_ofNat_Int, Int.reduceNegSucc, UInt8.reduceOfNat])⟩ : {x // codeOf Tryz.prog 59 (fun _ => false) = some x}).1
theorem fn59 : fnOf Tryz.prog 59 (fun _ => false) = some (c59, [.t 5], 10, true) := by kernel_rfl
theorem until1_ok (μ : AM) (hμ : okMem μ μ.length = true) (c : Nat) (tick : Int) (hc : μ[c]? = some ⟨[.pv (.int .i64 tick)], 0, 1, 3, false⟩) (k : Nat) (x : Step) :
  RefOK ctx 59 [.pv (.int .i64 k), .pv (stepP x), .ptr c 0 0] μ (.pv (.bool (decide (x.tick < tick)))) μ := by
 refine ref_body' (C := ctx) (Fn.of fn59 rfl) rfl (by simp) rfl hμ ?_
 unfold c59
 refine evA ?_
 simp only [stepP, stepC, queriesP, intsP, mem2_get, mem2_last, mem2_set0, mem2_set1, mem_last, mem_set, mem_len, go_sem]
 try simp only [stepP, stepC, queriesP, intsP, mem2_get, mem2_last, mem2_set0, mem2_set1, mem_last, mem_set, mem_len, go_sem]
 refine ⟨(by simp [vb] <;> omega), (by simp [vb] <;> omega), ?_⟩
 refine evA ?_
 simp only [get_below hc, mem2_get, mem2_last, mem2_set0, mem2_set1, mem_last, mem_set, mem_len, go_sem]
 try simp only [get_below hc, mem2_get, mem2_last, mem2_set0, mem2_set1, mem_last, mem_set, mem_len, go_sem]
 refine ⟨(by simp [vb] <;> omega), (by simp [vb] <;> omega), ?_⟩
 refine evA ?_
 dsimp only [go_sem]
 exact ⟨⟨(by first | exact True.intro | (simp only [vb, lb]; omega) | (simp [vb] <;> omega)), rfl⟩, _, rfl⟩
def c53 : ACode := (⟨_, by conv => (lhs; reduce; try simp only [lt1, Int.cast_ofNat_Int, Int.reduceNegSucc, UInt8.reduceOfNat])⟩ : {x // codeOf Tryz.prog 53 (fun _ => false) = some x}).1
theorem fn53 : fnOf Tryz.prog 53 (fun _ => false) = some (c53, [.t 5], 10, true) := by kernel_rfl
theorem without1_ok (μ : AM) (hμ : okMem μ μ.length = true) (c : Nat) (l : List Int) (hl : l.length ≤ 1000000) (hc : μ[c]? = some ⟨[.pv (intsP l)], 0, 1, 23, false⟩) (k : Nat) (x : Step) :
  RefOK ctx 53 [.pv (.int .i64 k), .pv (stepP x), .ptr c 0 0] μ (.pv (.bool (!l.contains (k : Int)))) μ := by
 have h := containsI_ok l k hl
 refine ref_body' (C := ctx) (Fn.of fn53 rfl) rfl (by simp) rfl hμ ?_
 unfold c53
 unfold intsP at hc h
 refine evA ?_
 simp only [stepP, stepC, queriesP, intsP, mem2_get, mem2_last, mem2_set0, mem2_set1, mem_last, mem_set, mem_len, go_sem]
 try simp only [stepP, stepC, queriesP, intsP, mem2_get, mem2_last, mem2_set0, mem2_set1, mem_last, mem_set, mem_len, go_sem]
 refine ⟨(by simp [vb] <;> omega), (by simp [vb] <;> omega), ?_⟩
 refine evT [(54, fun _ => some (.bool (l.contains (k : Int))))] ?_
 simp only [get_below hc, mem2_get, mem2_last, mem2_set0, mem2_set1, mem_last, mem_set, mem_len, go_sem]
 try simp only [get_below hc, mem2_get, mem2_last, mem2_set0, mem2_set1, mem_last, mem_set, mem_len, go_sem]
 refine ⟨(by first | exact True.intro | (simp only [vb, lb]; omega) | (simp only [vb, lb, h]; and_intros <;> first | omega | (simp <;> omega)) | (simp [vb, h] <;> omega)), (by first | exact True.intro | ((try dsimp only [go_sem]); first | (simp [vb, h] <;> omega) | (simp only [vb, and_true, true_implies]; (repeat' (first | assumption | (with_reducible apply And.intro) | intro _)) <;> first | omega | rfl | (simp only [ab, h]; done) | (simp [Nat.mul_one, h] <;> omega) | (simp_all; done)))), ?_⟩
 refine evA ?_
 dsimp only [go_sem]
 exact ⟨⟨(by first | exact True.intro | (simp only [vb, lb]; omega) | (simp [vb] <;> omega)), rfl⟩, _, rfl⟩
structure Small (s : Sched) : Prop where
 n : s.steps.length ≤ 1000000
 a : s.state.length ≤ 1000000000000
 b : s.fates.length ≤ 1000000000000
 z : ∀ x ∈ s.steps, Short x
def schedL (s : Sched) : List PV := [.int .i64 s.replicas, .int .i64 s.sessions, .int .i64 s.sectors, .int .i64 s.ticks, intsP s.state, fatesP s.fates, stepsP s.steps]
def zeroL : List PV := [.int .i64 0, .int .i64 0, .int .i64 0, .int .i64 0, .nilsl, .nilsl, .nilsl]
def stepsAt (s : Sched) (tick : Int) : List Step := pick (fun _ x => x.tick == tick) 0 s.steps
def without (s : Sched) (l : List Int) : Sched := withS (fun i _ => !l.contains (i : Int)) s
def c15 : ACode := (⟨_, by conv => (lhs; reduce; try simp only [lt1, Int.cast_ofNat_Int, Int.reduceNegSucc, UInt8.reduceOfNat])⟩ : {x // codeOf Tryz.prog 15 (fun _ => false) = some x}).1
theorem fn15 : fnOf Tryz.prog 15 (fun _ => false) = some (c15, [.t 4], 9, true) := by kernel_rfl
theorem at_ok (s : Sched) (hs : Small s) (tick : Int) : PureOK ctx 15 [schedP s, .int .i64 tick] (stepsP (stepsAt s tick)) := by
 have h := with2_ok 52 [.ptr 1 0 0] (fun _ x => x.tick == tick) s (schedL s) [.int .i64 tick] 7 1 27 3 hs.n hs.a hs.b hs.z rfl rfl rfl (fun k ν _ hok => at1_ok _ hok 1 tick rfl k _)
 refine pure_body' (C := ctx) (Fn.of fn15 rfl) rfl ?_
 unfold c15
 refine evA ?_
 dsimp only [schedP, intsP, fatesP, stepsP, go_sem]
 try dsimp only [schedP, intsP, fatesP, stepsP, go_sem]
 refine ⟨(by simp [vb] <;> omega), (by simp [vb] <;> omega), ?_⟩
 refine evH [(7, { val := some (.pv (schedP (withS (fun _ x => x.tick == tick) s))), mem := some (w20 (schedL s) [.int .i64 tick] 7 1 27 3) })] ?_
 dsimp only [schedP, go_sem]
 try dsimp only [schedP, go_sem]
 refine ⟨(by simp [vb] <;> omega), ?_, ?_⟩
 ·exact ⟨h, trivial⟩
 refine evA ?_
 dsimp only [go_sem]
 exact ⟨(by first | exact True.intro | (simp only [vb, lb]; omega) | (simp [vb] <;> omega)), rfl⟩
def c16 : ACode := (⟨_, by conv => (lhs; reduce; try simp only [lt1, Int.cast_ofNat_Int, Int.reduceNegSucc, UInt8.reduceOfNat])⟩ : {x // codeOf Tryz.prog 16 (fun _ => false) = some x}).1
theorem fn16 : fnOf Tryz.prog 16 (fun _ => false) = some (c16, [.cell 4 7 true], 8, true) := by kernel_rfl
theorem without_ok (s : Sched) (hs : Small s) (l : List Int) (hl : l.length ≤ 1000000) : PureOK ctx 16 [schedP s, intsP l] (schedP (without s l)) := by
 have h := with3_ok 53 [.ptr 1 0 0] (fun i _ => !l.contains (i : Int)) s (schedL s) [intsP l] zeroL 7 1 7 27 23 27 hs.n hs.a hs.b hs.z rfl rfl rfl (fun k ν _ hok => without1_ok _ hok 1 l hl rfl k _)
 refine pure_body' (C := ctx) (Fn.of fn16 rfl) rfl ?_
 unfold c16
 refine evA ?_
 dsimp only [schedP, intsP, fatesP, stepsP, go_sem]
 try dsimp only [schedP, intsP, fatesP, stepsP, go_sem]
 refine ⟨(by simp [vb] <;> omega), (by simp [vb] <;> omega), ?_⟩
 refine evH [(7, { val := some (.pv (schedP (withS (fun i _ => !l.contains (i : Int)) s))), mem := some (w30 (schedL s) [intsP l] zeroL 7 1 7 27 23 27) })] ?_
 dsimp only [schedP, w30, schedL, zeroL, go_sem]
 try dsimp only [schedP, w30, schedL, zeroL, go_sem]
 refine ⟨(by simp [vb] <;> omega), ?_, ?_⟩
 ·exact ⟨h, trivial⟩
 refine evA ?_
 dsimp only [go_sem]
 exact ⟨(by first | exact True.intro | (simp only [vb, lb]; omega) | (simp [vb] <;> omega)), rfl⟩
def c18 : ACode := (⟨_, by conv => (lhs; reduce; try simp only [lt1, Int.cast_ofNat_Int, Int.reduceNegSucc, UInt8.reduceOfNat])⟩ : {x // codeOf Tryz.prog 18 (fun _ => false) = some x}).1
theorem fn18 : fnOf Tryz.prog 18 (fun _ => false) = some (c18, [.cell 4 7 true], 18, true) := by kernel_rfl
def upTick (s : Sched) (tick : Int) : Int := if (if tick < 0 then 0 else tick) < s.ticks then if tick < 0 then 0 else tick else s.ticks
def till (s : Sched) (tick : Int) : Sched := { withS (fun _ x => decide (x.tick < upTick s tick)) s with ticks := upTick s tick }
theorem until_ok (s : Sched) (hs : Small s) (tick : Int) : PureOK ctx 18 [schedP s, .int .i64 tick] (schedP (till s tick)) := by
 have h := with3_ok 59 [.ptr 2 0 0] (fun _ x => decide (x.tick < upTick s tick)) s (schedL s) zeroL [.int .i64 (upTick s tick)] 7 7 1 27 27 3 hs.n hs.a hs.b hs.z rfl rfl rfl (fun k ν _ hok => until1_ok _ hok 2 (upTick s tick) rfl k _)
 refine pure_body' (C := ctx) (Fn.of fn18 rfl) rfl ?_
 unfold c18
 refine evA ?_
 dsimp only [schedP, intsP, fatesP, stepsP, go_sem]
 try dsimp only [schedP, intsP, fatesP, stepsP, go_sem]
 refine ⟨(by simp [vb] <;> omega), (by simp [vb] <;> omega), ?_⟩
 refine evA ?_
 dsimp only [go_sem]
 try dsimp only [go_sem]
 refine ⟨(by simp [vb] <;> omega), (by simp [vb] <;> omega), ?_⟩
 refine evH [(14, { val := some (.pv (schedP (withS (fun _ x => decide (x.tick < upTick s tick)) s))), mem := some (w30 (schedL s) zeroL [.int .i64 (upTick s tick)] 7 7 1 27 27 3) })] ?_
 dsimp only [schedP, w30, schedL, zeroL, intsP, fatesP, stepsP, go_sem]
 try dsimp only [schedP, w30, schedL, zeroL, intsP, fatesP, stepsP, go_sem]
 refine ⟨(by simp [vb] <;> omega), ?_, ?_⟩
 ·exact ⟨h, trivial⟩
 iterate 5 first
  | refine ⟨by simp [vb] <;> omega, by simp [vb] <;> omega, ?_⟩
  | (refine evA ?_; iterate 2 (try dsimp only [go_sem]))
 exact ⟨(by first | exact True.intro | (simp only [vb, lb]; omega) | (simp [vb] <;> omega)), rfl⟩
end
section
open Go.Shelf
theorem lies_one {P : Program} {T : TypeId} {c : Nat} (hd : P.depth ≠ 0) (hc : P.cellsOf T = 2) (h : 2 ≤ c) : liesAt P P.depth T (c / P.cellsOf T) 0 T 1 = true := by
 obtain ⟨d, hd⟩ := Nat.exists_eq_succ_of_ne_zero hd
 have h1 : sameLayout P P.depth T T = true := by rw [hd]; simp [sameLayout]
 have h2 : rowAt P (sameLayout P P.depth · T) P.depth T (c / P.cellsOf T) 0 1 = true := by
  rw [hc]
  have : 1 ≤ c / 2 := by omega
  rw [hd] at h1 ⊢
  simp [rowAt, hc, this, h1]
 rw [hd] at h2 ⊢
 simp only [liesAt]
 rw [hd]
 simp [h2]
set_option maxHeartbeats 1000000 in
set_option maxRecDepth 100000 in
theorem copyCheck_fresh {P : Program} {ρ : Ren} (L : Go.Proofs.Lays.n240 P ρ) (X : Builder.X72 P ρ) (hd : P.depth ≠ 0) (hc2 : P.cellsOf (ρ.t 72) = 2) (b c : Nat) (hc : 2 ≤ c) (w : World) (h0 : w.cell? ⟨b, 0, none⟩ = some (.pointer none)) (hsh : w.shape? b = some ((ρ.t 72), c)) (hfz : w.frozen? ⟨b, 0, none⟩ = false) :
  Calls P (ρ.f 240) #[.pointer (some ⟨b, 0, none⟩)] w fun e w' => e = .returned (.tuple #[]) ∧ w' = w.setCell ⟨b, 0, none⟩ (.pointer (some ⟨b, 0, none⟩)) := by
 obtain ⟨j, hj, hjs⟩ := Option.map_eq_some_iff.1 X.sizeBuilder
 have mixed := L.mixed
 have t72 := L.t72; have a72 := L.a72; have z72 := L.z72; have v72 := L.v72; have u72 := run_underlying L.t72
 have t70 := L.t70; have a70 := L.a70; have z70 := L.z70; have v70 := L.v70; have u70 := run_underlying L.t70
 have t9 := L.t9; have a9 := L.a9; have z9 := L.z9; have v9 := L.v9; have u9 := run_underlying L.t9
 have t4 := L.t4; have a4 := L.a4; have z4 := L.z4; have v4 := L.v4; have u4 := run_underlying L.t4
 have t164 := L.t164; have a164 := L.a164; have z164 := L.z164; have v164 := L.v164; have u164 := run_underlying L.t164
 go_enter L.f240, Go.Proofs.Body.n240_ntmps ρ
 go_wp2
 rw [Lib.run_to_unsafe w ⟨b, 0, none⟩ L.t70 L.t164 hj (by rw [hjs]; decide) hsh (Nat.lt_of_lt_of_le Nat.zero_lt_two hc)]
 simp only [Result.andThen]
 rw [Oper.upon_value]
 go_wp2
 rw [run_callFunc_extern L.f276 (by kernel_rfl) (by kernel_rfl) (by kernel_rfl) (e := Extern.AbiNoEscape.same) (by kernel_rfl)]
 rw [Lib.run_noEscape]
 simp only [Result.andThen]
 rw [Oper.upon_value]
 go_wp2
 rw [Lib.run_from_unsafe w ⟨b, 0, none⟩ L.t164 L.t70 hj hsh (lies_one hd hc2 hc)]
 simp only [Result.andThen]
 rw [Oper.upon_value]
 go_wp2
 go_end0
 exact ⟨rfl, rfl⟩
theorem pw_one {α β : Type} {R : α → β → Prop} {a : α} {m : List β} (h : PW R [a] m) : ∃ b, m = [b] ∧ R a b := by
 obtain ⟨hl, hat⟩ := h
 match m, hl with
 | [b], _ => exact ⟨b, rfl, hat 0 a b rfl rfl⟩
def bldB (x y : AV) (g : Nat) : Blk := ⟨[x, y], g, 2, 80, false⟩
set_option maxHeartbeats 1000000 in
theorem copyCheck_first {μ : AM} {b g : Nat} {y : AV} (hk : μ[b]? = some (bldB (.pv (.val (.pointer none))) y g)) : RefOK ctx 81 [.ptr b g 0] μ (.pv (.tup [])) (μ.set b (bldB (.ptr b g 0) y g)) := by
 refine ⟨by kernel_rfl, fun w0 S γ w vs hW hp => ?_⟩
 obtain ⟨v, rfl, hv⟩ := pw_one hp
 obtain ⟨e, cs, he, hgen, hsz, hheap, hcs, hlen, hcells, hB, hS⟩ := hW.mem.blk b _ hk (by simp [bldB])
 replace hheap := hheap.free rfl
 have hxv : v = .pointer (some ⟨e.cb, 0, none⟩) := by
  cases hv with
  | ptr _ _ _ _ e' ad hb hg' hv' hs' =>
   rw [he] at hb; injection hb with hb; subst hb
   exact hs' hgen.symm
 subst hxv
 obtain ⟨v0, c0, r0, -⟩ := hcells 0 _ rfl
 obtain ⟨v1, c1, r1, o1⟩ := hcells 1 _ rfl
 have r0 := inv_val r0
 subst r0
 have hcs2 : 2 ≤ cs.size := by have : 2 ≤ e.cap := hlen; omega
 have hcell : w.cell? ⟨e.cb, 0, none⟩ = some (.pointer none) := by simp [World.cell?, hheap, c0]
 have hshape : w.shape? e.cb = some (80, cs.size) := by simp [World.shape?, hheap]; rfl
 have hcall := copyCheck_fresh { Tryz.lays165 with } Tryz.Builder_Extra_165.toX72 (by decide) (by kernel_rfl) e.cb cs.size hcs2 w hcell hshape (Lib.frozen_of_heap hheap 0)
 refine hcall.mono ?_
 rintro e' w' ⟨rfl, rfl⟩
 rw [setCell_eq_setRow w e.cb 0 cs _ _ _ hheap]
 obtain ⟨hW', hE⟩ := hW.write hk he hheap hcs (by simp [bldB]) rfl (avs := [.ptr b g 0, y]) (ncs := cs.setIfInBounds 0 (.pointer (some ⟨e.cb, 0, none⟩))) (by simp) (by simp; omega) fun i x hx => by
  match i, hx with
  | 0, hx =>
   injection hx with hx; subst hx
   exact ⟨_, by rw [Array.getElem?_setIfInBounds_self_of_lt (by omega)], hv, rfl⟩
  | 1, hx =>
   injection hx with hx; subst hx
   exact ⟨v1, by rw [Array.getElem?_setIfInBounds_ne (by decide)]; exact c1, r1, o1⟩
  | i + 2, hx => simp at hx
 exact ⟨_, S, γ, rfl, hE, hW', .pv _ _ (.tup _ _ rfl (fun i p c h => by simp at h))⟩
set_option maxHeartbeats 1000000 in
theorem copyCheck_again {μ : AM} {b g : Nat} {y : AV} (hk : μ[b]? = some (bldB (.ptr b g 0) y g)) : RefOK ctx 81 [.ptr b g 0] μ (.pv (.tup [])) μ := by
 refine ⟨by kernel_rfl, fun w0 S γ w vs hW hp => ?_⟩
 obtain ⟨v, rfl, hv⟩ := pw_one hp
 obtain ⟨e, cs, he, hgen, hsz, ⟨_, hheap, -⟩, hcs, hlen, hcells, hB, hS⟩ := hW.mem.blk b _ hk (by simp [bldB])
 have ptrv : ∀ {u : Value}, VR w S γ (.ptr b g 0) u → u = .pointer (some ⟨e.cb, 0, none⟩) := fun {u} hv => by
  cases hv with
  | ptr _ _ _ _ e' ad hb hg' hv' hs' =>
   rw [he] at hb; injection hb with hb; subst hb
   exact hs' hgen.symm
 have hxv := ptrv hv
 subst hxv
 obtain ⟨v0, c0, r0, -⟩ := hcells 0 _ rfl
 have r0 := ptrv r0
 subst r0
 have hcell : w.cell? ⟨e.cb, 0, none⟩ = some (.pointer (some ⟨e.cb, 0, none⟩)) := by simp [World.cell?, hheap, c0]
 have hcall := Go.Proofs.Any.Builder_copyCheck_used { Tryz.lays165 with } Tryz.Builder_Extra_165.toX72 e.cb w hcell
 refine hcall.mono ?_
 rintro e' w' ⟨rfl, rfl⟩
 exact ⟨_, S, γ, rfl, .refl _ _ _, hW, .pv _ _ (.tup _ _ rfl (fun i p c h => by simp at h))⟩
def c43 : ACode := (⟨_, by conv => (lhs; reduce; try simp only [lt1, Int.cast_ofNat_Int, Int.reduceNegSucc, UInt8.reduceOfNat])⟩ : {x // codeOf Tryz.prog 43 (fun _ => false) = some x}).1
theorem fn43 : fnOf Tryz.prog 43 (fun _ => false) = some (c43, [.t 4, .t 5], 19, true) := by kernel_rfl
def rowB (l : List UInt8) (j : Nat) : Blk := ⟨byteA l, j, 1, 5, false⟩
theorem okMem_set {μ : AM} {m b : Nat} {k : Blk} (h : okMem μ m = true) (hk : k.cells.all (bnd 3 m) = true) : okMem (μ.set b k) m = true := by
 unfold okMem at *
 rw [List.all_eq_true] at h ⊢
 intro x hx
 rcases List.mem_or_eq_of_mem_set hx with h1 | h1
 ·exact h x h1
 ·subst h1; exact hk
theorem bnd_more : ∀ (d : Nat) {v : AV} {m m' : Nat}, m ≤ m' → bnd d m v = true → bnd d m' v = true := by
 intro d
 induction d with
 | zero =>
  intro v m m' hmm h
  cases v <;> simp only [bnd] at h ⊢ <;> first | exact h | (have := Nat.blt_eq.mp h; exact Nat.blt_eq.mpr (by omega))
 | succ d ih =>
  intro v m m' hmm h
  cases v <;> simp only [bnd] at h ⊢ <;> first
   | exact h
   | (have := Nat.blt_eq.mp h; exact Nat.blt_eq.mpr (by omega))
   | (rw [List.all_eq_true] at h ⊢; exact fun x hx => ih hmm (h x hx))
   | exact ih hmm h
theorem okMem_add {μ : AM} {k : Blk} {m : Nat} (h : okMem μ m = true) (hk : k.cells.all (bnd 3 m) = true) : okMem (μ ++ [k]) m = true := by
 unfold okMem at *
 rw [List.all_append, h]
 simpa using hk
theorem byteA_bnd (l : List UInt8) (m : Nat) : (byteA l).all (bnd 3 m) = true := by
 rw [List.all_eq_true]
 intro x hx
 simp only [byteA, List.mem_map] at hx
 obtain ⟨c, -, rfl⟩ := hx
 rfl
theorem okMem_more {μ : AM} {m m' : Nat} (h : okMem μ m = true) (hm : m ≤ m') : okMem μ m' = true := by
 unfold okMem at *
 rw [List.all_eq_true] at *
 intro k hk
 have := h k hk
 rw [List.all_eq_true] at *
 exact fun x hx => bnd_more 3 hm (this x hx)
set_option maxHeartbeats 2000000 in
theorem write_first {μ : AM} (hμ : okMem μ μ.length = true) {b g : Nat} (hk : μ[b]? = some (bldB (.pv (.val (.pointer none))) (.pv .nilsl) g)) (l : List UInt8) (hl : 1 ≤ l.length) (hl2 : l.length ≤ 140737488355328) :
  RefOK ctx 43 [.ptr b g 0, .pv (.str l)] μ (.pv (.tup [.int .i64 l.length, .val .nilIface])) (μ.set b (bldB (.ptr b g 0) (.ref μ.length 0 0 l.length) g) ++ [rowB l 0]) := by
 have h := copyCheck_first hk
 have hb : b < μ.length := (List.getElem?_eq_some_iff.mp hk).1
 refine ref_body' (C := ctx) (Fn.of fn43 rfl) rfl (by simp) rfl ?_ ?_
 ·refine okMem_add (okMem_set (okMem_more hμ (by simp)) ?_) (byteA_bnd l _)
  simp [bldB, bnd, Nat.blt]
  omega
 unfold c43
 refine evA ?_
 dsimp only [go_sem]
 try dsimp only [go_sem]
 refine ⟨(by simp [vb] <;> omega), (by simp [vb] <;> omega), ?_⟩
 refine evH [(7, { val := some (.pv (.tup [])), mem := some (μ.set b (bldB (.ptr b g 0) (.pv .nilsl) g)) })] ?_
 dsimp only [go_sem]
 try dsimp only [go_sem]
 refine ⟨(by simp [vb] <;> omega), ?_, ?_⟩
 ·exact ⟨h, trivial⟩
 have hk1 : ∀ x, (μ.set b x)[b]? = some x := fun x => by rw [List.getElem?_set_self hb]
 have hs1 : ∀ x y, (μ.set b x ++ [y])[b]? = some x := fun x y => by rw [List.getElem?_append_left (by simpa using hb), List.getElem?_set_self hb]
 have hs2 : ∀ x y z, (μ.set b x ++ [y]).set b z = μ.set b z ++ [y] := fun x y z => by rw [List.set_append_left _ _ (by simpa using hb), List.set_set]
 refine evH [(14, { mode := 1 })] ?_
 simp only [hk1, hs1, hs2, bldB, List.length_set, mem2_get, mem2_last, mem2_set0, mem2_set1, mem_last, mem_set, mem_len, go_sem]
 try simp only [hk1, hs1, hs2, bldB, List.length_set, mem2_get, mem2_last, mem2_set0, mem2_set1, mem_last, mem_set, mem_len, go_sem]
 refine ⟨(by simp [vb] <;> omega), (by simp [vb] <;> omega), ?_⟩
 refine evA ?_
 dsimp only [go_sem]
 try dsimp only [go_sem]
 refine ⟨(by simp [vb] <;> omega), (by simp [vb] <;> omega), ?_⟩
 refine evA ?_
 dsimp only [go_sem]
 exact ⟨⟨(by first | exact True.intro | (simp only [vb, lb]; omega) | (simp [vb] <;> omega)), rfl⟩, [], (List.append_nil _).symm⟩
set_option maxHeartbeats 2000000 in
theorem write_more {μ : AM} (hμ : okMem μ μ.length = true) {b g r j : Nat} {old : List UInt8} (hne : r ≠ b) (hk : μ[b]? = some (bldB (.ptr b g 0) (.ref r j 0 old.length) g)) (hr : μ[r]? = some (rowB old j)) (l : List UInt8) (hl2 : old.length + l.length ≤ 140737488355328) :
  RefOK ctx 43 [.ptr b g 0, .pv (.str l)] μ (.pv (.tup [.int .i64 l.length, .val .nilIface])) ((μ.set r (rowB (old ++ l) (j + 1))).set b (bldB (.ptr b g 0) (.ref r (j + 1) 0 (old.length + l.length)) g)) := by
 have h := copyCheck_again hk
 have hb : b < μ.length := (List.getElem?_eq_some_iff.mp hk).1
 have hrl : r < μ.length := (List.getElem?_eq_some_iff.mp hr).1
 refine ref_body' (C := ctx) (Fn.of fn43 rfl) rfl (by simp) rfl ?_ ?_
 ·refine okMem_set (okMem_set (okMem_more hμ (by simp)) (byteA_bnd _ _)) ?_
  simp [bldB, bnd, Nat.blt]
  omega
 unfold c43
 refine evA ?_
 dsimp only [go_sem]
 try dsimp only [go_sem]
 refine ⟨(by simp [vb] <;> omega), (by simp [vb] <;> omega), ?_⟩
 refine evH [(7, { val := some (.pv (.tup [])), mem := some μ })] ?_
 dsimp only [go_sem]
 try dsimp only [go_sem]
 refine ⟨(by simp [vb] <;> omega), ?_, ?_⟩
 ·exact ⟨h, trivial⟩
 unfold bldB at hk
 unfold rowB at hr
 have hs1 : ∀ x, (μ.set r x)[b]? = μ[b]? := fun x => by rw [List.getElem?_set_ne hne]
 have hap : byteA old ++ byteA l = byteA (old ++ l) := by simp [byteA]
 have hol : (byteA old).length = old.length := byteA_len old
 refine evA ?_
 simp only [hk, hr, hs1, hap, mem2_get, mem2_last, mem2_set0, mem2_set1, mem_last, mem_set, mem_len, go_sem]
 try simp only [hk, hr, hs1, hap, mem2_get, mem2_last, mem2_set0, mem2_set1, mem_last, mem_set, mem_len, go_sem]
 refine ⟨(by simp [vb, hol] <;> omega), (by simp [vb, hol] <;> omega), ?_⟩
 refine evA ?_
 dsimp only [go_sem]
 try dsimp only [go_sem]
 refine ⟨(by simp [vb] <;> omega), (by simp [vb] <;> omega), ?_⟩
 refine evA ?_
 dsimp only [go_sem]
 exact ⟨⟨(by first | exact True.intro | (simp only [vb, lb]; omega) | (simp [vb] <;> omega)), rfl⟩, [], (List.append_nil _).symm⟩
def c46 : ACode := (⟨_, by conv => (lhs; reduce; try simp only [lt1, Int.cast_ofNat_Int, Int.reduceNegSucc, UInt8.reduceOfNat])⟩ : {x // codeOf Tryz.prog 46 (fun _ => false) = some x}).1
theorem fn46 : fnOf Tryz.prog 46 (fun _ => false) = some (c46, [.t 2], 8, true) := by kernel_rfl
theorem blen_ok {μ : AM} (hμ : okMem μ μ.length = true) {b g r j n : Nat} {x : AV} (hk : μ[b]? = some (bldB x (.ref r j 0 n) g)) :
  RefOK ctx 46 [.ptr b g 0] μ (.pv (.int .i64 n)) μ := by
 refine ref_body' (C := ctx) (Fn.of fn46 rfl) rfl (by simp) rfl hμ ?_
 unfold c46
 unfold bldB at hk
 refine evA ?_
 dsimp only [go_sem]
 try dsimp only [go_sem]
 refine ⟨(by simp [vb] <;> omega), (by simp [vb] <;> omega), ?_⟩
 refine evA ?_
 simp only [hk, mem2_get, mem2_last, mem2_set0, mem2_set1, mem_last, mem_set, mem_len, go_sem]
 try simp only [hk, mem2_get, mem2_last, mem2_set0, mem2_set1, mem_last, mem_set, mem_len, go_sem]
 refine ⟨(by simp [vb] <;> omega), (by simp [vb] <;> omega), ?_⟩
 refine evA ?_
 dsimp only [go_sem]
 exact ⟨⟨(by first | exact True.intro | (simp only [vb, lb]; omega) | (simp [vb] <;> omega)), rfl⟩, [], (List.append_nil _).symm⟩
set_option maxHeartbeats 1000000 in
set_option maxRecDepth 100000 in
theorem string_at {P : Program} {ρ : Ren} (L : Go.Proofs.Lays.n169 P ρ) (X : Builder.Extra P ρ) (b g cap : Nat) (cur : Array Value) (l : List UInt8) (w : World) (h0 : l ≠ [])
  (hc1 : w.cell? ⟨b, 1, none⟩ = some (.slice (some ⟨g, 0, none⟩) l.length cap)) (hg : w.heap[g]? = some (.cells cur (ρ.t 5) (0, 0))) (hcap : l.length ≤ cap) (hcm : cap ≤ maxLen) (hcur : l.length ≤ cur.size)
  (hcells : ∀ (j : Nat) x, l[j]? = some x → cur[j]? = some (.int .u8 x.toNat)) :
  Calls P (ρ.f 169) #[.pointer (some ⟨b, 0, none⟩)] w fun e w' => e = .returned (.string ⟨l.toArray⟩) ∧ w' = w.drew.freeze ⟨g, 0, none⟩ l.length := by
 have hl0 : l.length ≠ 0 := by simpa using h0
 have c1 : w.drew.cell? ⟨b, 1, none⟩ = some (.slice (some ⟨g, 0, none⟩) l.length cap) := hc1
 have hSD : (Builtin.unsafeSliceData_ #[(ρ.t 37)] (ρ.t 127) #[.slice (some ⟨g, 0, none⟩) l.length cap]).run P w.drew = .ok (.pointer (some ⟨g, 0, none⟩)) w.drew :=
  Lib.run_unsafeSliceData_row _ _ _ _ _ _ (by omega)
 have hUS : (Builtin.unsafeString_ #[(ρ.t 127), (ρ.t 3)] (ρ.t 9) #[.pointer (some ⟨g, 0, none⟩), .int .i64 l.length]).run P w.drew = .ok (.string ⟨l.toArray⟩) (w.drew.freeze ⟨g, 0, none⟩ l.length) := by
  refine Lib.run_unsafeString_row w.drew (ρ.t 127) (ρ.t 3) (ρ.t 9) (ρ.t 5) L.t127 X.cellsByte g cur.size (by have hg' : w.drew.heap[g]? = some (.cells cur (ρ.t 5) (0, 0)) := hg; simp [World.shape?, hg']) l h0 (by omega) (by unfold maxLen at hcm; omega) ?_
  intro j x hx
  have hg' : w.drew.heap[g]? = some (.cells cur (ρ.t 5) (0, 0)) := hg
  rw [Addr.add_lit, Nat.zero_add]
  simp [World.cell?, hg', hcells j x hx]
 have mixed := L.mixed
 have t72 := L.t72; have a72 := L.a72; have z72 := L.z72; have v72 := L.v72; have u72 := run_underlying L.t72
 have t70 := L.t70; have a70 := L.a70; have z70 := L.z70; have v70 := L.v70; have u70 := run_underlying L.t70
 have t37 := L.t37; have a37 := L.a37; have z37 := L.z37; have v37 := L.v37; have u37 := run_underlying L.t37
 have t127 := L.t127; have a127 := L.a127; have z127 := L.z127; have v127 := L.v127; have u127 := run_underlying L.t127
 have t3 := L.t3; have a3 := L.a3; have z3 := L.z3; have v3 := L.v3; have u3 := run_underlying L.t3
 have t9 := L.t9; have a9 := L.a9; have z9 := L.z9; have v9 := L.v9; have u9 := run_underlying L.t9
 have t5 := X.t5; have a5 := X.a5; have z5 := X.z5; have v5 := X.v5; have u5 := run_underlying X.t5
 go_enter L.f169, Go.Proofs.Body.n169_ntmps ρ
 go_wp2
 go_region_o
 all_goals (go_wp2; go_ret; exact ⟨rfl, rfl⟩)
theorem Wd.froze {C : Ctx} {w0 w : World} {S : Nat → Prop} {γ : Gh} {μ : AM} (hW : Wd C w0 S γ μ w) {b : Nat} {k : Blk} {e : Ent} {cs : Array Value} {w' : World} {fz : Nat × Nat} (hk : μ[b]? = some k) (he : γ b = some e) (hheap : w.heap[e.cb]? = some (.cells cs k.elem (0, 0))) (hz : k.sz ≠ 0) (hfz : k.frozen = false)
  (hos : w'.os = w.os) (htape : w'.tape = w.tape) (hout : w'.output = w.output) (hsize : w.heap.size = w'.heap.size) (hblk : ∀ g, g ≠ e.cb → w'.heap[g]? = w.heap[g]?) (hrow : w'.heap[e.cb]? = some (.cells cs k.elem fz)) :
  Wd C w0 S γ (μ.set b { k with frozen := true }) w' ∧ Ext w S γ w' S γ := by
 obtain ⟨e', cs', he', hgen, hsz, hheap', hcs', hlen', hcells, hB, hS⟩ := hW.mem.blk b k hk hz
 rw [he] at he'; injection he' with he'; subst he'
 replace hheap' := hheap'.free hfz
 rw [hheap] at hheap'; injection hheap' with hheap'; injection hheap' with hheap'; subst hheap'
 have hE : Ext w S γ w' S γ := ⟨⟨fun _ h => h, fun g hg => hblk g (fun h => hS hfz (h ▸ hg))⟩, fun b e h => ⟨e, h, Nat.le_refl _, fun _ => rfl⟩, fun _ h => .inl h, fun b e h => .inl ⟨b, e, h, rfl⟩, by omega⟩
 refine ⟨⟨⟨fun b' k' hk' hz' => ?_, fun b' k' hk' hz' => ?_, fun b' hb' => hW.mem.none b' (by simpa using hb'), hW.mem.inj⟩, ?_, fun g hg => by have := hW.live g hg; omega, hW.env⟩, hE⟩
 ·by_cases hbb : b = b'
  ·subst hbb
   have hbl : b < μ.length := (List.getElem?_eq_some_iff.mp hk).1
   rw [List.getElem?_set_self hbl] at hk'
   injection hk' with hk'
   subst hk'
   exact ⟨e, cs, he, hgen, hsz, ⟨fz, hrow, fun h => by cases h⟩, hcs', hlen', fun i x hx => by
    obtain ⟨v, h1, h2, h3⟩ := hcells i x hx
    exact ⟨v, h1, h2.ext hE, h3⟩, hB, fun h => by cases h⟩
  ·rw [List.getElem?_set_ne hbb] at hk'
   obtain ⟨e2, cs2, h1, h2, h3, h4, h5, h6, h7, h8, h9⟩ := hW.mem.blk b' k' hk' hz'
   have hne : e2.cb ≠ e.cb := fun h => hbb (hW.mem.inj b b' e e2 he h1 h.symm)
   exact ⟨e2, cs2, h1, h2, h3, h4.congr (hblk e2.cb hne) rfl id, h5, h6, fun i x hx => by
    obtain ⟨v, g1, g2, g3⟩ := h7 i x hx
    exact ⟨v, g1, g2.ext hE, g3⟩, h8, h9⟩
 ·have hbb : b ≠ b' := fun h => by
   subst h
   have hbl : b < μ.length := (List.getElem?_eq_some_iff.mp hk).1
   rw [List.getElem?_set_self hbl] at hk'
   injection hk' with hk'
   subst hk'
   exact hz hz'
  rw [List.getElem?_set_ne hbb] at hk'
  obtain ⟨e2, h1, h2, h3, h4, h5, h6⟩ := hW.mem.mp b' k' hk' hz'
  have hne : e2.cb ≠ e.cb := fun h => hbb (hW.mem.inj b b' e e2 he h1 h.symm)
  exact ⟨e2, h1, h2, h3, h4.ext hE (hblk e2.cb hne), h5, h6⟩
 ·exact hW.below.trans ⟨hos, htape, hout, by omega, fun g hg => hblk g (by omega)⟩
set_option maxHeartbeats 1000000 in
theorem bstring_ok {μ : AM} {b g r j : Nat} {x : AV} {l : List UInt8} (h0 : l ≠ []) (hk : μ[b]? = some (bldB x (.ref r j 0 l.length) g)) (hr : μ[r]? = some (rowB l j)) :
  RefOK ctx 47 [.ptr b g 0] μ (.pv (.str l)) (μ.set r { rowB l j with frozen := true }) := by
 refine ⟨by kernel_rfl, fun w0 S γ w vs hW hp => ?_⟩
 obtain ⟨v, rfl, hv⟩ := pw_one hp
 obtain ⟨e, cs, he, hgen, hsz, ⟨_, hheap, -⟩, hcs, hlen, hcells, hB, hS⟩ := hW.mem.blk b _ hk (by simp [bldB])
 have hxv : v = .pointer (some ⟨e.cb, 0, none⟩) := by
  cases hv with
  | ptr _ _ _ _ e' ad hb hg' hv' hs' =>
   rw [he] at hb; injection hb with hb; subst hb
   exact hs' hgen.symm
 subst hxv
 obtain ⟨er, cur, he2, hgen2, hsz2, hheap2, hcs2, hlen2, hcells2, hB2, hS2⟩ := hW.mem.blk r _ hr (by simp [rowB])
 replace hheap2 := hheap2.free rfl
 obtain ⟨v1, c1, r1, -⟩ := hcells 1 _ rfl
 have hll : l.length ≠ 0 := by simpa using h0
 obtain ⟨cap, hv1, hcapc, hncap, hcapm⟩ : ∃ cap, v1 = .slice (some ⟨er.cb, 0, none⟩) l.length cap ∧ 0 + cap * er.sz = er.cap ∧ l.length ≤ cap ∧ cap ≤ maxLen := by
  cases r1 with
  | ref _ _ _ _ _ e' ad c hb hg' hvc' hs' =>
   rw [he2] at hb; injection hb with hb; subst hb
   rcases hs' hgen2.symm with h | ⟨-, h, -⟩
   ·exact h
   ·exact absurd h (by simp [rowB])
 subst hv1
 have hcell : w.cell? ⟨e.cb, 1, none⟩ = some (.slice (some ⟨er.cb, 0, none⟩) l.length cap) := by simp [World.cell?, hheap, c1]
 have hbl : (byteA l).length ≤ er.cap := hlen2
 rw [byteA_len] at hbl
 have hcall := string_at { Tryz.lays169 with } Tryz.Builder_Extra_169 e.cb er.cb cap cur l w h0 hcell hheap2 hncap hcapm (by omega) fun j x hx => by
  obtain ⟨u, h1, h2, -⟩ := hcells2 j (.pv (.int .u8 x.toNat)) (by simp [rowB, byteA, hx])
  have h3 := inv_pv h2
  cases h3
  exact h1
 refine hcall.mono ?_
 rintro e' w' ⟨rfl, rfl⟩
 obtain ⟨hW1, hE1⟩ := hW.drew
 have hfz : (w.drew.freeze ⟨er.cb, 0, none⟩ l.length).heap[er.cb]? = some (.cells cur 5 (0, 0 + l.length)) := by
  have hg' : w.drew.heap[er.cb]? = some (.cells cur 5 (0, 0)) := hheap2
  unfold World.freeze
  rw [if_neg hll]
  simp [Array.getElem?_modify, hg']
 obtain ⟨hW2, hE2⟩ := Wd.froze hW1 (fz := (0, 0 + l.length)) (w' := w.drew.freeze ⟨er.cb, 0, none⟩ l.length) hr he2 hheap2 (by simp [rowB]) rfl (by unfold World.freeze; rw [if_neg hll]) (by unfold World.freeze; rw [if_neg hll]) (by unfold World.freeze; rw [if_neg hll]) (by unfold World.freeze; rw [if_neg hll]; simp) (fun g hg => by
  unfold World.freeze
  rw [if_neg hll]
  simp only [Array.getElem?_modify]
  rw [if_neg (fun h => hg h.symm)]) hfz
 exact ⟨_, S, γ, rfl, hE1.trans hE2, hW2, .pv _ _ (.str l)⟩
end
section
open Sch
theorem trim_ok (s p : List UInt8) (hs : s.length ≤ 9223372036854775807) : PureOK ctx 84 [.str s, .str p] (.str (Lib.trimSuffix s p)) := by
 refine PureOK.of_calls (by kernel_rfl) fun w S vs hE hS hp => ?_
 obtain ⟨v, u, rfl, hv, hu⟩ := pw2 hp
 have hv := is_str_inv hv
 have hu := is_str_inv hu
 subst hv hu
 refine (Tryz.strings_TrimSuffix ⟨s.toArray⟩ ⟨p.toArray⟩ w (by simpa [ByteArray.size] using hs)).mono fun e w' ⟨he, hw⟩ => ⟨_, he, ?_, fun _ _ => .str _⟩
 subst hw
 exact Below.refl _ _
theorem trim_line (l : List UInt8) : Lib.trimSuffix (l ++ [10]) [10] = l := by
 have : Lib.hasSuffix (l ++ [10]) [10] = true := by simp [Lib.hasSuffix]
 simp [Lib.trimSuffix, this]
def c83 : ACode := (⟨_, by conv => (lhs; reduce; try simp only [lt1, Int.cast_ofNat_Int, Int.reduceNegSucc, UInt8.reduceOfNat])⟩ : {x // codeOf Tryz.prog 83 (fun _ => false) = some x}).1
theorem fn83 : fnOf Tryz.prog 83 (fun _ => false) = some (c83, [], 7, true) := by kernel_rfl
theorem written1_ok {μ : AM} (hμ : okMem μ μ.length = true) {c g : Nat} {w : List UInt8} (hk : μ[c]? = some ⟨[.pv (.str w)], g, 1, 9, false⟩) (ns : List Int) (hm : ns.length ≤ 1000000) (hb : ∀ k, i64 (ns.getD k 0)) (hw : w.length ≤ 1000000000000)
  (hL : (lineTo w ns ++ [10]).length ≤ 9223372036854775807) :
  RefOK ctx 83 [.pv (intsP ns), .ptr c g 0] μ (.pv (.tup [])) (μ.set c ⟨[.pv (.str (lineTo w ns))], g, 1, 9, false⟩) := by
 have h1 := line_ok w ns hm hb hw
 have h2 := trim_ok (lineTo w ns ++ [10]) [10] hL
 rw [trim_line] at h2
 refine ref_body' (C := ctx) (Fn.of fn83 rfl) rfl (by simp) rfl (okMem_set (okMem_more hμ (by simp)) rfl) ?_
 unfold c83
 unfold intsP at h1
 refine evT [(44, fun _ => some (.str (lineTo w ns ++ [10]))), (84, fun _ => some (.str (lineTo w ns)))] ?_
 simp only [hk, intsP, mem2_get, mem2_last, mem2_set0, mem2_set1, mem_last, mem_set, mem_len, go_sem]
 try simp only [hk, intsP, mem2_get, mem2_last, mem2_set0, mem2_set1, mem_last, mem_set, mem_len, go_sem]
 refine ⟨(by simp [vb, h1, h2] <;> omega), (by simp [vb, h1, h2] <;> omega), ?_⟩
 exact ⟨⟨(by first | exact True.intro | (simp only [vb, lb]; omega) | (simp [vb] <;> omega)), trivial⟩, [], (List.append_nil _).symm⟩
end
end Pur
end Go.Proofs.YteokbngllldmdaaGreatDoor
