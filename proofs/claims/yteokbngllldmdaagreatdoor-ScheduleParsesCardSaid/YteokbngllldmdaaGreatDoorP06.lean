/-
  A part of the proof. (PsV PtP PtQ PlB PlC PtR PlD Laid Post CdA CdParses)
-/
import Derived.Test.YteokbngllldmdaaGreatDoorP05
import Derived.Lib.ItoaLen
import Derived.Lib.LaidTab
import Derived.WalkSmall
import Derived.Test.YteokbngllldmdaaGreatDoorProg
import Derived.Below
import Derived.ChangeSame
import Derived.ProofKit
import Derived.Test.YteokbngllldmdaaGreatDoorCards
import Derived.Test.YteokbngllldmdaaGreatDoorTie
import Derived.OpenShut
import Derived.Deep.DeepHandedRow
import Derived.Deep.DeepWitnessRowRef
import Derived.Lay
set_option maxRecDepth 10000
set_option linter.unusedSimpArgs false
set_option linter.unusedVariables false
namespace Go.Proofs.YteokbngllldmdaaGreatDoor
namespace Pur
open Go.RowKit
attribute [local go_sem] evOps evOp evOpV evRun evK argF List.map hintAt stripped get put tmpsOf tmpOf tmpO tmpL tmpP conds ev cond_true cond_false Nat.beq Nat.ble Nat.add quiet After thenR blockR IfD List.append_eq List.nil_append List.cons_append evInt exactI_a exactI_b exactI_c exactI_d exactI_e exactI_f evBin evStr evBool evUn guardC calm quiet.isCallK evPick List.getElem?_cons_zero List.getElem?_cons_succ fromCells fromPVs cellsOf List.all oneCell List.length_cons List.length_nil mkAgg plains List.drop List.take List.getD Option.getD_some bo1 bo2 ba1 ba2 bn1 bn2 kk_i64 kk_u8 kk_i32 kk_u64 setAt List.set Nat.reduceAdd Nat.reduceMul evCall safeCall refsOf refsIn scalarA scalar scalarL thawL mapAll thawArg thawRef after freeze RetD RetE evResult evRess evRes1 thaw_pv mkTup nilOf_a nilOf_b nilOf_bb nilOf_c nilOf_d nilOf_e nilOf_f nilOf_g nilOf_h nilOf_i nilOf_j nilOf_k nilOf_l nilOf_m eqLeaf_a eqLeaf_b eqLeaf_c eqOffs evMM bytesOf evOpsF AfterF footOf footRefs notIn indepF footAt freeOk still evParts fillA zeros intOfA boundA srcOf List.isEmpty appNil_0 appNil_1 appNil_2 Int.reduceToNat Nat.mul_one Nat.reduceSub evC evOpsT evOpsTF autoH tabHint look hintD strip guarded RetPD RetRD mpLen keysOk leafKA leafK bitI nilOf_n nilOf_o Bool.or_false Bool.or_true Bool.and_true Bool.and_false Nat.blt renF renM renB renV idxOf solF solM solA solV thawRef ev1
section
open Sch
theorem lineTo_lenV (ns : List Int) (hb : ∀ n ∈ ns, i64 n) : ∀ w : List UInt8, (lineTo w ns).length ≤ w.length + 22 * ns.length := by
 induction ns with
 | nil => intro w; simp [lineTo]
 | cons n r ih =>
  intro w
  have h1 := ih (fun m hm => hb m (List.mem_cons_of_mem _ hm)) (w ++ 32 :: Lib.itoa n)
  have h2 := Lib.itoa_length_le n (hb n List.mem_cons_self).1 (hb n List.mem_cons_self).2
  simp only [lineTo, List.length_append, List.length_cons] at h1 ⊢
  omega
def qText (w : List UInt8) : List Query → List UInt8
 | [] => w
 | q :: r => qText (lineTo (w ++ 32 :: queryWords.getD q.1.toNat []) [q.2]) r
theorem qText_append (a b : List Query) : ∀ w, qText w (a ++ b) = qText (qText w a) b := by
 induction a with
 | nil => intro w; rfl
 | cons q r ih => intro w; exact ih _
theorem qText_take (w : List UInt8) (l : List Query) (k : Nat) (hk : k < l.length) (d : Query) : qText w (l.take (k + 1)) = lineTo (qText w (l.take k) ++ 32 :: queryWords.getD (l.getD k d).1.toNat []) [(l.getD k d).2] := by
 rw [List.take_add_one, qText_append, List.getElem?_eq_getElem hk]
 simp [qText, List.getD, List.getElem?_eq_getElem hk]
theorem qWord_len (k : Nat) : (queryWords.getD k []).length ≤ 7 := by
 match k with
 | 0 => decide
 | 1 => decide
 | 2 => decide
 | k + 3 => simp [queryWords]
theorem qText_len (l : List Query) (h : ∀ q ∈ l, i64 q.2) : ∀ w, (qText w l).length ≤ w.length + 30 * l.length := by
 induction l with
 | nil => intro w; simp [qText]
 | cons q r ih =>
  intro w
  have h1 := ih (fun x hx => h x (List.mem_cons_of_mem _ hx)) (lineTo (w ++ 32 :: queryWords.getD q.1.toNat []) [q.2])
  have h2 := lineTo_lenV [q.2] (by simpa using h q List.mem_cons_self) (w ++ 32 :: queryWords.getD q.1.toNat [])
  have h3 := qWord_len q.1.toNat
  simp only [qText, List.length_append, List.length_cons, List.length_nil] at *
  omega
theorem queries_at (l : List Query) (k : Nat) (hk : k < l.length) (d : Query) : ((l.flatMap queryC).drop (k * 2)).take 2 = queryC (l.getD k d) := by
 refine List.ext_getElem? fun j => ?_
 by_cases hj : j < 2
 ·rw [List.getElem?_take, if_pos hj, List.getElem?_drop, flatMap_get (m := 2) (fun _ => rfl) l k d j hk hj]
 ·rw [List.getElem?_take, if_neg hj, List.getElem?_eq_none (by simp [queryC]; omega)]
def writtenW (x : Step) : List UInt8 :=
 let s := lineTo (kindWords.getD x.kind.toNat []) [x.replica]
 if x.kind = 0 then lineTo s [x.session, x.action] else
 if x.kind = 1 then qText (lineTo s [x.session]) x.queries else
 if x.kind = 2 ∨ x.kind = 3 then lineTo s [x.other] else
 if x.kind = 4 then lineTo (lineTo s [x.after]) x.survive else
 if x.kind = 6 then lineTo s x.voters else s
def writtenP (x : Step) : List UInt8 := lineTo [97, 116] [x.tick] ++ (32 :: writtenW x) ++ [10]
structure Wr (x : Step) : Prop where
 k0 : 0 ≤ x.kind
 k1 : x.kind ≤ 6
 t : i64 x.tick
 r : i64 x.replica
 o : i64 x.other
 s : i64 x.session
 a : i64 x.action
 f : i64 x.after
 qn : x.queries.length ≤ 1000000
 q : ∀ q ∈ x.queries, 0 ≤ q.1 ∧ q.1 ≤ 2 ∧ i64 q.2
 sn : x.survive.length ≤ 1000000
 sv : ∀ n ∈ x.survive, i64 n
 vn : x.voters.length ≤ 1000000
 vv : ∀ n ∈ x.voters, i64 n
def c45 : ACode := (⟨_, by conv => (lhs; reduce; try simp only [lt1, Int.cast_ofNat_Int, Int.reduceNegSucc, UInt8.reduceOfNat])⟩ : {x // codeOf Tryz.prog 45 (fun _ => false) = some x}).1
theorem fn45 : fnOf Tryz.prog 45 (fun _ => false) = some (c45, [.t 2], 97, true) := by kernel_rfl
def sBox (x : Step) : Blk := ⟨(stepC x).map .pv, 0, 10, 41, false⟩
def strB (w : List UInt8) : Blk := ⟨[.pv (.str w)], 0, 1, 9, false⟩
theorem sBox_ok (x : Step) (w : List UInt8) : okMem [sBox x, strB w] 2 = true := by simp [okMem, sBox, strB, stepC, bnd]
theorem say_ok (x : Step) (w : List UInt8) (ns : List Int) (hm : ns.length ≤ 1000000) (hb : ∀ n ∈ ns, i64 n) (hw : w.length ≤ 1000000000000) (μ : AM) (hμ : okMem ([sBox x, strB w] ++ μ) ([sBox x, strB w] ++ μ).length = true) :
  RefOK ctx 83 [.pv (intsP ns), .ptr 1 0 0] ([sBox x, strB w] ++ μ) (.pv (.tup [])) ([sBox x, strB (lineTo w ns)] ++ μ) := by
 have hL := lineTo_lenV ns hb w
 exact written1_ok hμ (c := 1) (g := 0) (w := w) rfl ns hm (fun k => by
  by_cases hk : k < ns.length
  ·rw [List.getD, List.getElem?_eq_getElem hk]; exact hb _ (List.getElem_mem hk)
  ·rw [List.getD, List.getElem?_eq_none (by omega)]; exact ⟨by decide, by decide⟩) hw (by rw [List.length_append]; simp; omega)
set_option maxRecDepth 20000 in
set_option maxHeartbeats 1000000 in
def wEnd : ACode := (⟨_, by conv => (lhs; reduce; try simp only [lt1, Int.cast_ofNat_Int, Int.reduceNegSucc, UInt8.reduceOfNat])⟩ : {x // c45.sub [1, 1, 1, 1, 1, 1] = x}).1
theorem written_fin (x : Step) (ht : i64 x.tick) (s : List UInt8) (hs : s.length ≤ 1000000000000000) (own : Nat → Bool) : Aw ctx own 97 0 wEnd (RetPD [.t 2] (.str (lineTo [97, 116] [x.tick] ++ (32 :: s) ++ [10]))) [(1, .ptr 0 0 0), (5, .ptr 1 0 0)] [sBox x, strB s] := by
 have h1 := line_ok [97, 116] [x.tick] (by simp) (fun k => by
  match k with
  | 0 => exact ht
  | k + 1 => simp [i64]) (by simp)
 have hL := lineTo_lenV [x.tick] (by simpa using ht) [97, 116]
 have h2 := trim_ok (lineTo [97, 116] [x.tick] ++ [10]) [10] (by rw [List.length_append]; simp at hL ⊢; omega)
 rw [trim_line] at h2
 unfold intsP at h1
 refine ev1_aw (T := [(44, fun _ => some (.str (lineTo [97, 116] [x.tick] ++ [10]))), (84, fun _ => some (.str (lineTo [97, 116] [x.tick])))]) (H := []) ?_
 dsimp only [sBox, strB, stepC, go_sem]
 refine ⟨?_, ?_, ?_⟩
 ·generalize lineTo [97, 116] [x.tick] = L at hL ⊢
  simp only [List.length_cons, List.length_nil] at hL
  simp only [VCs, maxI, List.length_append, List.length_cons, List.length_nil]
  refine ⟨by omega, by omega, by omega, by omega, by omega, by omega, by omega, by omega, by omega, trivial⟩
 ·exact ⟨h2, h1, trivial⟩
 refine evA ?_
 dsimp only [go_sem]
 exact ⟨(by first | exact True.intro | (simp only [vb, lb]; omega) | (simp [vb] <;> omega)), by rw [List.append_assoc, List.append_assoc, List.append_assoc]; rfl⟩
theorem vc_step {k : Nat} (hkk : k ≤ 1000000) : VCs [(minI, (k : Int) + 1), ((k : Int) + 1, maxI)] := by
 simp [VCs, minI, maxI]
 omega
attribute [local irreducible] lineTo Lib.itoa
set_option maxHeartbeats 4000000 in
theorem written_ok (x : Step) (h : Wr x) : PureOK ctx 45 [stepP x] (.str (writtenP x)) := by
 have hw := words_ok
 refine pure_body' (C := ctx) (Fn.of fn45 rfl) rfl ?_
 unfold c45
 refine evT [(64, fun _ => some (.tup [wordsP kindWords, wordsP queryWords]))] ?_
 dsimp only [stepP, stepC, go_sem]
 try dsimp only [stepP, stepC, go_sem]
 refine ⟨(by simp [vb, hw] <;> omega), (by simp [vb, hw] <;> omega), ?_⟩
 refine evT [(64, fun _ => some (.tup [wordsP kindWords, wordsP queryWords]))] ?_
 dsimp only [stepP, stepC, go_sem]
 try dsimp only [stepP, stepC, go_sem]
 refine ⟨(by simp [vb, hw] <;> omega), (by simp [vb, hw] <;> omega), ?_⟩
 have e := getD_map PV.str kindWords x.kind.toNat [] default (by have := h.k0; have := h.k1; simp [kindWords]; omega)
 have hk0 := h.k0
 have hk1 := h.k1
 have hkl : kindWords.length = 7 := rfl
 refine evH [(17, { val := some (.pv (.str (kindWords.getD x.kind.toNat []))) })] ?_
 dsimp only [wordsP, go_sem]
 try dsimp only [wordsP, go_sem]
 refine ⟨(by simp [vb, hkl] <;> omega), ?_, ?_⟩
 ·simp only [All, Nat.mul_one, and_true]
  exact congrArg AV.pv e
 generalize hw0 : kindWords.getD x.kind.toNat [] = w0
 have hl0 : w0.length ≤ 7 := by
  subst hw0
  have : ∀ k : Nat, k ≤ 6 → (kindWords.getD k []).length ≤ 7 := by decide
  exact this _ (by omega)
 have hw0' : kindWords[x.kind.toNat]?.getD [] = w0 := hw0
 rw [hw0']
 have hsay := fun w ns h1 h2 h3 => say_ok x w ns h1 h2 h3 [] (sBox_ok x w)
 refine aw_frame [(1, .ptr 0 0 0), (4, .pv (wordsP queryWords)), (5, .ptr 1 0 0)] ⟨rfl, rfl, rfl, trivial⟩ ?_
 have hs1 := hsay w0 [x.replica] (by simp) (by simpa using h.r) (by omega)
 unfold sBox strB stepC at hs1
 refine evA ?_
 dsimp only [go_sem]
 try dsimp only [go_sem]
 refine ⟨(by simp [vb] <;> omega), (by simp [vb] <;> omega), ?_⟩
 refine evH [(23, { val := some (.pv (.tup [])), mem := some [sBox x, strB (lineTo w0 [x.replica])] })] ?_
 dsimp only [go_sem]
 try dsimp only [go_sem]
 refine ⟨(by simp [vb] <;> omega), ?_, ?_⟩
 ·exact ⟨hs1, trivial⟩
 have hs1l := lineTo_lenV [x.replica] (by simpa using h.r) w0
 generalize hws : lineTo w0 [x.replica] = s1 at *
 refine aw_frame [(1, .ptr 0 0 0), (4, .pv (wordsP queryWords)), (5, .ptr 1 0 0), (6, .fn 83 [.ptr 1 0 0])] ⟨rfl, rfl, rfl, rfl, trivial⟩ ?_
 have hres : writtenP x = lineTo [97, 116] [x.tick] ++ (32 :: writtenW x) ++ [10] := rfl
 unfold writtenW at hres
 rw [hw0, hws] at hres
 have hkind : x.kind = 0 ∨ x.kind = 1 ∨ x.kind = 2 ∨ x.kind = 3 ∨ x.kind = 4 ∨ x.kind = 5 ∨ x.kind = 6 := by omega
 rcases hkind with hk | hk | hk | hk | hk | hk | hk
 ·have hb0 : (x.kind == 0) = true := by simp [hk]
  have hs2 := hsay s1 [x.session, x.action] (by simp) (by simpa using ⟨h.s, h.a⟩) (by simp at hs1l; omega)
  refine aw_seq ?_
  refine evA ?_
  dsimp only [sBox, strB, stepC, go_sem]
  try dsimp only [sBox, strB, stepC, go_sem]
  refine ⟨(by simp [vb] <;> omega), (by simp [vb] <;> omega), ?_⟩
  refine aw_block ?_
  unfold sBox strB stepC at hs2
  refine evA ?_
  dsimp only [go_sem]
  try dsimp only [go_sem]
  refine ⟨(by simp [vb] <;> omega), (by simp [vb] <;> omega), ?_⟩
  rw [hb0]
  refine evH [(34, { val := some (.pv (.tup [])), mem := some [sBox x, strB (lineTo s1 [x.session, x.action])] })] ?_
  dsimp only [go_sem]
  refine ⟨fun _ => ?_, fun h => by simp at h <;> omega⟩
  refine evH [(34, { val := some (.pv (.tup [])), mem := some [sBox x, strB (lineTo s1 [x.session, x.action])] })] ?_
  dsimp only [go_sem]
  try dsimp only [go_sem]
  refine ⟨(by simp [vb] <;> omega), ?_, ?_⟩
  ·exact ⟨hs2, trivial⟩
  rw [hres, if_pos hk]
  exact aw_frame [(1, .ptr 0 0 0), (5, .ptr 1 0 0)] ⟨rfl, rfl, trivial⟩ (written_fin x h.t _ (by have := lineTo_lenV [x.session, x.action] (by simpa using ⟨h.s, h.a⟩) s1; simp at this hs1l; omega) _)
 ·have hb0 : (x.kind == 0) = false := by simp [hk]
  have hb1 : (x.kind == 1) = true := by simp [hk]
  have hs2 := hsay s1 [x.session] (by simp) (by simpa using h.s) (by simp at hs1l; omega)
  unfold sBox strB stepC at hs2
  refine aw_seq ?_
  refine evA ?_
  dsimp only [sBox, strB, stepC, go_sem]
  try dsimp only [sBox, strB, stepC, go_sem]
  refine ⟨(by simp [vb] <;> omega), (by simp [vb] <;> omega), ?_⟩
  refine aw_block ?_
  refine evA ?_
  dsimp only [go_sem]
  try dsimp only [go_sem]
  refine ⟨(by simp [vb] <;> omega), (by simp [vb] <;> omega), ?_⟩
  rw [hb0]
  refine evA ?_
  dsimp only [go_sem]
  refine ⟨fun h => by simp at h <;> omega, fun _ => ?_⟩
  refine evA ?_
  dsimp only [go_sem]
  try dsimp only [go_sem]
  refine ⟨(by simp [vb] <;> omega), (by simp [vb] <;> omega), ?_⟩
  rw [hb1]
  refine evH [(41, { val := some (.pv (.tup [])), mem := some [sBox x, strB (lineTo s1 [x.session])] })] ?_
  dsimp only [go_sem]
  refine ⟨fun _ => ?_, fun h => by simp at h <;> omega⟩
  refine evH [(41, { val := some (.pv (.tup [])), mem := some [sBox x, strB (lineTo s1 [x.session])] })] ?_
  dsimp only [go_sem]
  try dsimp only [go_sem]
  refine ⟨(by simp [vb] <;> omega), ?_, ?_⟩
  ·exact ⟨hs2, trivial⟩
  refine evA ?_
  dsimp only [sBox, strB, stepC, queriesP, go_sem]
  try dsimp only [sBox, strB, stepC, queriesP, go_sem]
  refine ⟨(by simp [vb] <;> omega), (by simp [vb] <;> omega), ?_⟩
  refine aw_block ?_
  generalize hs2w : lineTo s1 [x.session] = s2 at *
  refine aw_forP x.queries.length (fun _ => True) (fun k => [(1, .ptr 0 0 0), (4, .pv (wordsP queryWords)), (5, .ptr 1 0 0), (6, .fn 83 [.ptr 1 0 0]), (43, .pv (queriesP x.queries)), (44, .pv (.int .i64 x.queries.length)), (45, .pv (.int .i64 k))]) (fun k => [sBox x, strB (qText s2 (x.queries.take k))]) trivial ⟨rfl, rfl, rfl, rfl, rfl, rfl, rfl, trivial⟩ rfl fun k hkn _ => ?_
  by_cases hlt : k < x.queries.length
  ·have hd : decide ((k : Int) < x.queries.length) = true := by simp; omega
   have hqv := h.q (x.queries.getD k (0, 0)) (by rw [List.getD, List.getElem?_eq_getElem hlt]; exact List.getElem_mem hlt)
   have hT := qText_take s2 x.queries k hlt (0, 0)
   generalize hq : x.queries.getD k (0, 0) = q at *
   refine evA ?_
   dsimp only [queriesP, sBox, strB, stepC, go_sem]
   try dsimp only [queriesP, sBox, strB, stepC, go_sem]
   refine ⟨(by simp [vb] <;> omega), (by simp [vb] <;> omega), ?_⟩
   rw [hd]
   refine evA ?_
   dsimp only [go_sem]
   refine ⟨fun _ => ?_, fun h => by simp at h <;> omega⟩
   refine evA ?_
   dsimp only [go_sem]
   refine aw_seq ?_
   refine aw_block ?_
   refine evH [(48, { val := some (.pv (.agg [.int .i64 q.1, .int .i64 q.2])) })] ?_
   dsimp only [queriesP, go_sem]
   try dsimp only [queriesP, go_sem]
   refine ⟨(by simp [vb, hlt, flatMap_length queryC_len] <;> omega), ?_, ?_⟩
   ·refine ⟨?_, trivial⟩
    rw [Int.toNat_natCast, queries_at _ _ hlt (0, 0), hq]
    rfl
   generalize hpre : qText s2 (x.queries.take k) = pre at *
   have eq := getD_map PV.str queryWords q.1.toNat [] default (by simp [queryWords]; omega)
   have hql : queryWords.length = 3 := rfl
   have hpl : pre.length ≤ 1000000000 := by
    have h1 := qText_len (x.queries.take k) (fun q hq => (h.q q (List.mem_of_mem_take hq)).2.2) s2
    have h2 := lineTo_lenV [x.session] (by simpa using h.s) s1
    have h3 := h.qn
    have h4 : (x.queries.take k).length ≤ x.queries.length := by simp; omega
    rw [hpre] at h1
    rw [hs2w] at h2
    simp only [List.length_cons, List.length_nil] at h2 hs1l
    omega
   have hwl := qWord_len q.1.toNat
   refine ev1_aw (T := []) (H := [(54, { val := some (.pv (.str (queryWords.getD q.1.toNat []))) })]) ?_
   dsimp only [wordsP, go_sem]
   simp only [List.getD] at hwl eq hT
   generalize queryWords[q.1.toNat]?.getD [] = qw at *
   refine ⟨?_, ?_, ?_⟩
   ·have h1 := hqv.1
    have h2 := hqv.2.1
    simp only [VCs, maxI, List.length_map, hql]
    refine ⟨by omega, by omega, by omega, by omega, by omega, by omega, by omega, by omega, by omega, by omega, by omega, by omega, by omega, by omega, trivial⟩
   ·simp only [All, Nat.mul_one, and_true]
    exact congrArg AV.pv eq
   have hs3 := say_ok x (pre ++ 32 :: qw) [q.2] (by simp) (by simpa using hqv.2.2) (by rw [List.length_append, List.length_cons]; omega) [⟨[.pv (.int .i64 q.1), .pv (.int .i64 q.2)], 0, 2, 55, false⟩] (by simp [okMem, sBox, strB, stepC, bnd])
   unfold sBox strB stepC at hs3
   refine evH [(61, { val := some (.pv (.tup [])), mem := some ([sBox x, strB (lineTo (pre ++ 32 :: qw) [q.2])] ++ [⟨[.pv (.int .i64 q.1), .pv (.int .i64 q.2)], 0, 2, 55, false⟩]) })] ?_
   dsimp only [go_sem]
   try dsimp only [go_sem]
   refine ⟨(by simp [vb] <;> omega), ?_, ?_⟩
   ·exact ⟨hs3, trivial⟩
   refine aw_keep [0, 1] rfl ?_
   refine ev1_aw (T := []) (H := []) ?_
   dsimp only [sBox, strB, stepC, go_sem]
   have hkk : k ≤ 1000000 := by have := h.qn; omega
   refine ⟨?_, trivial, ?_⟩
   ·exact vc_step hkk
   refine ⟨hlt, trivial, ⟨rfl, rfl, rfl, rfl, rfl, rfl, rfl, trivial⟩, ?_⟩
   rw [hT]
   rfl
  ·have hd : decide ((k : Int) < x.queries.length) = false := by simp; omega
   have hkl2 : k = x.queries.length := by omega
   subst hkl2
   rw [List.take_length]
   refine evA ?_
   dsimp only [queriesP, go_sem]
   try dsimp only [queriesP, go_sem]
   refine ⟨(by simp [vb] <;> omega), (by simp [vb] <;> omega), ?_⟩
   rw [hd]
   refine evA ?_
   dsimp only [go_sem]
   refine ⟨fun h => by simp at h <;> omega, fun _ => ?_⟩
   refine evA ?_
   dsimp only [go_sem]
   rw [hres, if_neg (by omega), if_pos hk, hs2w]
   exact aw_frame [(1, .ptr 0 0 0), (5, .ptr 1 0 0)] ⟨rfl, rfl, trivial⟩ (written_fin x h.t _ (by
    have := qText_len x.queries (fun q hq => (h.q q hq).2.2) s2
    have := lineTo_lenV [x.session] (by simpa using h.s) s1
    have := h.qn
    rw [hs2w] at *
    simp at *
    omega) _)
 ·have hb0 : (x.kind == 0) = false := by simp [hk]
  have hb1 : (x.kind == 1) = false := by simp [hk]
  have hb2 : (x.kind == 2) = true := by simp [hk]
  have hs2 := hsay s1 [x.other] (by simp) (by simpa using h.o) (by simp at hs1l; omega)
  refine aw_seq ?_
  refine evA ?_
  dsimp only [sBox, strB, stepC, go_sem]
  try dsimp only [sBox, strB, stepC, go_sem]
  refine ⟨(by simp [vb] <;> omega), (by simp [vb] <;> omega), ?_⟩
  refine aw_block ?_
  unfold sBox strB stepC at hs2
  refine evA ?_
  dsimp only [go_sem]
  try dsimp only [go_sem]
  refine ⟨(by simp [vb] <;> omega), (by simp [vb] <;> omega), ?_⟩
  rw [hb0]
  refine evA ?_
  dsimp only [go_sem]
  refine ⟨fun h => by simp at h <;> omega, fun _ => ?_⟩
  refine evA ?_
  dsimp only [go_sem]
  try dsimp only [go_sem]
  refine ⟨(by simp [vb] <;> omega), (by simp [vb] <;> omega), ?_⟩
  rw [hb1]
  refine evA ?_
  dsimp only [go_sem]
  refine ⟨fun h => by simp at h <;> omega, fun _ => ?_⟩
  refine evA ?_
  dsimp only [go_sem]
  try dsimp only [go_sem]
  refine ⟨(by simp [vb] <;> omega), (by simp [vb] <;> omega), ?_⟩
  rw [hb2]
  iterate 5 first
   | refine ⟨fun _ => ?_, fun h => by simp at h <;> omega⟩
   | (refine evH [(70, { val := some (.pv (.tup [])), mem := some [sBox x, strB (lineTo s1 [x.other])] })] ?_; iterate 2 (try dsimp only [go_sem]))
  refine evH [(70, { val := some (.pv (.tup [])), mem := some [sBox x, strB (lineTo s1 [x.other])] })] ?_
  dsimp only [go_sem]
  try dsimp only [go_sem]
  refine ⟨(by simp [vb] <;> omega), ?_, ?_⟩
  ·exact ⟨hs2, trivial⟩
  rw [hres, if_neg (by omega), if_neg (by omega), if_pos (by omega)]
  exact aw_frame [(1, .ptr 0 0 0), (5, .ptr 1 0 0)] ⟨rfl, rfl, trivial⟩ (written_fin x h.t _ (by have := lineTo_lenV [x.other] (by simpa using h.o) s1; simp at this hs1l; omega) _)
 ·have hq : True := trivial
  have hb0 : (x.kind == 0) = false := by simp [hk]
  have hb1 : (x.kind == 1) = false := by simp [hk]
  have hb2 : (x.kind == 2) = false := by simp [hk]
  have hb3 : (x.kind == 3) = true := by simp [hk]
  have hs2 := hsay s1 [x.other] (by simp) (by simpa using h.o) (by simp at hs1l; omega)
  unfold sBox strB stepC at hs2
  refine aw_seq ?_
  refine evA ?_
  dsimp only [sBox, strB, stepC, go_sem]
  try dsimp only [sBox, strB, stepC, go_sem]
  refine ⟨(by simp [vb] <;> omega), (by simp [vb] <;> omega), ?_⟩
  refine aw_block ?_
  refine evA ?_
  dsimp only [go_sem]
  try dsimp only [go_sem]
  refine ⟨(by simp [vb] <;> omega), (by simp [vb] <;> omega), ?_⟩
  rw [hb0]
  refine evA ?_
  dsimp only [go_sem]
  refine ⟨fun h => by simp at h <;> omega, fun _ => ?_⟩
  refine evA ?_
  dsimp only [go_sem]
  try dsimp only [go_sem]
  refine ⟨(by simp [vb] <;> omega), (by simp [vb] <;> omega), ?_⟩
  rw [hb1]
  refine evA ?_
  dsimp only [go_sem]
  refine ⟨fun h => by simp at h <;> omega, fun _ => ?_⟩
  refine evA ?_
  dsimp only [go_sem]
  try dsimp only [go_sem]
  refine ⟨(by simp [vb] <;> omega), (by simp [vb] <;> omega), ?_⟩
  rw [hb2]
  refine evA ?_
  dsimp only [go_sem]
  refine ⟨fun h => by simp at h <;> omega, fun _ => ?_⟩
  refine evA ?_
  dsimp only [go_sem]
  try dsimp only [go_sem]
  refine ⟨(by simp [vb] <;> omega), (by simp [vb] <;> omega), ?_⟩
  rw [hb3]
  refine evH [(70, { val := some (.pv (.tup [])), mem := some [sBox x, strB (lineTo s1 [x.other])] })] ?_
  dsimp only [go_sem]
  refine ⟨fun _ => ?_, fun h => by simp at h <;> omega⟩
  refine evH [(70, { val := some (.pv (.tup [])), mem := some [sBox x, strB (lineTo s1 [x.other])] })] ?_
  dsimp only [go_sem]
  try dsimp only [go_sem]
  refine ⟨(by simp [vb] <;> omega), ?_, ?_⟩
  ·exact ⟨hs2, trivial⟩
  rw [hres, if_neg (by omega), if_neg (by omega), if_pos (by omega)]
  exact aw_frame [(1, .ptr 0 0 0), (5, .ptr 1 0 0)] ⟨rfl, rfl, trivial⟩ (written_fin x h.t _ (by have := lineTo_lenV [x.other] (by simpa using h.o) s1; simp at this hs1l; omega) _)
 ·have hq : True := trivial
  have hb0 : (x.kind == 0) = false := by simp [hk]
  have hb1 : (x.kind == 1) = false := by simp [hk]
  have hb2 : (x.kind == 2) = false := by simp [hk]
  have hb3 : (x.kind == 3) = false := by simp [hk]
  have hb4 : (x.kind == 4) = true := by simp [hk]
  have hl2 := lineTo_lenV [x.after] (by simpa using h.f) s1
  have hs2 := hsay s1 [x.after] (by simp) (by simpa using h.f) (by simp at hs1l; omega)
  have hs3 := hsay (lineTo s1 [x.after]) x.survive h.sn h.sv (by simp at hs1l hl2; omega)
  unfold sBox strB stepC at hs2 hs3
  refine aw_seq ?_
  refine evA ?_
  dsimp only [sBox, strB, stepC, go_sem]
  try dsimp only [sBox, strB, stepC, go_sem]
  refine ⟨(by simp [vb] <;> omega), (by simp [vb] <;> omega), ?_⟩
  refine aw_block ?_
  refine evA ?_
  dsimp only [go_sem]
  try dsimp only [go_sem]
  refine ⟨(by simp [vb] <;> omega), (by simp [vb] <;> omega), ?_⟩
  rw [hb0]
  refine evA ?_
  dsimp only [go_sem]
  refine ⟨fun h => by simp at h <;> omega, fun _ => ?_⟩
  refine evA ?_
  dsimp only [go_sem]
  try dsimp only [go_sem]
  refine ⟨(by simp [vb] <;> omega), (by simp [vb] <;> omega), ?_⟩
  rw [hb1]
  refine evA ?_
  dsimp only [go_sem]
  refine ⟨fun h => by simp at h <;> omega, fun _ => ?_⟩
  refine evA ?_
  dsimp only [go_sem]
  try dsimp only [go_sem]
  refine ⟨(by simp [vb] <;> omega), (by simp [vb] <;> omega), ?_⟩
  rw [hb2]
  refine evA ?_
  dsimp only [go_sem]
  refine ⟨fun h => by simp at h <;> omega, fun _ => ?_⟩
  refine evA ?_
  dsimp only [go_sem]
  try dsimp only [go_sem]
  refine ⟨(by simp [vb] <;> omega), (by simp [vb] <;> omega), ?_⟩
  rw [hb3]
  refine evA ?_
  dsimp only [go_sem]
  refine ⟨fun h => by simp at h <;> omega, fun _ => ?_⟩
  refine evA ?_
  dsimp only [go_sem]
  try dsimp only [go_sem]
  refine ⟨(by simp [vb] <;> omega), (by simp [vb] <;> omega), ?_⟩
  rw [hb4]
  refine evH [(77, { val := some (.pv (.tup [])), mem := some [sBox x, strB (lineTo s1 [x.after])] })] ?_
  dsimp only [go_sem]
  refine ⟨fun _ => ?_, fun h => by simp at h <;> omega⟩
  refine evH [(77, { val := some (.pv (.tup [])), mem := some [sBox x, strB (lineTo s1 [x.after])] })] ?_
  dsimp only [go_sem]
  try dsimp only [go_sem]
  refine ⟨(by simp [vb] <;> omega), ?_, ?_⟩
  ·exact ⟨hs2, trivial⟩
  refine evH [(81, { val := some (.pv (.tup [])), mem := some [sBox x, strB (lineTo (lineTo s1 [x.after]) x.survive)] })] ?_
  dsimp only [sBox, strB, stepC, go_sem]
  try dsimp only [sBox, strB, stepC, go_sem]
  refine ⟨(by simp [vb] <;> omega), ?_, ?_⟩
  ·exact ⟨hs3, trivial⟩
  rw [hres, if_neg (by omega), if_neg (by omega), if_neg (by omega), if_pos (by omega)]
  exact aw_frame [(1, .ptr 0 0 0), (5, .ptr 1 0 0)] ⟨rfl, rfl, trivial⟩ (written_fin x h.t _ (by have := lineTo_lenV x.survive h.sv (lineTo s1 [x.after]); have := h.sn; simp at hl2 hs1l; omega) _)
 ·have hq : True := trivial
  have hb0 : (x.kind == 0) = false := by simp [hk]
  have hb1 : (x.kind == 1) = false := by simp [hk]
  have hb2 : (x.kind == 2) = false := by simp [hk]
  have hb3 : (x.kind == 3) = false := by simp [hk]
  have hb4 : (x.kind == 4) = false := by simp [hk]
  have hb6 : (x.kind == 6) = false := by simp [hk]
  refine aw_seq ?_
  refine evA ?_
  dsimp only [sBox, strB, stepC, go_sem]
  try dsimp only [sBox, strB, stepC, go_sem]
  refine ⟨(by simp [vb] <;> omega), (by simp [vb] <;> omega), ?_⟩
  refine aw_block ?_
  refine evA ?_
  dsimp only [go_sem]
  try dsimp only [go_sem]
  refine ⟨(by simp [vb] <;> omega), (by simp [vb] <;> omega), ?_⟩
  rw [hb0]
  refine evA ?_
  dsimp only [go_sem]
  refine ⟨fun h => by simp at h <;> omega, fun _ => ?_⟩
  refine evA ?_
  dsimp only [go_sem]
  try dsimp only [go_sem]
  refine ⟨(by simp [vb] <;> omega), (by simp [vb] <;> omega), ?_⟩
  rw [hb1]
  refine evA ?_
  dsimp only [go_sem]
  refine ⟨fun h => by simp at h <;> omega, fun _ => ?_⟩
  refine evA ?_
  dsimp only [go_sem]
  try dsimp only [go_sem]
  refine ⟨(by simp [vb] <;> omega), (by simp [vb] <;> omega), ?_⟩
  rw [hb2]
  refine evA ?_
  dsimp only [go_sem]
  refine ⟨fun h => by simp at h <;> omega, fun _ => ?_⟩
  refine evA ?_
  dsimp only [go_sem]
  try dsimp only [go_sem]
  refine ⟨(by simp [vb] <;> omega), (by simp [vb] <;> omega), ?_⟩
  rw [hb3]
  refine evA ?_
  dsimp only [go_sem]
  refine ⟨fun h => by simp at h <;> omega, fun _ => ?_⟩
  refine evA ?_
  dsimp only [go_sem]
  try dsimp only [go_sem]
  refine ⟨(by simp [vb] <;> omega), (by simp [vb] <;> omega), ?_⟩
  rw [hb4]
  refine evA ?_
  dsimp only [go_sem]
  refine ⟨fun h => by simp at h <;> omega, fun _ => ?_⟩
  refine evA ?_
  dsimp only [go_sem]
  try dsimp only [go_sem]
  refine ⟨(by simp [vb] <;> omega), (by simp [vb] <;> omega), ?_⟩
  rw [hb6]
  refine evA ?_
  dsimp only [go_sem]
  refine ⟨fun h => by simp at h <;> omega, fun _ => ?_⟩
  refine evA ?_
  dsimp only [go_sem]
  rw [hres, if_neg (by omega), if_neg (by omega), if_neg (by omega), if_neg (by omega), if_neg (by omega)]
  exact aw_frame [(1, .ptr 0 0 0), (5, .ptr 1 0 0)] ⟨rfl, rfl, trivial⟩ (written_fin x h.t _ (by simp at hs1l; omega) _)
 ·have hq : True := trivial
  have hb0 : (x.kind == 0) = false := by simp [hk]
  have hb1 : (x.kind == 1) = false := by simp [hk]
  have hb2 : (x.kind == 2) = false := by simp [hk]
  have hb3 : (x.kind == 3) = false := by simp [hk]
  have hb4 : (x.kind == 4) = false := by simp [hk]
  have hb6 : (x.kind == 6) = true := by simp [hk]
  have hs2 := hsay s1 x.voters h.vn h.vv (by simp at hs1l; omega)
  unfold sBox strB stepC at hs2
  refine aw_seq ?_
  refine evA ?_
  dsimp only [sBox, strB, stepC, go_sem]
  try dsimp only [sBox, strB, stepC, go_sem]
  refine ⟨(by simp [vb] <;> omega), (by simp [vb] <;> omega), ?_⟩
  refine aw_block ?_
  refine evA ?_
  dsimp only [go_sem]
  try dsimp only [go_sem]
  refine ⟨(by simp [vb] <;> omega), (by simp [vb] <;> omega), ?_⟩
  rw [hb0]
  refine evA ?_
  dsimp only [go_sem]
  refine ⟨fun h => by simp at h <;> omega, fun _ => ?_⟩
  refine evA ?_
  dsimp only [go_sem]
  try dsimp only [go_sem]
  refine ⟨(by simp [vb] <;> omega), (by simp [vb] <;> omega), ?_⟩
  rw [hb1]
  refine evA ?_
  dsimp only [go_sem]
  refine ⟨fun h => by simp at h <;> omega, fun _ => ?_⟩
  refine evA ?_
  dsimp only [go_sem]
  try dsimp only [go_sem]
  refine ⟨(by simp [vb] <;> omega), (by simp [vb] <;> omega), ?_⟩
  rw [hb2]
  refine evA ?_
  dsimp only [go_sem]
  refine ⟨fun h => by simp at h <;> omega, fun _ => ?_⟩
  refine evA ?_
  dsimp only [go_sem]
  try dsimp only [go_sem]
  refine ⟨(by simp [vb] <;> omega), (by simp [vb] <;> omega), ?_⟩
  rw [hb3]
  refine evA ?_
  dsimp only [go_sem]
  refine ⟨fun h => by simp at h <;> omega, fun _ => ?_⟩
  refine evA ?_
  dsimp only [go_sem]
  try dsimp only [go_sem]
  refine ⟨(by simp [vb] <;> omega), (by simp [vb] <;> omega), ?_⟩
  rw [hb4]
  refine evA ?_
  dsimp only [go_sem]
  refine ⟨fun h => by simp at h <;> omega, fun _ => ?_⟩
  refine evA ?_
  dsimp only [go_sem]
  try dsimp only [go_sem]
  refine ⟨(by simp [vb] <;> omega), (by simp [vb] <;> omega), ?_⟩
  rw [hb6]
  refine evH [(87, { val := some (.pv (.tup [])), mem := some [sBox x, strB (lineTo s1 x.voters)] })] ?_
  dsimp only [go_sem]
  refine ⟨fun _ => ?_, fun h => by simp at h <;> omega⟩
  refine evH [(87, { val := some (.pv (.tup [])), mem := some [sBox x, strB (lineTo s1 x.voters)] })] ?_
  dsimp only [go_sem]
  try dsimp only [go_sem]
  refine ⟨(by simp [vb] <;> omega), ?_, ?_⟩
  ·exact ⟨hs2, trivial⟩
  rw [hres, if_neg (by omega), if_neg (by omega), if_neg (by omega), if_neg (by omega), if_pos (by omega)]
  exact aw_frame [(1, .ptr 0 0 0), (5, .ptr 1 0 0)] ⟨rfl, rfl, trivial⟩ (written_fin x h.t _ (by have := lineTo_lenV x.voters h.vv s1; have := h.vn; simp at hs1l; omega) _)
end
section
open Sch
def c13 : ACode := (⟨_, by conv => (lhs; reduce; try simp only [lt1, Int.cast_ofNat_Int, Int.reduceNegSucc, UInt8.reduceOfNat])⟩ : {x // codeOf Tryz.prog 13 (fun _ => false) = some x}).1
theorem fn13 : fnOf Tryz.prog 13 (fun _ => false) = some (c13, [.t 2, .t 3], 78, true) := by kernel_rfl
def wReplicas : List UInt8 := [114, 101, 112, 108, 105, 99, 97, 115]
def wSessions : List UInt8 := [115, 101, 115, 115, 105, 111, 110, 115]
def wSectors : List UInt8 := [115, 101, 99, 116, 111, 114, 115]
def wTicks : List UInt8 := [116, 105, 99, 107, 115]
def wState : List UInt8 := [115, 116, 97, 116, 101]
def wFate : List UInt8 := [102, 97, 116, 101]
def wDrop : List UInt8 := [102, 97, 116, 101, 32, 100, 114, 111, 112, 10]
def lineP1 (w : List UInt8) (ns : List Int) : List UInt8 := lineTo w ns ++ [10]
def headText (s : Sched) : List UInt8 := lineP1 wReplicas [s.replicas] ++ lineP1 wSessions [s.sessions] ++ lineP1 wSectors [s.sectors] ++ lineP1 wTicks [s.ticks] ++ lineP1 wState s.state
def fateText (f : Fate) : List UInt8 := if f.drop then wDrop else if f.again = 0 then lineP1 wFate [f.delay] else lineP1 wFate [f.delay, f.again]
def fmtText (s : Sched) : List UInt8 := headText s ++ s.fates.flatMap fateText ++ s.steps.flatMap writtenP
def formatP (s : Sched) : List UInt8 × Int := if valid s then (if 65536 < (fmtText s).length then ([], 8) else (fmtText s, 0)) else ([], 1)
structure Fm (s : Sched) : Prop where
 a : i64 s.replicas
 b : i64 s.sessions
 c : i64 s.sectors
 d : i64 s.ticks
 sn : s.state.length ≤ 128
 st : ∀ n ∈ s.state, i64 n
 fn : s.fates.length ≤ 256
 f : ∀ x ∈ s.fates, i64 x.delay ∧ i64 x.again
 pn : s.steps.length ≤ 256
 p : ∀ x ∈ s.steps, Wr x
theorem lineP1_len (w : List UInt8) (ns : List Int) (h : ∀ n ∈ ns, i64 n) : (lineP1 w ns).length ≤ w.length + 22 * ns.length + 1 := by
 have := lineTo_lenV ns h w
 simp only [lineP1, List.length_append, List.length_cons, List.length_nil]
 omega
theorem lineP1_ok (w : List UInt8) (ns : List Int) (h : ∀ n ∈ ns, i64 n) (hn : ns.length ≤ 1000000) (hw : w.length ≤ 1000) : PureOK ctx 44 [.str w, intsP ns] (.str (lineP1 w ns)) :=
 line_ok w ns hn (fun k => by
  by_cases hk : k < ns.length
  ·exact h _ (getD_mem hk)
  ·rw [List.getD, List.getElem?_eq_none (by omega)]; exact ⟨by decide, by decide⟩) (by omega)
theorem fateText_len (f : Fate) (h : i64 f.delay ∧ i64 f.again) : (fateText f).length ≤ 100 := by
 unfold fateText
 split
 ·decide
 ·split
  ·have := lineP1_len wFate [f.delay] (by simpa using h.1)
   have hw : wFate.length = 4 := rfl
   simp only [List.length_cons, List.length_nil] at this
   omega
  ·have := lineP1_len wFate [f.delay, f.again] (by simpa using h)
   have hw : wFate.length = 4 := rfl
   simp only [List.length_cons, List.length_nil] at this
   omega
theorem writtenP_len (x : Step) (h : Wr x) : (writtenP x).length ≤ 100000000 := by
 have h1 := lineTo_lenV [x.tick] (by simpa using h.t) [97, 116]
 have hk : (kindWords.getD x.kind.toNat []).length ≤ 7 := by
  have : ∀ k : Nat, k ≤ 6 → (kindWords.getD k []).length ≤ 7 := by decide
  exact this _ (by have := h.k0; have := h.k1; omega)
 have h2 := lineTo_lenV [x.replica] (by simpa using h.r) (kindWords.getD x.kind.toNat [])
 have hW : (writtenW x).length ≤ 60000000 := by
  unfold writtenW
  generalize kindWords.getD x.kind.toNat [] = w0 at *
  generalize lineTo w0 [x.replica] = s1 at *
  simp only [List.length_cons, List.length_nil] at h2
  dsimp only
  have g1 := lineTo_lenV [x.session, x.action] (by simpa using ⟨h.s, h.a⟩) s1
  have g2 := lineTo_lenV [x.session] (by simpa using h.s) s1
  have g3 := qText_len x.queries (fun q hq => (h.q q hq).2.2) (lineTo s1 [x.session])
  have g4 := lineTo_lenV [x.other] (by simpa using h.o) s1
  have g5 := lineTo_lenV [x.after] (by simpa using h.f) s1
  have g6 := lineTo_lenV x.survive h.sv (lineTo s1 [x.after])
  have g7 := lineTo_lenV x.voters h.vv s1
  have := h.qn; have := h.sn; have := h.vn
  simp only [List.length_cons, List.length_nil] at g1 g2 g4 g5
  repeat' split
  all_goals omega
 unfold writtenP
 simp only [List.length_append, List.length_cons, List.length_nil] at h1 ⊢
 omega
theorem flat_len {α : Type} {g : α → List UInt8} {m : Nat} (l : List α) (h : ∀ x ∈ l, (g x).length ≤ m) : (l.flatMap g).length ≤ l.length * m := by
 induction l with
 | nil => simp
 | cons x r ih =>
  have h1 := h x List.mem_cons_self
  have h2 := ih fun y hy => h y (List.mem_cons_of_mem _ hy)
  rw [List.flatMap_cons, List.length_append, List.length_cons, Nat.succ_mul]
  omega
def sB7 (s : Sched) : Blk := ⟨[.pv (.int .i64 s.replicas), .pv (.int .i64 s.sessions), .pv (.int .i64 s.sectors), .pv (.int .i64 s.ticks), .pv (intsP s.state), .pv (fatesP s.fates), .pv (stepsP s.steps)], 0, 7, 27, false⟩
def fmM (s : Sched) (x : List UInt8) (j : Nat) : AM := [sB7 s, bldB (.ptr 1 0 0) (.ref 2 j 0 x.length) 0, rowB x j]
theorem fm_write (s : Sched) (x l : List UInt8) (j : Nat) (tl : AM) (htl : okMem (fmM s x j ++ tl) (fmM s x j ++ tl).length = true) (hl : x.length + l.length ≤ 140737488355328) :
  RefOK ctx 43 [.ptr 1 0 0, .pv (.str l)] (fmM s x j ++ tl) (.pv (.tup [.int .i64 l.length, .val .nilIface])) (fmM s (x ++ l) (j + 1) ++ tl) := by
 have := write_more htl (b := 1) (g := 0) (r := 2) (j := j) (old := x) (by decide) rfl rfl l hl
 simpa [fmM] using this
theorem fmM_ok (s : Sched) (x : List UInt8) (j : Nat) : okMem (fmM s x j) (fmM s x j).length = true := by
 simp [okMem, fmM, sB7, bldB, rowB, bnd, Nat.blt, byteA_bnd]
set_option maxHeartbeats 4000000 in
theorem format_no (s : Sched) (hv : PureOK ctx 12 [schedP s] (.bool false)) : PureOK ctx 13 [schedP s] (.tup [.str [], .int .i64 1]) := by
  refine pure_body' (C := ctx) (Fn.of fn13 rfl) rfl ?_
  unfold c13
  repeat' (first
    | ((with_reducible first | show VCs _ | show All _); (try dsimp only [go_sem]); first | (simp [vb, hv] <;> omega) | (simp only [vb, and_true, true_implies]; (repeat' (first | assumption | (with_reducible apply And.intro) | intro _)) <;> first | omega | (simp only [ab, hv]; done) | (simp [hv] <;> omega)))
    | exact (rfl : some _ = _)
    | (fail_if_success refine awL ?_
       refine evT [(12, fun _ => some (.bool false))] ?_
       repeat1' dsimp only [c13, schedP, go_sem]
       first
       | refine aw4 ?_ ?_ rfl ?_
       | apply aw3
       | apply aw2
       | (refine awB (fun hc => ?_) fun hc => ?_ <;> first | (cases hc; done) | (exfalso; simp [hv] at hc <;> omega) | (try simp only [bn] at hc; try contradiction))
       | skip))
set_option maxHeartbeats 4000000 in
theorem format_yes (s : Sched) (h : Fm s) (hv : PureOK ctx 12 [schedP s] (.bool true)) : PureOK ctx 13 [schedP s] (.tup [.str (if 65536 < (fmtText s).length then [] else fmtText s), .int .i64 (if 65536 < (fmtText s).length then 8 else 0)]) := by
  have h1 := lineP1_ok wReplicas [s.replicas] (by simpa using h.a) (by simp) (by decide)
  have h2 := lineP1_ok wSessions [s.sessions] (by simpa using h.b) (by simp) (by decide)
  have h3 := lineP1_ok wSectors [s.sectors] (by simpa using h.c) (by simp) (by decide)
  have h4 := lineP1_ok wTicks [s.ticks] (by simpa using h.d) (by simp) (by decide)
  have h5 := lineP1_ok wState s.state h.st (by have := h.sn; omega) (by decide)
  have l1 := lineP1_len wReplicas [s.replicas] (by simpa using h.a)
  have l2 := lineP1_len wSessions [s.sessions] (by simpa using h.b)
  have l3 := lineP1_len wSectors [s.sectors] (by simpa using h.c)
  have l4 := lineP1_len wTicks [s.ticks] (by simpa using h.d)
  have l5 := lineP1_len wState s.state h.st
  have hsn := h.sn
  have p5 : 1 ≤ (lineP1 wState s.state).length := by simp [lineP1]
  have hHL : (headText s).length ≤ 5000 := by
    have e1 : wReplicas.length = 8 := rfl
    have e2 : wSessions.length = 8 := rfl
    have e3 : wSectors.length = 7 := rfl
    have e4 : wTicks.length = 5 := rfl
    have e5 : wState.length = 5 := rfl
    simp only [headText, List.length_append, List.length_cons, List.length_nil] at l1 l2 l3 l4 l5 ⊢
    omega
  have hHT : headText s = lineP1 wReplicas [s.replicas] ++ lineP1 wSessions [s.sessions] ++ lineP1 wSectors [s.sectors] ++ lineP1 wTicks [s.ticks] ++ lineP1 wState s.state := rfl
  simp only [wReplicas, wSessions, wSectors, wTicks, wState, List.length_cons, List.length_nil] at l1 l2 l3 l4 l5 h1 h2 h3 h4 h5 hHT p5
  generalize lineP1 [114, 101, 112, 108, 105, 99, 97, 115] [s.replicas] = L1 at *
  generalize lineP1 [115, 101, 115, 115, 105, 111, 110, 115] [s.sessions] = L2 at *
  generalize lineP1 [115, 101, 99, 116, 111, 114, 115] [s.sectors] = L3 at *
  generalize lineP1 [116, 105, 99, 107, 115] [s.ticks] = L4 at *
  generalize lineP1 [115, 116, 97, 116, 101] s.state = L5 at *
  have hw := write_first (μ := [sB7 s, bldB (.pv (.val (.pointer none))) (.pv .nilsl) 0]) (by simp [okMem, sB7, bldB, bnd]) (b := 1) (g := 0) rfl (L1 ++ L2 ++ L3 ++ L4 ++ L5) (by simp only [List.length_append]; omega) (by simp only [List.length_append]; omega)
  refine pure_body' (C := ctx) (Fn.of fn13 rfl) rfl ?_
  unfold c13
  refine evT [(12, fun _ => some (.bool true))] ?_
  dsimp only [schedP, go_sem]
  try dsimp only [schedP, go_sem]
  refine ⟨(by simp [vb, hv] <;> omega), (by simp [vb, hv] <;> omega), ?_⟩
  refine evT [(12, fun _ => some (.bool true))] ?_
  dsimp only [schedP, go_sem]
  try dsimp only [schedP, go_sem]
  refine ⟨(by first | exact True.intro | (simp only [vb, lb]; omega) | (simp only [vb, lb, hv]; and_intros <;> first | omega | (simp <;> omega)) | (simp [vb, hv] <;> omega)), (by first | exact True.intro | ((try dsimp only [go_sem]); first | (simp [vb, hv] <;> omega) | (simp only [vb, and_true, true_implies]; (repeat' (first | assumption | (with_reducible apply And.intro) | intro _)) <;> first | omega | rfl | (simp only [ab, hv]; done) | (simp [Nat.mul_one, hv] <;> omega) | (simp_all; done)))), ?_⟩
  iterate 5 first
    | refine ⟨fun h => by simp at h <;> omega, fun _ => ?_⟩
    | refine ⟨by simp [vb] <;> omega, by simp [vb] <;> omega, ?_⟩
    | (refine evH [(15, { val := some (.pv (.str L1)) }), (19, { val := some (.pv (.str L2)) }), (24, { val := some (.pv (.str L3)) }), (29, { val := some (.pv (.str L4)) }), (33, { val := some (.pv (.str L5)) }), (35, { val := some (.pv (.tup [.int .i64 (L1 ++ L2 ++ L3 ++ L4 ++ L5).length, .val .nilIface])), mem := some (fmM s (headText s) 0) })] ?_; iterate 2 (try dsimp only [schedP, go_sem]))
  refine aw_seq (aw_regT (T := []) (H := [(15, { val := some (.pv (.str L1)) }), (19, { val := some (.pv (.str L2)) }), (24, { val := some (.pv (.str L3)) }), (29, { val := some (.pv (.str L4)) }), (33, { val := some (.pv (.str L5)) }), (35, { val := some (.pv (.tup [.int .i64 (L1 ++ L2 ++ L3 ++ L4 ++ L5).length, .val .nilIface])), mem := some (fmM s (headText s) 0) })]) (by rfl) ?_)
  dsimp only [evOpsTail, schedP, go_sem]
  try dsimp only [schedP, go_sem]
  refine ⟨(by simp [vb] <;> omega), ?_, ?_⟩
  · exact ⟨by rw [hHT]; exact hw, h5, h4, h3, h2, h1, trivial⟩
  clear h1 h2 h3 h4 h5 l1 l2 l3 l4 l5 hw hHT p5
  refine aw_frame [(1, .ptr 0 0 0), (4, .ptr 1 0 0)] (by (repeat' (first | exact trivial | refine And.intro (by first | rfl | (simp [get, Nat.beq]; done) | (simp [get, Nat.beq]; omega) | (dsimp only [get]; congr 1 <;> first | rfl | omega | (simp; done) | (simp; omega))) ?_))) ?_
  repeat' (first
    | ((with_reducible first | show VCs _ | show All _); simp [vb] <;> omega)
    | exact (rfl : some _ = _)
    | (fail_if_success refine awL ?_
       refine evA ?_
       repeat1' dsimp only [c13, fmM, sB7, bldB, rowB, fatesP, go_sem]
       first
       | refine aw4 ?_ ?_ rfl ?_
       | apply aw3
       | apply aw2
       | (refine awB (fun hc => ?_) fun hc => ?_ <;> first | (cases hc; done) | (exfalso; simp at hc <;> omega) | (try simp only [bn] at hc; try contradiction))
       | skip))
  refine aw_forJ s.fates.length (fun k => True) (fun k => [(1, .ptr 0 0 0), (4, .ptr 1 0 0), (37, .pv (fatesP s.fates)), (38, .pv (.int .i64 s.fates.length)), (39, .pv (.int .i64 k))]) (fun k => fmM s (headText s ++ (s.fates.take k).flatMap fateText) k) trivial (by (repeat' (first | exact trivial | refine And.intro (by first | rfl | (simp [get, Nat.beq]; done) | (simp [get, Nat.beq]; omega) | (dsimp only [get]; congr 1 <;> first | rfl | omega | (simp; done) | (simp; omega))) ?_))) ⟨[], by simp [fmM, sB7, bldB, rowB, fatesP]⟩ (fun k => ⟨Nat.zero_le _, rfl, fmM_ok s _ k⟩) fun k hk _ => ?_
  have hfl := h.fn
  by_cases hlt : k < s.fates.length
  · have e := fm_take fateC_len s.fates k ⟨false, 0, 0⟩ hlt
    have hs := take_succ_getD s.fates k ⟨false, 0, 0⟩ hlt
    have hff := h.f _ (getD_mem (d := ⟨false, 0, 0⟩) hlt)
    have hft := fateText_len _ hff
    have hfc := flatMap_length fateC_len s.fates
    have hXl : (headText s ++ (s.fates.take k).flatMap fateText).length ≤ 5000 + 256 * 100 := by
      have := flat_len (m := 100) (s.fates.take k) fun x hx => fateText_len x (h.f x (List.mem_of_mem_take hx))
      have h4 : (s.fates.take k).length ≤ 256 := by simp; omega
      rw [List.length_append]
      have := Nat.mul_le_mul_right 100 h4
      omega
    have hX : headText s ++ (s.fates.take (k + 1)).flatMap fateText = (headText s ++ (s.fates.take k).flatMap fateText) ++ fateText (s.fates.getD k ⟨false, 0, 0⟩) := by
      rw [hs, List.flatMap_append, List.append_assoc]
      simp
    rw [hX]
    clear hX hs
    generalize headText s ++ (s.fates.take k).flatMap fateText = X at *
    generalize s.fates.getD k ⟨false, 0, 0⟩ = q at *
    obtain ⟨b, d, g⟩ := q
    dsimp only at hff
    cases b with
    | true =>
      have hw := fm_write s X wDrop k [⟨[.pv (.bool true), .pv (.int .i64 d), .pv (.int .i64 g)], 0, 3, 53, false⟩] (by simp [okMem, fmM, sB7, bldB, rowB, bnd, Nat.blt, byteA_bnd]) (by simp [wDrop]; omega)
      repeat' (first
        | ((with_reducible first | show VCs _ | show All _); (try dsimp only [go_sem]); first | (simp [vb, e, hlt, hfc, hw, fateC] <;> omega) | (simp only [vb, and_true, true_implies]; (repeat' (first | assumption | (with_reducible apply And.intro) | intro _)) <;> first | omega | (simp only [ab, e, hlt, hfc, hw, fateC]; done) | (simp [e, hlt, hfc, hw, fateC] <;> omega)))
        | exact (rfl : some _ = _)
        | (fail_if_success refine awL ?_
           refine evH [(42, { val := some (.pv (.agg [.bool true, .int .i64 d, .int .i64 g])) }), (53, { val := some (.pv (.tup [.int .i64 (wDrop).length, .val .nilIface])), mem := some (fmM s (X ++ wDrop) (k + 1) ++ [⟨[.pv (.bool true), .pv (.int .i64 d), .pv (.int .i64 g)], 0, 3, 53, false⟩]) })] ?_
           repeat1' dsimp only [c13, fmM, sB7, bldB, rowB, fatesP, go_sem]
           first
           | refine aw4 ?_ ?_ rfl ?_
           | apply aw3
           | apply aw2
           | (refine awB (fun hc => ?_) fun hc => ?_ <;> first | (cases hc; done) | (exfalso; simp [e, hlt, hfc, hw, fateC] at hc <;> omega) | (try simp only [bn] at hc; try contradiction))
           | skip))
      exact ⟨hlt, trivial, by (repeat' (first | exact trivial | refine And.intro (by first | rfl | (simp [get, Nat.beq]; done) | (simp [get, Nat.beq]; omega) | (dsimp only [get]; congr 1 <;> first | rfl | omega | (simp; done) | (simp; omega))) ?_)), _, rfl⟩
    | false =>
      by_cases hg : g = 0
      · subst hg
        have hl := lineP1_ok wFate [d] (by simpa using hff.1) (by simp) (by decide)
        have hft' : fateText ⟨false, d, 0⟩ = lineP1 wFate [d] := rfl
        rw [hft'] at hft ⊢
        have hw := fm_write s X (lineP1 wFate [d]) k [⟨[.pv (.bool false), .pv (.int .i64 d), .pv (.int .i64 0)], 0, 3, 53, false⟩] (by simp [okMem, fmM, sB7, bldB, rowB, bnd, Nat.blt, byteA_bnd]) (by omega)
        repeat' (first
          | ((with_reducible first | show VCs _ | show All _); (try dsimp only [go_sem]); first | (simp [vb, e, hlt, hfc, hw, hl, fateC] <;> omega) | (simp only [vb, and_true, true_implies]; (repeat' (first | assumption | (with_reducible apply And.intro) | intro _)) <;> first | omega | (simp only [ab, e, hlt, hfc, hw, hl, fateC]; done) | (simp [e, hlt, hfc, hw, hl, fateC] <;> omega)))
          | exact (rfl : some _ = _)
          | (fail_if_success refine awL ?_
             refine evTH [(44, fun _ => some (.str (lineP1 wFate [d])))] [(42, { val := some (.pv (.agg [.bool false, .int .i64 d, .int .i64 0])) }), (62, { val := some (.pv (.tup [.int .i64 (lineP1 wFate [d]).length, .val .nilIface])), mem := some (fmM s (X ++ lineP1 wFate [d]) (k + 1) ++ [⟨[.pv (.bool false), .pv (.int .i64 d), .pv (.int .i64 0)], 0, 3, 53, false⟩]) })] ?_
             repeat1' dsimp only [c13, fmM, sB7, bldB, rowB, fatesP, go_sem]
             first
             | refine aw4 ?_ ?_ rfl ?_
             | apply aw3
             | apply aw2
             | (refine awB (fun hc => ?_) fun hc => ?_ <;> first | (cases hc; done) | (exfalso; simp [e, hlt, hfc, hw, hl, fateC] at hc <;> omega) | (try simp only [bn] at hc; try contradiction))
             | skip))
        exact ⟨hlt, trivial, by (repeat' (first | exact trivial | refine And.intro (by first | rfl | (simp [get, Nat.beq]; done) | (simp [get, Nat.beq]; omega) | (dsimp only [get]; congr 1 <;> first | rfl | omega | (simp; done) | (simp; omega))) ?_)), _, rfl⟩
      · have hl := lineP1_ok wFate [d, g] (by simpa using hff) (by simp) (by decide)
        have hft' : fateText ⟨false, d, g⟩ = lineP1 wFate [d, g] := by simp [fateText, hg]
        rw [hft'] at hft ⊢
        have hw := fm_write s X (lineP1 wFate [d, g]) k [⟨[.pv (.bool false), .pv (.int .i64 d), .pv (.int .i64 g)], 0, 3, 53, false⟩] (by simp [okMem, fmM, sB7, bldB, rowB, bnd, Nat.blt, byteA_bnd]) (by omega)
        repeat' (first
          | ((with_reducible first | show VCs _ | show All _); (try dsimp only [go_sem]); first | (simp [vb, e, hlt, hfc, hw, hl, hg, fateC] <;> omega) | (simp only [vb, and_true, true_implies]; (repeat' (first | assumption | (with_reducible apply And.intro) | intro _)) <;> first | omega | (simp only [ab, e, hlt, hfc, hw, hl, hg, fateC]; done) | (simp [e, hlt, hfc, hw, hl, hg, fateC] <;> omega)))
          | exact (rfl : some _ = _)
          | (fail_if_success refine awL ?_
             refine evTH [(44, fun _ => some (.str (lineP1 wFate [d, g])))] [(42, { val := some (.pv (.agg [.bool false, .int .i64 d, .int .i64 g])) }), (49, { val := some (.pv (.tup [.int .i64 (lineP1 wFate [d, g]).length, .val .nilIface])), mem := some (fmM s (X ++ lineP1 wFate [d, g]) (k + 1) ++ [⟨[.pv (.bool false), .pv (.int .i64 d), .pv (.int .i64 g)], 0, 3, 53, false⟩]) })] ?_
             repeat1' dsimp only [c13, fmM, sB7, bldB, rowB, fatesP, go_sem]
             first
             | refine aw4 ?_ ?_ rfl ?_
             | apply aw3
             | apply aw2
             | (refine awB (fun hc => ?_) fun hc => ?_ <;> first | (cases hc; done) | (exfalso; simp [e, hlt, hfc, hw, hl, hg, fateC] at hc <;> omega) | (try simp only [bn] at hc; try contradiction))
             | skip))
        exact ⟨hlt, trivial, by (repeat' (first | exact trivial | refine And.intro (by first | rfl | (simp [get, Nat.beq]; done) | (simp [get, Nat.beq]; omega) | (dsimp only [get]; congr 1 <;> first | rfl | omega | (simp; done) | (simp; omega))) ?_)), _, rfl⟩
  · have hkl : k = s.fates.length := by omega
    subst hkl
    rw [List.take_length]
    have hX0 : (headText s ++ s.fates.flatMap fateText).length ≤ 5000 + 256 * 100 := by
      have := flat_len (m := 100) s.fates fun x hx => fateText_len x (h.f x hx)
      rw [List.length_append]
      have := Nat.mul_le_mul_right 100 hfl
      omega
    have hne0 : headText s ++ s.fates.flatMap fateText ≠ [] := by simp [headText, lineP1]
    have hfmt : fmtText s = headText s ++ s.fates.flatMap fateText ++ s.steps.flatMap writtenP := rfl
    rw [hfmt]
    clear hfmt
    generalize headText s ++ s.fates.flatMap fateText = X0 at *
    generalize s.fates.length = j0 at *
    repeat' (first
      | ((with_reducible first | show VCs _ | show All _); simp [vb] <;> omega)
      | exact (rfl : some _ = _)
      | (fail_if_success refine awL ?_
         refine evA ?_
         repeat1' dsimp only [c13, fmM, sB7, bldB, rowB, fatesP, stepsP, go_sem]
         first
         | refine aw4 ?_ ?_ rfl ?_
         | apply aw3
         | apply aw2
         | (refine awB (fun hc => ?_) fun hc => ?_ <;> first | (cases hc; done) | (exfalso; simp at hc <;> omega) | (try simp only [bn] at hc; try contradiction))
         | skip))
    refine aw_forJ s.steps.length (fun k => True) (fun k => [(1, .ptr 0 0 0), (4, .ptr 1 0 0), (65, .pv (stepsP s.steps)), (66, .pv (.int .i64 s.steps.length)), (67, .pv (.int .i64 k))]) (fun k => fmM s (X0 ++ (s.steps.take k).flatMap writtenP) (j0 + k)) trivial (by (repeat' (first | exact trivial | refine And.intro (by first | rfl | (simp [get, Nat.beq]; done) | (simp [get, Nat.beq]; omega) | (dsimp only [get]; congr 1 <;> first | rfl | omega | (simp; done) | (simp; omega))) ?_))) ⟨[], by simp [fmM, sB7, bldB, rowB, fatesP, stepsP]⟩ (fun k => ⟨Nat.zero_le _, rfl, fmM_ok s _ _⟩) fun k hk _ => ?_
    have hpl := h.pn
    have hXl : (X0 ++ (s.steps.take k).flatMap writtenP).length ≤ 100000 + 256 * 100000000 := by
      have := flat_len (m := 100000000) (s.steps.take k) fun x hx => writtenP_len x (h.p x (List.mem_of_mem_take hx))
      have h4 : (s.steps.take k).length ≤ 256 := by simp; omega
      rw [List.length_append]
      have := Nat.mul_le_mul_right 100000000 h4
      omega
    by_cases hlt : k < s.steps.length
    · have e := fm_take stepC_len s.steps k zeroStep hlt
      have hs := take_succ_getD s.steps k zeroStep hlt
      have hww := h.p _ (getD_mem (d := zeroStep) hlt)
      have hwl := writtenP_len _ hww
      have hwo := written_ok _ hww
      have hpc := flatMap_length stepC_len s.steps
      have hX : X0 ++ (s.steps.take (k + 1)).flatMap writtenP = (X0 ++ (s.steps.take k).flatMap writtenP) ++ writtenP (s.steps.getD k zeroStep) := by
        rw [hs, List.flatMap_append, List.append_assoc]
        simp
      rw [hX, ← Nat.add_assoc]
      clear hX hs
      generalize X0 ++ (s.steps.take k).flatMap writtenP = X at *
      generalize s.steps.getD k zeroStep = x at *
      generalize hj : j0 + k = j at *
      have hw := fm_write s X (writtenP x) j [⟨(stepC x).map .pv, 0, 10, 41, false⟩] (by simp [okMem, fmM, sB7, bldB, rowB, bnd, Nat.blt, byteA_bnd, stepC]) (by omega)
      repeat' (first
        | ((with_reducible show VCs _); first | exact True.intro | (simp only [vb, lb]; omega) | (simp only [vb, lb, e, hlt, hpc, hw, hwo]; and_intros <;> first | omega | (simp <;> omega)) | (simp [vb, e, hlt, hpc, hw, hwo] <;> omega))
        | ((with_reducible show All _); first | exact True.intro | ((try dsimp only [go_sem]); first | (simp [vb, e, hlt, hpc, hw, hwo] <;> omega) | (simp only [vb, and_true, true_implies]; (repeat' (first | assumption | (with_reducible apply And.intro) | intro _)) <;> first | omega | rfl | (simp only [ab, e, hlt, hpc, hw, hwo]; done) | (simp [Nat.mul_one, e, hlt, hpc, hw, hwo] <;> omega) | (simp_all; done))))
        | exact (rfl : some _ = _)
        | (fail_if_success refine awL ?_
           refine evH [(70, { val := some (.pv (stepP x)) }), (71, { val := some (.pv (stepP x)) }), (72, { val := some (.pv (.str (writtenP x))) }), (73, { val := some (.pv (.tup [.int .i64 (writtenP x).length, .val .nilIface])), mem := some (fmM s (X ++ writtenP x) (j + 1) ++ [⟨(stepC x).map .pv, 0, 10, 41, false⟩]) })] ?_
           repeat1' dsimp only [c13, fmM, sB7, bldB, rowB, fatesP, stepsP, stepP, stepC, queriesP, intsP, go_sem]
           first
           | refine aw4 ?_ ?_ rfl ?_
           | apply aw3
           | apply aw2
           | (refine awB (fun hc => ?_) fun hc => ?_ <;> first | (cases hc; done) | (exfalso; first | (simp at hc <;> omega) | (simp [e, hlt, hpc, hw, hwo] at hc; done)) | (try simp only [bn] at hc; try contradiction))
           | skip))
      · exact ⟨congrArg (fun l => AV.pv (PV.agg l)) (by rw [Int.toNat_natCast, e]; rfl), trivial⟩
      · exact ⟨hlt, trivial, by (repeat' (first | exact trivial | refine And.intro (by first | rfl | (simp [get, Nat.beq]; done) | (simp [get, Nat.beq]; omega) | (dsimp only [get]; congr 1 <;> first | rfl | omega | (simp; done) | (simp; omega))) ?_)), _, rfl⟩
    · have hkl : k = s.steps.length := by omega
      subst hkl
      rw [List.take_length] at hXl ⊢
      have hne : X0 ++ s.steps.flatMap writtenP ≠ [] := by simp [hne0]
      generalize X0 ++ s.steps.flatMap writtenP = X at *
      generalize j0 + s.steps.length = j at *
      have hb1 := blen_ok (fmM_ok s X j) (b := 1) (g := 0) (r := 2) (j := j) (n := X.length) rfl
      have hb2 := bstring_ok (μ := fmM s X j) (b := 1) (g := 0) (r := 2) (j := j) hne rfl rfl
      by_cases hbig : 65536 < X.length
      · rw [if_pos hbig, if_pos hbig]
        repeat' (first
          | ((with_reducible first | show VCs _ | show All _); (try dsimp only [go_sem]); first | (simp [vb, hb1] <;> omega) | (simp only [vb, and_true, true_implies]; (repeat' (first | assumption | (with_reducible apply And.intro) | intro _)) <;> first | omega | (simp only [ab, hb1]; done) | (simp [hb1] <;> omega)))
          | exact (rfl : some _ = _)
          | (fail_if_success refine awL ?_
             refine evH [(75, { val := some (.pv (.int .i64 X.length)), ro := true })] ?_
             repeat1' dsimp only [c13, fmM, sB7, bldB, rowB, fatesP, stepsP, go_sem]
             first
             | refine aw4 ?_ ?_ rfl ?_
             | apply aw3
             | apply aw2
             | (refine awB (fun hc => ?_) fun hc => ?_ <;> first | (cases hc; done) | (exfalso; simp [hb1] at hc <;> omega) | (try simp only [bn] at hc; try contradiction))
             | skip))
      · rw [if_neg hbig, if_neg hbig]
        repeat' (first
          | ((with_reducible first | show VCs _ | show All _); (try dsimp only [go_sem]); first | (simp [vb, hb1, hb2] <;> omega) | (simp only [vb, and_true, true_implies]; (repeat' (first | assumption | (with_reducible apply And.intro) | intro _)) <;> first | omega | (simp only [ab, hb1, hb2]; done) | (simp [hb1, hb2] <;> omega)))
          | exact (rfl : some _ = _)
          | (fail_if_success refine awL ?_
             refine evH [(75, { val := some (.pv (.int .i64 X.length)), ro := true }), (77, { val := some (.pv (.str X)), mem := some ((fmM s X j).set 2 { rowB X j with frozen := true }) })] ?_
             repeat1' dsimp only [c13, fmM, sB7, bldB, rowB, fatesP, stepsP, go_sem]
             first
             | refine aw4 ?_ ?_ rfl ?_
             | apply aw3
             | apply aw2
             | (refine awB (fun hc => ?_) fun hc => ?_ <;> first | (cases hc; done) | (exfalso; simp [hb1, hb2] at hc <;> omega) | (try simp only [bn] at hc; try contradiction))
             | skip))
end
end Pur
end Go.Proofs.YteokbngllldmdaaGreatDoor
namespace Go.Proofs.YteokbngllldmdaaGreatDoor
namespace Pur
open Go.RowKit
section
open Sch
theorem all_mem {l : List Int} {lo hi : Int} (h : allIn l lo hi = true) (h0 : -1000000000 ≤ lo) (h1 : hi ≤ 1000000000) : ∀ n ∈ l, i64 n := fun n hn => by
 have := List.all_eq_true.mp h n hn
 simp only [between, Bool.and_eq_true, decide_eq_true_eq] at this
 unfold i64
 omega
theorem asc_len {hi : Int} : ∀ (l : List Int) (a : Int), ascending (a :: l) = true → (∀ x ∈ a :: l, x ≤ hi) → (l.length : Int) ≤ hi - a
 | [], a, _, h => by have := h a (by simp); simp; omega
 | b :: r, a, h, hb => by
  simp only [ascending, Bool.and_eq_true, decide_eq_true_eq] at h
  have := asc_len r b h.2 fun x hx => hb x (List.mem_cons_of_mem _ hx)
  simp only [List.length_cons]
  omega
theorem wr_of_possible {s : Sched} {x : Step} (h : head s = true) (hf : follows s x = true) : Wr x := by
 simp only [head, follows, possible, between, Bool.and_eq_true, decide_eq_true_eq] at h hf
 obtain ⟨⟨⟨-, ht⟩, -⟩, ⟨⟨hk, hsame⟩, hr⟩, hko⟩ := hf
 have hs := (sameStep_iff x (fieldsOf x)).1 hsame
 have hk7 : x.kind = 0 ∨ x.kind = 1 ∨ x.kind = 2 ∨ x.kind = 3 ∨ x.kind = 4 ∨ x.kind = 5 ∨ x.kind = 6 := by omega
 have e1 := congrArg Step.other hs
 have e2 := congrArg Step.session hs
 have e3 := congrArg Step.action hs
 have e4 := congrArg Step.after hs
 have e5 := congrArg Step.queries hs
 have e6 := congrArg Step.survive hs
 have e7 := congrArg Step.voters hs
 clear hs hsame
 rcases hk7 with hk' | hk' | hk' | hk' | hk' | hk' | hk' <;> simp [fieldsOf, Sch.kindOk, hk', zeroStep, between, allIn] at e1 e2 e3 e4 e5 e6 e7 hko
 all_goals refine ⟨by omega, by omega, by unfold i64; omega, by unfold i64; omega, by unfold i64; omega, by unfold i64; omega, by unfold i64; omega, by unfold i64; omega, ?_, ?_, ?_, ?_, ?_, ?_⟩
 all_goals first
  | (rw [e5]; simp; done)
  | (rw [e6]; simp; done)
  | (rw [e7]; simp; done)
  | omega
  | skip
 ·intro q hq
  have := hko.2 q.1 q.2 hq
  simp only [queryOk, between, Bool.and_eq_true, decide_eq_true_eq] at this
  unfold i64
  omega
 ·intro n hn
  have := hko.2 n hn
  unfold i64
  omega
 ·cases hv : x.voters with
  | nil => simp
  | cons a l =>
   rw [hv] at hko
   have := asc_len (hi := 5) l a hko.1.1 fun y hy => by have := hko.2 y hy; omega
   have := hko.2 a (by simp)
   simp only [List.length_cons]
   omega
 ·intro n hn
  have := hko.2 n hn
  unfold i64
  omega
theorem stepsOk_mem {s : Sched} {R : Sched → Step → Prop} : ∀ (l done : List Step), stepsOk s done l = true → (∀ d x, follows { s with steps := d } x = true → R s x) → ∀ x ∈ l, R s x
 | [], _, _, _, x, hx => by cases hx
 | y :: r, done, h, hR, x, hx => by
  simp only [stepsOk, Bool.and_eq_true] at h
  cases hx with
  | head => exact hR done _ h.1
  | tail _ hx => exact stepsOk_mem r _ h.2 hR x hx
theorem stepsOk_len {s : Sched} : ∀ (l done : List Step), stepsOk s done l = true → l ≠ [] → done.length + l.length ≤ 256
 | [], _, _, h => absurd rfl h
 | y :: r, done, h, _ => by
  simp only [stepsOk, Bool.and_eq_true] at h
  have h1 := h.1
  simp only [follows, Bool.and_eq_true, decide_eq_true_eq] at h1
  cases r with
  | nil => simp; omega
  | cons z r =>
   have := stepsOk_len (z :: r) _ h.2 (by simp)
   simp only [List.length_append, List.length_cons, List.length_nil] at this ⊢
   omega
theorem fm_of_valid {s : Sched} (h : valid s = true) : Fm s := by
 simp only [valid, Bool.and_eq_true, decide_eq_true_eq] at h
 obtain ⟨⟨⟨hh, hf⟩, hfa⟩, hs⟩ := h
 have hh' := hh
 simp only [head, between, Bool.and_eq_true, decide_eq_true_eq] at hh'
 refine ⟨by unfold i64; omega, by unfold i64; omega, by unfold i64; omega, by unfold i64; omega, by omega, all_mem hh'.2 (by decide) (by decide), hf, fun x hx => ?_, ?_, ?_⟩
 ·have := List.all_eq_true.mp hfa x hx
  unfold fateOk at this
  unfold i64
  split at this <;> simp [between] at this <;> omega
 ·by_cases hn : s.steps = []
  ·simp [hn]
  ·have := stepsOk_len s.steps [] hs hn
   simpa using this
 ·refine stepsOk_mem (R := fun _ x => Wr x) s.steps [] hs fun d x hx => ?_
  exact wr_of_possible (s := { s with steps := d }) hh hx
theorem format_ok (s : Sched) (hm1 : s.state.length ≤ 9223372036854775800) (hm2 : s.fates.length ≤ 9223372036854775800) (hm3 : s.steps.length ≤ 9223372036854775800) (hz : ∀ k, Sizes (s.steps.getD k zeroStep)) : PureOK ctx 13 [schedP s] (.tup [.str (formatP s).1, .int .i64 (formatP s).2]) := by
 have hv := Valid_ok s hm1 hm2 hm3 hz
 cases h : valid s with
 | false =>
  rw [h] at hv
  have := format_no s hv
  simpa [formatP, h] using this
 | true =>
  rw [h] at hv
  have := format_yes s (fm_of_valid h) hv
  unfold formatP
  rw [h]
  by_cases hb : 65536 < (fmtText s).length
  ·simpa [hb] using this
  ·simpa [hb] using this
end
section
open Sch Pl
theorem isDrop_iff (w0 : List UInt8) (r : List (List UInt8)) : isDrop (w0 :: r) = true ↔ r = [dropW] := by
 unfold isDrop
 match r with
 | [] => simp
 | [a] => simp
 | a :: b :: r => simp
theorem fate_small {d a : Int} {b : Bool} (h : fateOk ⟨b, d, a⟩ = true) : smallN d ∧ smallN a := by
 unfold fateOk at h
 unfold smallN
 split at h <;> simp [between] at h <;> omega
theorem fate_fwd {w0 : List UInt8} {r : List (List UInt8)} {f : Fate} (h : fateOf (w0 :: r) = some f) (ho : fateOk f = true) : refFateP r = (f, true) := by
 unfold fateOf at h
 split at h
 ·rename_i hd
  rw [isDrop_iff] at hd
  injection h with h
  subst h hd
  rfl
 ·rename_i hd
  have hd' : ¬ r = [dropW] := fun e => hd ((isDrop_iff w0 r).2 e)
  unfold refFateP
  rw [if_neg hd']
  simp only [List.tail_cons] at h
  split at h
  ·rename_i d hn
   injection h with h
   subst h
   have hs := fate_small ho
   rw [(ref_nums (ns := [d])).2 ⟨hn, by simpa using hs.1⟩]
   simp [ho]
  ·rename_i d a hn
   split at h
   ·cases h
   ·rename_i ha
    injection h with h
    subst h
    have hs := fate_small ho
    rw [(ref_nums (ns := [d, a])).2 ⟨hn, by simpa using hs⟩]
    simp only [ho, Bool.true_and]
    simp [fateOk, between] at ho
    congr 1
    simp
    omega
  ·cases h
theorem fate_bwd {w0 : List UInt8} {r : List (List UInt8)} {f : Fate} (h : refFateP r = (f, true)) : fateOf (w0 :: r) = some f ∧ fateOk f = true := by
 unfold refFateP at h
 split at h
 ·rename_i hd
  injection h with h1 h2
  subst h1
  unfold fateOf
  rw [if_pos ((isDrop_iff w0 r).2 hd)]
  exact ⟨rfl, rfl⟩
 ·rename_i hd
  unfold fateOf
  rw [if_neg (fun e => hd ((isDrop_iff w0 r).1 e))]
  simp only [List.tail_cons]
  split at h
  ·rename_i a hn
   injection h with h1 h2
   subst h1
   rw [(ref_nums.1 hn).1]
   exact ⟨rfl, h2⟩
  ·rename_i a b hn
   injection h with h1 h2
   subst h1
   rw [(ref_nums.1 hn).1]
   simp only [Bool.and_eq_true, decide_eq_true_eq] at h2
   dsimp only
   rw [if_neg (by omega)]
   exact ⟨rfl, h2.1⟩
  ·injection h with h1 h2
   cases h2
theorem refQ_shift (b k c : List UInt8) (l : List (List UInt8)) (i : Nat) : refQ (b :: k :: c :: l) (i + 1) = refQ (c :: l) i ∧ refQok (b :: k :: c :: l) (i + 1) = refQok (c :: l) i := by
 have e1 : (b :: k :: c :: l).getD (1 + 2 * (i + 1)) [] = (c :: l).getD (1 + 2 * i) [] := by
  rw [show 1 + 2 * (i + 1) = (1 + 2 * i) + 1 + 1 by omega]
  simp
 have e2 : (b :: k :: c :: l).getD (2 + 2 * (i + 1)) [] = (c :: l).getD (2 + 2 * i) [] := by
  rw [show 2 + 2 * (i + 1) = (2 + 2 * i) + 1 + 1 by omega]
  simp
 exact ⟨by rw [refQ, refQ, e1, e2], by rw [refQok, refQok, e1, e2]⟩
theorem refQs_cons (b k c : List UInt8) (l : List (List UInt8)) (n : Nat) : refQs (b :: k :: c :: l) (n + 1) = (idxW queryWords k, (refNumP c).1) :: refQs (c :: l) n ∧ refQsOk (b :: k :: c :: l) (n + 1) = (((refNumP c).2 && decide (0 ≤ idxW queryWords k)) && refQsOk (c :: l) n) := by
 have h0 : refQ (b :: k :: c :: l) 0 = (idxW queryWords k, (refNumP c).1) := rfl
 have h1 : refQok (b :: k :: c :: l) 0 = ((refNumP c).2 && decide (0 ≤ idxW queryWords k)) := rfl
 constructor
 ·unfold refQs
  rw [List.range_succ_eq_map, List.map_cons, h0, List.map_map]
  exact congrArg _ (List.map_congr_left fun i _ => (refQ_shift b k c l i).1)
 ·unfold refQsOk
  rw [List.range_succ_eq_map, List.all_cons, h1, List.all_map]
  refine congrArg _ (congrArg (fun p => (List.range n).all p) ?_)
  funext i
  exact (refQ_shift b k c l i).2
theorem refNumP_some {c : List UInt8} {v : Int} (h : refNumOf c = some v) : refNumP c = (v, true) := by
 rw [refNumP_of] at h
 split at h
 ·rename_i h2
  injection h with h
  exact Prod.ext h h2
 ·cases h
theorem qs_fwd : ∀ (l : List (List UInt8)) (b : List UInt8) (q : List Query), queriesOf l = some q → (∀ y ∈ q, smallN y.2) → l.length = 2 * q.length ∧ refQsOk (b :: l) q.length = true ∧ refQs (b :: l) q.length = q
 | [], b, q, h, _ => by
  simp only [queriesOf, Option.some.injEq] at h
  subst h
  exact ⟨rfl, rfl, rfl⟩
 | [_], b, q, h, _ => by simp [queriesOf] at h
 | k :: c :: r, b, q, h, hs => by
  simp only [queriesOf] at h
  split at h
  ·cases h
  ·rename_i hk
   split at h
   ·rename_i n q' h1 h2
    injection h with h
    subst h
    obtain ⟨g1, g2, g3⟩ := qs_fwd r c q' h2 fun y hy => hs y (by simp [hy])
    have hn := refNumP_some (ref_num.2 ⟨h1, hs (idxW queryWords k, n) (by simp)⟩)
    obtain ⟨e1, e2⟩ := refQs_cons b k c r q'.length
    refine ⟨by simp only [List.length_cons, g1]; omega, ?_, ?_⟩
    ·rw [List.length_cons, e2, g2, hn]
     simp
     omega
    ·rw [List.length_cons, e1, g3, hn]
   ·cases h
theorem qs_bwd : ∀ (n : Nat) (l : List (List UInt8)) (b : List UInt8), l.length = 2 * n → refQsOk (b :: l) n = true → queriesOf l = some (refQs (b :: l) n)
 | 0, [], b, _, _ => rfl
 | 0, _ :: _, b, h, _ => by simp at h
 | n + 1, [], b, h, _ => by simp at h
 | n + 1, [_], b, h, _ => by simp at h; omega
 | n + 1, k :: c :: r, b, h, ho => by
  obtain ⟨e1, e2⟩ := refQs_cons b k c r n
  rw [e2] at ho
  simp only [Bool.and_eq_true, decide_eq_true_eq] at ho
  have ih := qs_bwd n r c (by simp at h; omega) ho.2
  have hn := (ref_num.1 (refVal_of ho.1.1)).1
  rw [e1]
  simp only [queriesOf]
  rw [if_neg (by omega), hn, ih]
structure SmallX (x : Step) : Prop where
 t : smallN x.tick
 r : smallN x.replica
 o : smallN x.other
 s : smallN x.session
 a : smallN x.action
 f : smallN x.after
 q : ∀ y ∈ x.queries, smallN y.2
 v : ∀ y ∈ x.survive, smallN y
 w : ∀ y ∈ x.voters, smallN y
theorem small_of {s : Sched} {x : Step} (h : head s = true) (hf : follows s x = true) : SmallX x := by
 simp only [head, follows, possible, between, Bool.and_eq_true, decide_eq_true_eq] at h hf
 obtain ⟨⟨⟨-, ht⟩, -⟩, ⟨⟨hk, hsame⟩, hr⟩, hko⟩ := hf
 have hs := (sameStep_iff x (fieldsOf x)).1 hsame
 have hk7 : x.kind = 0 ∨ x.kind = 1 ∨ x.kind = 2 ∨ x.kind = 3 ∨ x.kind = 4 ∨ x.kind = 5 ∨ x.kind = 6 := by omega
 have e1 := congrArg Step.other hs
 have e2 := congrArg Step.session hs
 have e3 := congrArg Step.action hs
 have e4 := congrArg Step.after hs
 have e5 := congrArg Step.queries hs
 have e6 := congrArg Step.survive hs
 have e7 := congrArg Step.voters hs
 clear hs hsame
 rcases hk7 with hk' | hk' | hk' | hk' | hk' | hk' | hk' <;> simp [fieldsOf, Sch.kindOk, hk', zeroStep, between, allIn] at e1 e2 e3 e4 e5 e6 e7 hko
 all_goals refine ⟨by unfold smallN; omega, by unfold smallN; omega, by unfold smallN; omega, by unfold smallN; omega, by unfold smallN; omega, by unfold smallN; omega, ?_, ?_, ?_⟩
 all_goals first
  | (rw [e5]; simp; done)
  | (rw [e6]; simp; done)
  | (rw [e7]; simp; done)
  | skip
 ·intro q hq
  have := hko.2 q.1 q.2 hq
  simp only [queryOk, between, Bool.and_eq_true, decide_eq_true_eq] at this
  unfold smallN
  omega
 ·intro n hn
  have := hko.2 n hn
  unfold smallN
  omega
 ·intro n hn
  have := hko.2 n hn
  unfold smallN
  omega
theorem numV_some {w : List UInt8} (h : (numOf w).isSome = true) : numOf w = some (numV w) := by
 cases hn : numOf w with
 | none => rw [hn] at h; cases h
 | some v => rw [numOf_numV hn]
theorem nums_len : ∀ {l : List (List UInt8)} {ns : List Int}, numsOf l = some ns → ns.length = l.length
 | [], ns, h => by simp [numsOf] at h; subst h; rfl
 | w :: r, ns, h => by
  simp only [numsOf] at h
  cases h1 : numOf w with
  | none => rw [h1] at h; cases h
  | some a =>
   rw [h1] at h
   cases h2 : numsOf r with
   | none => rw [h2] at h; cases h
   | some b =>
    rw [h2] at h
    injection h with h
    subst h
    simp [nums_len h2]
theorem nums_cons {w : List UInt8} {r : List (List UInt8)} {ns : List Int} (h : numsOf (w :: r) = some ns) : ∃ a b, ns = a :: b ∧ numOf w = some a ∧ numsOf r = some b := by
 simp only [numsOf] at h
 cases h1 : numOf w with
 | none => rw [h1] at h; cases h
 | some a =>
  rw [h1] at h
  cases h2 : numsOf r with
  | none => rw [h2] at h; cases h
  | some b =>
   rw [h2] at h
   injection h with h
   exact ⟨a, b, h.symm, rfl, rfl⟩
theorem two_nums {w a : List UInt8} {x y : Int} (h1 : numOf w = some x) (h2 : numOf a = some y) (hx : smallN x) (hy : smallN y) : refNumsOf [w, a] = some [x, y] := by
 refine (ref_nums (ns := [x, y])).2 ⟨?_, by simpa using ⟨hx, hy⟩⟩
 simp [numsOf, h1, h2]
theorem step_fwd {s : Sched} {r : List (List UInt8)} {x : Step} (hh : head s = true) (h : stepOf r = some x) (hf : follows s x = true) : refStepP r = (x, true) := by
 have hs := small_of hh hf
 match r, h with
 | w1 :: w2 :: l, h =>
  simp only [stepOf] at h
  split at h
  ·cases h
  ·rename_i hk0
   split at h
   ·cases h
   ·rename_i hb
    simp only [badStep, Bool.not_true, Bool.false_or, Bool.or_eq_true, Bool.not_eq_true', Bool.and_eq_true, decide_eq_true_eq, not_or, not_and, Bool.not_eq_false] at hb
    obtain ⟨⟨hn, hlo⟩, hhi⟩ := hb
    have hn1 := numV_some hn
    generalize numV w1 = t at *
    have hkr := kind_range w2
    generalize hK : idxW kindWords w2 = K at *
    have hK7 : K = 0 ∨ K = 1 ∨ K = 2 ∨ K = 3 ∨ K = 4 ∨ K = 5 ∨ K = 6 := by omega
    have hsome : K ≠ 1 → ∃ n, numsOf l = some n ∧ buildStep K.toNat t [] n = x := fun hne => by
     rw [if_neg hne] at h
     split at h
     ·rename_i n hn
      injection h with h
      exact ⟨n, hn, h⟩
     ·cases h
    by_cases h1 : K = 1
    ·subst h1
     rw [if_pos rfl] at h
     simp [shapeOf] at hlo hhi
     split at h
     ·rename_i q n hq hn
      injection h with h
      match l, hlo with
      | a :: b :: l2, hlo =>
       simp only [List.take_succ_cons, List.take_zero, List.drop_succ_cons, List.drop_zero] at hq hn
       obtain ⟨na, nr, rfl, ha, hnr⟩ := nums_cons hn
       obtain ⟨nb, nr2, rfl, hb2, hnr2⟩ := nums_cons hnr
       simp only [numsOf, Option.some.injEq] at hnr2
       subst hnr2
       simp only [buildStep] at h
       subst h
       obtain ⟨g1, g2, g3⟩ := qs_fwd l2 b q hq hs.q
       have hodd : ¬ (b :: l2).length % 2 = 0 := by simp only [List.length_cons]; omega
       have hnn : ((b :: l2).length - 1) / 2 = q.length := by simp only [List.length_cons]; omega
       simp only [refStepP, two_nums hn1 ha hs.t hs.r, hK, if_true, if_neg hodd, hnn, g2, g3, List.take_succ_cons, List.take_zero]
       rw [(ref_nums (ns := [nb])).2 ⟨by simp [numsOf, hb2], by simpa using hs.s⟩]
       rfl
     ·cases h
    ·obtain ⟨n, hnl, hx⟩ := hsome h1
     have hll := nums_len hnl
     have hl1 : 1 ≤ l.length := by
      have hK7 : K = 0 ∨ K = 2 ∨ K = 3 ∨ K = 4 ∨ K = 5 ∨ K = 6 := by omega
      rcases hK7 with rfl | rfl | rfl | rfl | rfl | rfl <;> simp [shapeOf] at hlo <;> omega
     match l, hl1 with
     | a :: rest, _ =>
      obtain ⟨na, ns, rfl, ha, hns⟩ := nums_cons hnl
      have hl2 := nums_len hns
      have fin : smallN t → smallN na → (∀ y ∈ ns, smallN y) → refKind K t na ns = (x, true) → refStepP (w1 :: w2 :: a :: rest) = (x, true) := fun q0 q1 q2 q3 => by
       simp only [refStepP, two_nums hn1 ha q0 q1, hK, if_neg h1, if_neg (show ¬ K < 0 by omega)]
       rw [(ref_nums (ns := ns)).2 ⟨hns, q2⟩]
       exact q3
      have hK7 : K = 0 ∨ K = 2 ∨ K = 3 ∨ K = 4 ∨ K = 5 ∨ K = 6 := by omega
      rcases hK7 with rfl | rfl | rfl | rfl | rfl | rfl
      ·simp [shapeOf] at hlo hhi
       match ns, (show ns.length = 2 by omega), hx with
       | [b, c], _, hx =>
        have hx : (⟨t, 0, na, 0, b, c, 0, [], [], []⟩ : Step) = x := hx
        subst hx
        exact fin hs.t hs.r (by simpa using ⟨hs.s, hs.a⟩) rfl
      ·simp [shapeOf] at hlo hhi
       match ns, (show ns.length = 1 by omega), hx with
       | [b], _, hx =>
        have hx : (⟨t, 2, na, b, 0, 0, 0, [], [], []⟩ : Step) = x := hx
        subst hx
        exact fin hs.t hs.r (by simpa using hs.o) rfl
      ·simp [shapeOf] at hlo hhi
       match ns, (show ns.length = 1 by omega), hx with
       | [b], _, hx =>
        have hx : (⟨t, 3, na, b, 0, 0, 0, [], [], []⟩ : Step) = x := hx
        subst hx
        exact fin hs.t hs.r (by simpa using hs.o) rfl
      ·simp [shapeOf] at hlo hhi
       match ns, (show 1 ≤ ns.length by omega), hx with
       | b :: q, _, hx =>
        have hx : (⟨t, 4, na, 0, 0, 0, b, [], q, []⟩ : Step) = x := hx
        subst hx
        exact fin hs.t hs.r (fun y hy => by cases hy with | head => exact hs.f | tail _ h => exact hs.v y h) rfl
      ·simp [shapeOf] at hlo hhi
       match ns, (show ns.length = 0 by omega), hx with
       | [], _, hx =>
        have hx : (⟨t, 5, na, 0, 0, 0, 0, [], [], []⟩ : Step) = x := hx
        subst hx
        exact fin hs.t hs.r (by simp) rfl
      ·have hx : (⟨t, 6, na, 0, 0, 0, 0, [], [], ns⟩ : Step) = x := hx
       subst hx
       exact fin hs.t hs.r hs.w rfl
theorem kindOk_follows {s : Sched} {x : Step} (hf : follows s x = true) : Sch.kindOk s x = true := by
 simp only [follows, possible, Bool.and_eq_true] at hf
 exact hf.2.2
theorem step_bwd {s : Sched} {r : List (List UInt8)} {x : Step} (h : refStepP r = (x, true)) (hf : follows s x = true) : stepOf r = some x := by
 have hko := kindOk_follows hf
 match r, h with
 | [], h => simp [refStepP] at h
 | [_], h => simp [refStepP] at h
 | [_, _], h => simp [refStepP] at h
 | w1 :: w2 :: a :: rest, h =>
  simp only [refStepP] at h
  cases hq : refNumsOf [w1, a] with
  | none => rw [hq] at h; simp at h
  | some l =>
   rw [hq] at h
   match l, refNumsOf_len _ l hq, h with
   | [t, na], _, h =>
    obtain ⟨y, ys, hy, hn1, hys⟩ := nums_cons (ref_nums.1 hq).1
    obtain ⟨y2, ys2, hy2, hna, hys2⟩ := nums_cons hys
    simp only [numsOf, Option.some.injEq] at hys2
    subst hys2 hy2
    simp only [List.cons.injEq, and_true] at hy
    obtain ⟨rfl, rfl⟩ := hy
    dsimp only at h
    have hnv : numV w1 = t := numOf_numV hn1
    have hbad : ∀ lo hi : Int, badStep true (numOf w1).isSome (a :: rest).length lo hi = (decide (((rest.length + 1 : Nat) : Int) < lo) || (decide (0 ≤ hi) && decide (hi < ((rest.length + 1 : Nat) : Int)))) := fun lo hi => by
     simp [badStep, hn1]
    generalize hK : idxW kindWords w2 = K at *
    by_cases h1 : K = 1
    ·subst h1
     rw [if_pos rfl] at h
     split at h
     ·simp at h
     ·rename_i hodd
      split at h
      ·rename_i hok
       cases hr1 : refNumsOf (rest.take 1) with
       | none => rw [hr1] at h; simp at h
       | some l1 =>
        rw [hr1] at h
        match rest, hodd, hok, hr1, h, hbad with
        | [], hodd, _, _, _, _ => simp at hodd
        | b :: l2, hodd, hok, hr1, h, hbad =>
         simp only [List.take_succ_cons, List.take_zero] at hr1
         obtain ⟨nb, nr, rfl, hb, hnr⟩ := nums_cons (ref_nums.1 hr1).1
         simp only [numsOf, Option.some.injEq] at hnr
         subst hnr
         dsimp only at h
         injection h with h _
         subst h
         simp only [List.length_cons] at hodd
         have hn2 : l2.length = 2 * (((b :: l2).length - 1) / 2) := by simp only [List.length_cons]; omega
         have hqs := qs_bwd _ l2 b hn2 hok
         generalize ((b :: l2).length - 1) / 2 = n at *
         have hqn : 1 ≤ n := by
          simp [Sch.kindOk, between, refQs_len] at hko
          omega
         simp only [stepOf, hK]
         rw [if_neg (by decide), hbad, if_neg (by simp [shapeOf]; omega), if_pos trivial]
         simp only [List.drop_succ_cons, List.drop_zero, List.take_succ_cons, List.take_zero, hqs]
         simp [numsOf, hna, hb, hnv, buildStep, zeroStep]
      ·simp at h
    ·rw [if_neg h1] at h
     split at h
     ·simp at h
     ·rename_i h0
      cases hr1 : refNumsOf rest with
      | none => rw [hr1] at h; simp at h
      | some ns =>
       rw [hr1] at h
       dsimp only at h
       have hns := (ref_nums.1 hr1).1
       have hll := nums_len hns
       have hnl : numsOf (a :: rest) = some (na :: ns) := by simp [numsOf, hna, hns]
       have fin : ((rest.length + 1 : Nat) : Int) ≥ (shapeOf K.toNat).1 → (0 ≤ (shapeOf K.toNat).2 → ((rest.length + 1 : Nat) : Int) ≤ (shapeOf K.toNat).2) → buildStep K.toNat t [] (na :: ns) = x → stepOf (w1 :: w2 :: a :: rest) = some x := fun q1 q2 q3 => by
        simp only [stepOf, hK]
        rw [if_neg h0, hbad, if_neg (by simp; omega), if_neg h1, hnl, hnv]
        simp only [q3]
       have hkr := kind_range w2
       rw [hK] at hkr
       have hK7 : K = 0 ∨ K = 2 ∨ K = 3 ∨ K = 4 ∨ K = 5 ∨ K = 6 := by omega
       rcases hK7 with rfl | rfl | rfl | rfl | rfl | rfl
       ·match ns, h, hll, fin with
        | [b, c], h, hll, fin =>
         injection h with h _
         exact fin (by simp [shapeOf]; simp at hll; omega) (by simp [shapeOf]; simp at hll; omega) h
        | [], h, _, _ => simp [refKind] at h
        | [_], h, _, _ => simp [refKind] at h
        | _ :: _ :: _ :: _, h, _, _ => simp [refKind] at h
       ·match ns, h, hll, fin with
        | [b], h, hll, fin =>
         injection h with h _
         exact fin (by simp [shapeOf]; simp at hll; omega) (by simp [shapeOf]; simp at hll; omega) h
        | [], h, _, _ => simp [refKind] at h
        | _ :: _ :: _, h, _, _ => simp [refKind] at h
       ·match ns, h, hll, fin with
        | [b], h, hll, fin =>
         injection h with h _
         exact fin (by simp [shapeOf]; simp at hll; omega) (by simp [shapeOf]; simp at hll; omega) h
        | [], h, _, _ => simp [refKind] at h
        | _ :: _ :: _, h, _, _ => simp [refKind] at h
       ·match ns, h, hll, fin with
        | b :: q, h, hll, fin =>
         injection h with h _
         exact fin (by simp [shapeOf]; simp at hll; omega) (by simp [shapeOf]) h
        | [], h, _, _ => simp [refKind] at h
       ·match ns, h, hll, fin with
        | [], h, hll, fin =>
         injection h with h _
         exact fin (by simp [shapeOf]; omega) (by simp [shapeOf]; simp at hll; omega) h
        | _ :: _, h, _, _ => simp [refKind] at h
       ·injection h with h _
        have hvl : 1 ≤ ns.length := by
         have h' : (⟨t, 6, na, 0, 0, 0, 0, [], [], ns⟩ : Step) = x := h
         subst h'
         simp [Sch.kindOk] at hko
         omega
        exact fin (by simp [shapeOf]; omega) (by simp [shapeOf]) h
end
section
open Sch Pl
theorem qf_inj : ∀ (l m : List Query) (a b : List Int), l.length = m.length → (l.flatMap fun q => [q.1, q.2]) ++ a = (m.flatMap fun q => [q.1, q.2]) ++ b → l = m ∧ a = b
 | [], [], a, b, _, h => ⟨rfl, by simpa using h⟩
 | [], _ :: _, _, _, h, _ => by simp at h
 | _ :: _, [], _, _, h, _ => by simp at h
 | (u, v) :: l, (u2, v2) :: m, a, b, h, he => by
  simp only [List.flatMap_cons, List.cons_append, List.nil_append, List.cons.injEq] at he
  obtain ⟨h1, h2⟩ := qf_inj l m a b (by simpa using h) he.2.2
  exact ⟨by rw [h1, he.1, he.2.1], h2⟩
theorem ints_inj (l m a b : List Int) (h : ((l.length : Int) :: l) ++ a = ((m.length : Int) :: m) ++ b) : l = m ∧ a = b := by
 simp only [List.cons_append, List.cons.injEq] at h
 exact List.append_inj h.2 (by omega)
theorem numsL_inj {x y : Step} (h : numsL x = numsL y) : x = y := by
 obtain ⟨a, b, c, d, e, f, g, q, s, v⟩ := x
 obtain ⟨a', b', c', d', e', f', g', q', s', v'⟩ := y
 simp only [numsL, numsTo, List.take_length, List.append_assoc] at h
 simp only [List.cons_append, List.nil_append, List.cons.injEq] at h
 obtain ⟨h1, h2, h3, h4, h5, h6, h7, h8, h9⟩ := h
 obtain ⟨g1, g2⟩ := qf_inj q q' _ _ (by omega) h9
 obtain ⟨g3, g4⟩ := ints_inj s s' _ _ (by simpa using g2)
 simp only [List.cons.injEq] at g4
 subst h1 h2 h3 h4 h5 h6 h7 g1 g3
 rw [g4.2]
theorem refStepB_eq (s : Sched) (x : Step) : refStepB s x = (between x.tick 0 (s.ticks - 1) && possible s x) := by
 have : decide (numsL x = numsL (fieldsOf x)) = sameStep x (fieldsOf x) := by
  rw [Bool.eq_iff_iff, sameStep_iff]
  simp only [decide_eq_true_eq]
  exact ⟨numsL_inj, fun h => by rw [← h]⟩
 unfold refStepB possible
 rw [this]
 cases between x.tick 0 (s.ticks - 1) <;> cases between x.replica 0 (s.replicas - 1) <;> cases sameStep x (fieldsOf x) <;> cases between x.kind 0 6 <;> cases Sch.kindOk s x <;> rfl
theorem stepsOk_snoc (s : Sched) (x : Step) : ∀ (l done : List Step), stepsOk s done (l ++ [x]) = (stepsOk s done l && follows { s with steps := done ++ l } x)
 | [], done => by simp [stepsOk]
 | y :: r, done => by
  simp only [List.cons_append, stepsOk]
  rw [stepsOk_snoc s x r (done ++ [y])]
  simp [Bool.and_assoc]
theorem last_take (l : List Step) (k : Nat) (hk : k ≤ l.length) : (l.take k).getLast? = if k = 0 then none else some (l.getD (k - 1) zeroStep) := by
 split
 ·rename_i h; subst h; simp
 ·rename_i h
  rw [List.getLast?_eq_getElem?, List.length_take, Nat.min_eq_left hk, List.getElem?_take, if_pos (by omega), List.getD, List.getElem?_eq_getElem (by omega)]
  rfl
theorem steps_eq (s : Sched) : ∀ k, k ≤ s.steps.length → stepsOk s [] (s.steps.take k) = (decide (k ≤ 256) && refStepsB s k)
 | 0, _ => by simp [stepsOk, refStepsB]
 | k + 1, h => by
  rw [take_succ_getD s.steps k zeroStep h, stepsOk_snoc, steps_eq s k (by omega), List.nil_append]
  generalize hx : s.steps.getD k zeroStep = x
  have hf : follows { s with steps := s.steps.take k } x = (decide (k < 256) && (between x.tick 0 (s.ticks - 1) && possible s x) && (decide (k = 0) || decide ((s.steps.getD (k - 1) zeroStep).tick ≤ x.tick))) := by
   unfold follows lastTickOk
   dsimp only
   rw [last_take s.steps k (by omega), List.length_take, Nat.min_eq_left (show k ≤ s.steps.length by omega)]
   have hp : possible { s with steps := s.steps.take k } x = possible s x := rfl
   rw [hp]
   by_cases h0 : k = 0
   ·subst h0
    simp
   ·rw [if_neg h0]
    simp only [h0, decide_false, Bool.false_or]
    generalize decide ((s.steps.getD (k - 1) zeroStep).tick ≤ x.tick) = b
    cases decide (k < 256) <;> cases between x.tick 0 (s.ticks - 1) <;> cases possible s x <;> cases b <;> rfl
  rw [hf, refStepsB, hx, refStepB_eq]
  have e : decide (k ≤ 256) = (decide (k < 256) || decide (k = 256)) := by
   rw [Bool.eq_iff_iff]; simp; omega
  have e2 : decide (k + 1 ≤ 256) = decide (k < 256) := by
   rw [Bool.eq_iff_iff]; simp; omega
  rw [e, e2]
  cases h1 : decide (k < 256) with
  | false => simp
  | true =>
   simp only [Bool.true_or, Bool.true_and, Bool.and_assoc]
theorem refValid_eq (s : Sched) : refValidB s = valid s := by
 have h := steps_eq s s.steps.length (Nat.le_refl _)
 rw [List.take_length] at h
 unfold refValidB valid
 rw [h]
 cases head s <;> cases decide (s.fates.length ≤ 256) <;> cases decide (s.steps.length ≤ 256) <;> cases s.fates.all fateOk <;> rfl
theorem valid_fate {s : Sched} {f : Fate} (h : valid s = true) (he : s.steps = []) : valid { s with fates := s.fates ++ [f] } = (decide (s.fates.length + 1 ≤ 256) && fateOk f) := by
 simp only [valid, Bool.and_eq_true, decide_eq_true_eq] at h
 obtain ⟨⟨⟨h1, h2⟩, h3⟩, h4⟩ := h
 have hh : head { s with fates := s.fates ++ [f] } = true := h1
 unfold valid
 rw [hh]
 simp only [List.length_append, List.length_cons, List.length_nil, List.all_append, h3, he, stepsOk, Bool.true_and, Bool.and_true, List.all_cons, List.all_nil]
theorem valid_step {s : Sched} {x : Step} (h : valid s = true) : valid { s with steps := s.steps ++ [x] } = follows s x := by
 simp only [valid, Bool.and_eq_true, decide_eq_true_eq] at h
 obtain ⟨⟨⟨h1, h2⟩, h3⟩, h4⟩ := h
 have hh : head { s with steps := s.steps ++ [x] } = true := h1
 have hs : ∀ (a : List Step) (d l : List Step), stepsOk { s with steps := a } d l = stepsOk s d l := by
  intro a d l
  induction l generalizing d with
  | nil => rfl
  | cons y r ih =>
   simp only [stepsOk, ih]
 unfold valid
 rw [hh]
 simp only [h2, decide_true, h3, Bool.true_and]
 rw [hs, stepsOk_snoc, h4, Bool.true_and, List.nil_append]
theorem valid_head {s : Sched} (h : valid s = true) : head s = true := by
 simp only [valid, Bool.and_eq_true] at h
 exact h.1.1.1
inductive Rel : Nat → Sched → Sched → Prop where
 | r0 : Rel 0 ⟨0, 0, 0, 0, [], [], []⟩ ⟨1, 0, 8, 0, [], [], []⟩
 | r1 (a : Int) (ha : between a 1 5 = true) : Rel 1 ⟨a, 0, 0, 0, [], [], []⟩ ⟨a, 0, 8, 0, [], [], []⟩
 | r2 (a b : Int) (ha : between a 1 5 = true) (hb : between b 0 8 = true) : Rel 2 ⟨a, b, 0, 0, [], [], []⟩ ⟨a, b, 8, 0, [], [], []⟩
 | r3 (a b c : Int) (ha : between a 1 5 = true) (hb : between b 0 8 = true) (hc : between c 8 2048 = true) : Rel 3 ⟨a, b, c, 0, [], [], []⟩ ⟨a, b, c, 0, [], [], []⟩
 | r4 (a b c e : Int) (ha : between a 1 5 = true) (hb : between b 0 8 = true) (hc : between c 8 2048 = true) (he : between e 0 1048576 = true) : Rel 4 ⟨a, b, c, e, [], [], []⟩ ⟨a, b, c, e, [], [], []⟩
 | r5 (s : Sched) (h : valid s = true) : Rel 5 s s
def Both (p : Option (Nat × Sched)) (q : Option (Nat × Sched)) : Prop := match p, q with
 | none, none => True
 | some (d, s), some (d', s') => d = d' ∧ Rel d s s'
 | _, _ => False
theorem head_line {d : Nat} {p q : Sched} {w0 : List UInt8} {r : List (List UInt8)} (hd : d < 4)
  (hv : ∀ n, refValidB (setHead q d n) = between n (headLo d) (headHi d)) (hr : ∀ n, between n (headLo d) (headHi d) = true → Rel (d + 1) (setHead p d n) (setHead q d n)) (hlo : -1000 ≤ headLo d) (hhi : headHi d ≤ 1048576) :
  Both (lineP d p w0 r) (refLine d q w0 r) := by
 unfold lineP refLine refCand headOf
 rw [if_pos hd, if_pos (show d < 5 by omega)]
 by_cases hw : w0 = headName d
 ·cases hn : refNumsOf r with
  | some l =>
   have hnp := (ref_nums.1 hn).1
   rw [hnp]
   dsimp only
   by_cases hl : l.length = 1
   ·match l, hl with
    | [n], _ =>
     have hs : headSet d q [n] = setHead q d n := by unfold headSet; rw [if_neg (by omega)]; rfl
     rw [if_pos (by simp [hw]), if_pos ⟨hw, .inr rfl⟩]
     dsimp only
     rw [hs, hv n]
     cases hb : between n (headLo d) (headHi d) with
     | true => exact ⟨rfl, hr n hb⟩
     | false => trivial
   ·rw [if_neg (by simp [hl]; omega), if_neg (by rintro ⟨-, h⟩; omega)]
    trivial
  | none =>
   dsimp only
   cases hnp : numsOf r with
   | none => trivial
   | some l =>
    dsimp only
    split
    ·rename_i n hq
     split
     ·rename_i hb
      split at hq
      ·injection hq with hq
       subst hq
       exfalso
       have hsm : smallN n := by
        simp only [between, Bool.and_eq_true, decide_eq_true_eq] at hb
        unfold smallN
        omega
       rw [(ref_nums (ns := [n])).2 ⟨hnp, by simpa using hsm⟩] at hn
       cases hn
      ·cases hq
     ·trivial
    ·trivial
 ·have e1 : ∀ l, (if (w0 == headName d && (decide (4 ≤ d) || l == 1)) = true then some l else none) = (none : Option Nat) := fun l => by simp [hw]
  cases hn : refNumsOf r with
  | some l =>
   rw [(ref_nums.1 hn).1]
   dsimp only
   rw [if_neg (by simp [hw]), if_neg (fun h => hw h.1)]
   trivial
  | none =>
   cases hnp : numsOf r with
   | none => trivial
   | some l =>
    dsimp only
    rw [if_neg (by simp [hw])]
    trivial
theorem line_both {d : Nat} {p q : Sched} (w0 : List UInt8) (r : List (List UInt8)) (h : Rel d p q) : Both (lineP d p w0 r) (refLine d q w0 r) := by
 cases h with
 | r0 => exact head_line (by omega) (fun n => by simp [refValid_eq, valid, head, setHead, headLo, headHi, between, allIn, stepsOk]) (fun n hb => .r1 n hb) (by decide) (by decide)
 | r1 a ha => exact head_line (by omega) (fun n => by simp [refValid_eq, valid, head, setHead, headLo, headHi, ha, allIn, stepsOk]; simp [between]) (fun n hb => .r2 a n ha hb) (by decide) (by decide)
 | r2 a b ha hb => exact head_line (by omega) (fun n => by simp [refValid_eq, valid, head, setHead, headLo, headHi, ha, hb, allIn, stepsOk]; simp [between]) (fun n hc => .r3 a b n ha hb hc) (by decide) (by decide)
 | r3 a b c ha hb hc => exact head_line (by omega) (fun n => by simp [refValid_eq, valid, head, setHead, headLo, headHi, ha, hb, hc, allIn, stepsOk]) (fun n he => .r4 a b c n ha hb hc he) (by decide) (by decide)
 | r4 a b c e ha hb hc he =>
  have hv : ∀ l, refValidB ⟨a, b, c, e, l, [], []⟩ = (decide (l.length ≤ 128) && allIn l (-1000000) 1000000) := fun l => by
   simp [refValid_eq, valid, head, ha, hb, hc, he, stepsOk]
  unfold lineP refLine refCand headOf
  rw [if_neg (by omega), if_pos rfl, if_pos (by omega)]
  by_cases hw : w0 = headName 4
  ·cases hn : refNumsOf r with
   | some l =>
    rw [(ref_nums.1 hn).1]
    dsimp only
    rw [if_pos (by simp [hw]), if_pos ⟨hw, .inl rfl⟩]
    dsimp only
    rw [show headSet 4 ⟨a, b, c, e, [], [], []⟩ l = ⟨a, b, c, e, l, [], []⟩ from rfl, hv]
    cases hb : (decide (l.length ≤ 128) && allIn l (-1000000) 1000000) with
    | true =>
     refine ⟨rfl, .r5 _ ?_⟩
     rw [← refValid_eq, hv, hb]
    | false => trivial
   | none =>
    dsimp only
    cases hnp : numsOf r with
    | none => trivial
    | some l =>
     dsimp only
     rw [if_pos (by simp [hw])]
     dsimp only
     split
     ·rename_i hb
      exfalso
      simp only [Bool.and_eq_true] at hb
      have hs : ∀ n ∈ l, smallN n := fun n hm => by
       have := List.all_eq_true.mp hb.2 n hm
       simp only [between, Bool.and_eq_true, decide_eq_true_eq] at this
       unfold smallN
       omega
      rw [ref_nums.2 ⟨hnp, hs⟩] at hn
      cases hn
     ·trivial
  ·cases hn : refNumsOf r with
   | some l =>
    rw [(ref_nums.1 hn).1]
    dsimp only
    rw [if_neg (by simp [hw]), if_neg (fun h => hw h.1)]
    trivial
   | none =>
    cases hnp : numsOf r with
    | none => trivial
    | some l =>
     dsimp only
     rw [if_neg (by simp [hw])]
     trivial
 | r5 _ hs =>
  unfold lineP refLine refCand
  rw [if_neg (show ¬ (5 : Nat) < 4 by omega), if_neg (show ¬ (5 : Nat) = 4 by omega), if_neg (show ¬ (5 : Nat) < 5 by omega)]
  by_cases hw : w0 = fateW
  ·subst hw
   rw [if_pos (by simp), if_pos rfl]
   cases hq : refFateP r with
   | mk f b =>
    cases b with
    | true =>
     obtain ⟨g1, g2⟩ := fate_bwd (w0 := fateW) hq
     rw [g1]
     dsimp only
     by_cases he : p.steps = []
     ·have hvf := valid_fate (f := f) hs he
      have hie : p.steps.isEmpty = true := by simp [he]
      rw [hie]
      simp only [Bool.true_and, if_true]
      rw [refValid_eq, hvf]
      cases hb : (decide (p.fates.length + 1 ≤ 256) && fateOk f) with
      | true =>
       refine ⟨rfl, .r5 _ ?_⟩
       rw [hvf, hb]
      | false => trivial
     ·rw [if_neg (by simp [he]), if_neg (by simp [he])]
      trivial
    | false =>
     rw [if_neg (by simp)]
     dsimp only
     cases hf : fateOf (fateW :: r) with
     | none => trivial
     | some f' =>
      dsimp only
      split
      ·rename_i hb
       exfalso
       simp only [Bool.and_eq_true] at hb
       rw [fate_fwd hf hb.2.2] at hq
       cases hq
      ·trivial
  ·rw [if_neg (by simpa using hw), if_neg hw]
   by_cases hw2 : w0 = atW
   ·subst hw2
    rw [if_pos (by simp), if_pos rfl]
    cases hq : refStepP r with
    | mk x b =>
     cases b with
     | true =>
      rw [if_pos rfl]
      dsimp only
      rw [refValid_eq, valid_step hs]
      cases hf : follows p x with
      | true =>
       rw [step_bwd hq hf]
       dsimp only
       rw [if_pos hf]
       refine ⟨rfl, .r5 _ ?_⟩
       rw [valid_step hs, hf]
      | false =>
       cases hst : stepOf r with
       | none => trivial
       | some y =>
        dsimp only
        split
        ·rename_i hy
         exfalso
         rw [step_fwd (valid_head hs) hst hy] at hq
         injection hq with hq _
         rw [hq, hf] at hy
         cases hy
        ·trivial
     | false =>
      rw [if_neg (by simp)]
      dsimp only
      cases hst : stepOf r with
      | none => trivial
      | some y =>
       dsimp only
       split
       ·rename_i hy
        exfalso
        rw [step_fwd (valid_head hs) hst hy] at hq
        cases hq
       ·trivial
   ·rw [if_neg (by simpa using hw2), if_neg hw2]
    trivial
end
end Pur
end Go.Proofs.YteokbngllldmdaaGreatDoor
namespace Go.Proofs.YteokbngllldmdaaGreatDoor
namespace Pur
open Go.RowKit
attribute [local go_sem] evOps evOp evOpV evRun evK argF List.map hintAt stripped get put tmpsOf tmpOf tmpO tmpL tmpP conds ev cond_true cond_false Nat.beq Nat.ble Nat.add quiet After thenR blockR IfD List.append_eq List.nil_append List.cons_append evInt exactI_a exactI_b exactI_c exactI_d exactI_e exactI_f evBin evStr evBool evUn guardC calm quiet.isCallK evPick List.getElem?_cons_zero List.getElem?_cons_succ fromCells fromPVs cellsOf List.all oneCell List.length_cons List.length_nil mkAgg plains List.drop List.take List.getD Option.getD_some bo1 bo2 ba1 ba2 bn1 bn2 kk_i64 kk_u8 kk_i32 kk_u64 setAt List.set Nat.reduceAdd Nat.reduceMul evCall safeCall refsOf refsIn scalarA scalar scalarL thawL mapAll thawArg thawRef after freeze RetD RetE evResult evRess evRes1 thaw_pv mkTup nilOf_a nilOf_b nilOf_bb nilOf_c nilOf_d nilOf_e nilOf_f nilOf_g nilOf_h nilOf_i nilOf_j nilOf_k nilOf_l nilOf_m eqLeaf_a eqLeaf_b eqLeaf_c eqOffs evMM bytesOf evOpsF AfterF footOf footRefs notIn indepF footAt freeOk still evParts fillA zeros intOfA boundA srcOf List.isEmpty appNil_0 appNil_1 appNil_2 Int.reduceToNat Nat.mul_one Nat.reduceSub evC evOpsT evOpsTF autoH tabHint look hintD strip guarded RetPD RetRD mpLen keysOk leafKA leafK bitI nilOf_n nilOf_o Bool.or_false Bool.or_true Bool.and_true Bool.and_false Nat.blt renF renM renB renV idxOf solF solM solA solV thawRef ev1
section
open Sch
def c7r0 : List AOp := [
 ⟨(some 0), .mv (.c (.bool false)), none⟩]
def c7r1 : List AOp := [
 ⟨(some 6), .call 8 [(.c (.str [114, 101, 112, 108, 105, 99, 97, 115, 32, 50, 10, 115, 101, 115, 115, 105, 111, 110, 115, 32, 49, 10, 115, 101, 99, 116, 111, 114, 115, 32, 54, 52, 10, 116, 105, 99, 107, 115, 32, 50, 48, 10, 115, 116, 97, 116, 101, 32, 48, 32, 51, 10, 102, 97, 116, 101, 32, 50, 10, 102, 97, 116, 101, 32, 100, 114, 111, 112, 10, 102, 97, 116, 101, 32, 49, 32, 52, 10, 97, 116, 32, 48, 32, 115, 117, 98, 109, 105, 116, 32, 48, 32, 48, 32, 53, 10, 97, 116, 32, 51, 32, 99, 117, 116, 32, 48, 32, 49, 10, 97, 116, 32, 51, 32, 114, 101, 97, 100, 32, 49, 32, 48, 32, 118, 97, 108, 117, 101, 32, 49, 32, 109, 101, 114, 103, 101, 100, 32, 48, 10, 97, 116, 32, 55, 32, 99, 114, 97, 115, 104, 32, 49, 32, 48, 32, 54, 52, 32, 49, 48, 10]))], none⟩,
 ⟨(some 5), .mv (.t 6), none⟩,
 ⟨(some 7), .extract (.t 5) 0, none⟩,
 ⟨(some 8), .extract (.t 5) 1, none⟩,
 ⟨(some 9), .extract (.t 5) 2, none⟩,
 ⟨(some 1), .alloc 27 [(.int .i64 0), (.int .i64 0), (.int .i64 0), (.int .i64 0), .nilsl, .nilsl, .nilsl], none⟩,
 ⟨none, .store (.t 1) (.t 7) 7, none⟩,
 ⟨(some 2), .mv (.t 8), none⟩,
 ⟨(some 3), .mv (.t 9), none⟩]
def c7r2 : List AOp := [
 ⟨(some 10), .mv (.t 3), none⟩,
 ⟨(some 11), .bin .neq (.t 10) (.c (.int .i64 0)), none⟩,
 ⟨(some 12), .mv (.t 11), none⟩,
 ⟨(some 13), .mv (.t 2), some (12, false)⟩,
 ⟨(some 14), .bin .neq (.t 13) (.c (.int .i64 0)), some (12, false)⟩,
 ⟨(some 15), .pick (.t 12) (.c (.bool true)) (.t 14), none⟩,
 ⟨(some 16), .mv (.t 15), none⟩,
 ⟨(some 17), .load (.t 1) 7 true, some (16, false)⟩,
 ⟨(some 18), .call 12 [(.t 17)], some (16, false)⟩,
 ⟨(some 19), .un .not (.t 18), some (16, false)⟩,
 ⟨(some 20), .pick (.t 16) (.c (.bool true)) (.t 19), none⟩,
 ⟨(some 21), .mv (.t 20), none⟩,
 ⟨(some 22), .fieldAddr (.t 1) 0, some (21, false)⟩,
 ⟨(some 23), .load (.t 22) 1 false, some (21, false)⟩,
 ⟨(some 24), .bin .neq (.t 23) (.c (.int .i64 2)), some (21, false)⟩,
 ⟨(some 25), .pick (.t 21) (.c (.bool true)) (.t 24), none⟩,
 ⟨(some 26), .mv (.t 25), none⟩,
 ⟨(some 27), .fieldAddr (.t 1) 3, some (26, false)⟩,
 ⟨(some 28), .load (.t 27) 1 false, some (26, false)⟩,
 ⟨(some 29), .bin .neq (.t 28) (.c (.int .i64 20)), some (26, false)⟩,
 ⟨(some 30), .pick (.t 26) (.c (.bool true)) (.t 29), none⟩,
 ⟨(some 31), .mv (.t 30), none⟩,
 ⟨(some 32), .fieldAddr (.t 1) 5, some (31, false)⟩,
 ⟨(some 33), .load (.t 32) 1 false, some (31, false)⟩,
 ⟨(some 34), .len (.t 33), some (31, false)⟩,
 ⟨(some 35), .bin .neq (.t 34) (.c (.int .i64 3)), some (31, false)⟩,
 ⟨(some 36), .pick (.t 31) (.c (.bool true)) (.t 35), none⟩,
 ⟨(some 37), .mv (.t 36), none⟩,
 ⟨(some 38), .fieldAddr (.t 1) 5, some (37, false)⟩,
 ⟨(some 39), .load (.t 38) 1 false, some (37, false)⟩,
 ⟨(some 40), .indexSl (.t 39) (.c (.int .i64 1)) 3, some (37, false)⟩,
 ⟨(some 41), .fieldAddr (.t 40) 0, some (37, false)⟩,
 ⟨(some 42), .load (.t 41) 1 false, some (37, false)⟩,
 ⟨(some 43), .un .not (.t 42), some (37, false)⟩,
 ⟨(some 44), .pick (.t 37) (.c (.bool true)) (.t 43), none⟩,
 ⟨(some 45), .mv (.t 44), none⟩,
 ⟨(some 46), .fieldAddr (.t 1) 6, some (45, false)⟩,
 ⟨(some 47), .load (.t 46) 1 false, some (45, false)⟩,
 ⟨(some 48), .len (.t 47), some (45, false)⟩,
 ⟨(some 49), .bin .neq (.t 48) (.c (.int .i64 4)), some (45, false)⟩,
 ⟨(some 50), .pick (.t 45) (.c (.bool true)) (.t 49), none⟩,
 ⟨(some 51), .mv (.t 50), none⟩,
 ⟨(some 52), .fieldAddr (.t 1) 6, some (51, false)⟩,
 ⟨(some 53), .load (.t 52) 1 false, some (51, false)⟩,
 ⟨(some 54), .indexSl (.t 53) (.c (.int .i64 2)) 10, some (51, false)⟩,
 ⟨(some 55), .fieldAddr (.t 54) 7, some (51, false)⟩,
 ⟨(some 56), .load (.t 55) 1 false, some (51, false)⟩,
 ⟨(some 57), .indexSl (.t 56) (.c (.int .i64 1)) 2, some (51, false)⟩,
 ⟨(some 58), .load (.t 57) 2 true, some (51, false)⟩,
 ⟨(some 59), .build [(.int .i64 0), (.int .i64 0)] [(0, 1, (.c (.int .i64 2)))], some (51, false)⟩,
 ⟨(some 60), .eqA true [(0, 0), (1, 0)] (.t 58) (.t 59), some (51, false)⟩,
 ⟨(some 61), .pick (.t 51) (.c (.bool true)) (.t 60), none⟩]
def c7r3 : List AOp := [
 ⟨(some 0), .mv (.c (.bool false)), none⟩]
def c7r4 : List AOp := [
 ⟨(some 63), .load (.t 1) 7 true, none⟩,
 ⟨(some 64), .call 13 [(.t 63)], none⟩,
 ⟨(some 62), .mv (.t 64), none⟩,
 ⟨(some 65), .extract (.t 62) 0, none⟩,
 ⟨(some 66), .extract (.t 62) 1, none⟩,
 ⟨(some 4), .mv (.t 65), none⟩,
 ⟨(some 3), .mv (.t 66), none⟩]
def c7r5 : List AOp := [
 ⟨(some 67), .mv (.t 3), none⟩,
 ⟨(some 68), .bin .eql (.t 67) (.c (.int .i64 0)), none⟩,
 ⟨(some 69), .mv (.t 68), none⟩,
 ⟨(some 70), .mv (.t 4), some (69, true)⟩,
 ⟨(some 71), .bin .eql (.t 70) (.c (.str [114, 101, 112, 108, 105, 99, 97, 115, 32, 50, 10, 115, 101, 115, 115, 105, 111, 110, 115, 32, 49, 10, 115, 101, 99, 116, 111, 114, 115, 32, 54, 52, 10, 116, 105, 99, 107, 115, 32, 50, 48, 10, 115, 116, 97, 116, 101, 32, 48, 32, 51, 10, 102, 97, 116, 101, 32, 50, 10, 102, 97, 116, 101, 32, 100, 114, 111, 112, 10, 102, 97, 116, 101, 32, 49, 32, 52, 10, 97, 116, 32, 48, 32, 115, 117, 98, 109, 105, 116, 32, 48, 32, 48, 32, 53, 10, 97, 116, 32, 51, 32, 99, 117, 116, 32, 48, 32, 49, 10, 97, 116, 32, 51, 32, 114, 101, 97, 100, 32, 49, 32, 48, 32, 118, 97, 108, 117, 101, 32, 49, 32, 109, 101, 114, 103, 101, 100, 32, 48, 10, 97, 116, 32, 55, 32, 99, 114, 97, 115, 104, 32, 49, 32, 48, 32, 54, 52, 32, 49, 48, 10])), some (69, true)⟩,
 ⟨(some 72), .pick (.t 69) (.t 71) (.c (.bool false)), none⟩,
 ⟨(some 73), .mv (.t 72), none⟩,
 ⟨(some 74), .load (.t 1) 7 true, some (73, true)⟩,
 ⟨(some 75), .call 15 [(.t 74), (.c (.int .i64 3))], some (73, true)⟩,
 ⟨(some 76), .len (.t 75), some (73, true)⟩,
 ⟨(some 77), .bin .eql (.t 76) (.c (.int .i64 2)), some (73, true)⟩,
 ⟨(some 78), .pick (.t 73) (.t 77) (.c (.bool false)), none⟩,
 ⟨(some 79), .mv (.t 78), none⟩,
 ⟨(some 80), .load (.t 1) 7 true, some (79, true)⟩,
 ⟨(some 81), .lit false 3 1 2 [(.int .i64 0)] [(0, 1, (.c (.int .i64 1))), (1, 1, (.c (.int .i64 2)))], some (79, true)⟩,
 ⟨(some 82), .call 16 [(.t 80), (.t 81)], some (79, true)⟩,
 ⟨(some 83), .field (.t 82) 6 1 false, some (79, true)⟩,
 ⟨(some 84), .len (.t 83), some (79, true)⟩,
 ⟨(some 85), .bin .eql (.t 84) (.c (.int .i64 2)), some (79, true)⟩,
 ⟨(some 86), .pick (.t 79) (.t 85) (.c (.bool false)), none⟩,
 ⟨(some 87), .mv (.t 86), none⟩,
 ⟨(some 88), .load (.t 1) 7 true, some (87, true)⟩,
 ⟨(some 89), .call 18 [(.t 88), (.c (.int .i64 3))], some (87, true)⟩,
 ⟨(some 90), .field (.t 89) 6 1 false, some (87, true)⟩,
 ⟨(some 91), .len (.t 90), some (87, true)⟩,
 ⟨(some 92), .bin .eql (.t 91) (.c (.int .i64 1)), some (87, true)⟩,
 ⟨(some 93), .pick (.t 87) (.t 92) (.c (.bool false)), none⟩,
 ⟨(some 94), .mv (.t 93), none⟩,
 ⟨(some 95), .load (.t 1) 7 true, some (94, true)⟩,
 ⟨(some 96), .load (.t 1) 7 true, some (94, true)⟩,
 ⟨(some 97), .call 17 [(.t 95), (.t 96)], some (94, true)⟩,
 ⟨(some 98), .pick (.t 94) (.t 97) (.c (.bool false)), none⟩,
 ⟨(some 99), .mv (.t 98), none⟩,
 ⟨(some 100), .load (.t 1) 7 true, some (99, true)⟩,
 ⟨(some 101), .load (.t 1) 7 true, some (99, true)⟩,
 ⟨(some 102), .call 18 [(.t 101), (.c (.int .i64 19))], some (99, true)⟩,
 ⟨(some 103), .call 17 [(.t 100), (.t 102)], some (99, true)⟩,
 ⟨(some 104), .un .not (.t 103), some (99, true)⟩,
 ⟨(some 105), .pick (.t 99) (.t 104) (.c (.bool false)), none⟩,
 ⟨(some 0), .mv (.t 105), none⟩]
def c7 : ACode := (.seq (.region false c7r0) (.seq (.region false c7r1) (.seq (.seq (.region false c7r2) (.cond (.t 61) (.seq (.region false c7r3) .ret) .skip)) (.seq (.region false c7r4) (.seq (.region true c7r5) .ret)))))
theorem fn7 : fnOf Tryz.prog 7 (fun _ => false) = some (c7, [.t 0], 106, true) := by kernel_rfl
def exText : List UInt8 := [114, 101, 112, 108, 105, 99, 97, 115, 32, 50, 10, 115, 101, 115, 115, 105, 111, 110, 115, 32, 49, 10, 115, 101, 99, 116, 111, 114, 115, 32, 54, 52, 10, 116, 105, 99, 107, 115, 32, 50, 48, 10, 115, 116, 97, 116, 101, 32, 48, 32, 51, 10, 102, 97, 116, 101, 32, 50, 10, 102, 97, 116, 101, 32, 100, 114, 111, 112, 10, 102, 97, 116, 101, 32, 49, 32, 52, 10, 97, 116, 32, 48, 32, 115, 117, 98, 109, 105, 116, 32, 48, 32, 48, 32, 53, 10, 97, 116, 32, 51, 32, 99, 117, 116, 32, 48, 32, 49, 10, 97, 116, 32, 51, 32, 114, 101, 97, 100, 32, 49, 32, 48, 32, 118, 97, 108, 117, 101, 32, 49, 32, 109, 101, 114, 103, 101, 100, 32, 48, 10, 97, 116, 32, 55, 32, 99, 114, 97, 115, 104, 32, 49, 32, 48, 32, 54, 52, 32, 49, 48, 10]
def exS : Sched := ⟨2, 1, 64, 20, [0, 3], [⟨false, 2, 0⟩, ⟨true, 0, 0⟩, ⟨false, 1, 4⟩],
 [⟨0, 0, 0, 0, 0, 5, 0, [], [], []⟩, ⟨3, 2, 0, 1, 0, 0, 0, [], [], []⟩, ⟨3, 1, 1, 0, 0, 0, 0, [(0, 1), (2, 0)], [], []⟩, ⟨7, 4, 1, 0, 0, 0, 0, [], [64, 10], []⟩]⟩
set_option maxRecDepth 100000 in
theorem ex_parse : parseP exText = (exS, 0, 0) := by kernel_rfl
set_option maxRecDepth 100000 in
theorem ex_valid : valid exS = true := by kernel_rfl
set_option maxRecDepth 100000 in
theorem ex_format : formatP exS = (exText, 0) := by kernel_rfl
theorem ex_small : Small exS := ⟨by decide, by decide, by decide, fun x hx => by
 simp only [exS, List.mem_cons, List.not_mem_nil, or_false] at hx
 rcases hx with rfl | rfl | rfl | rfl <;> exact ⟨by decide, by decide, by decide⟩⟩
theorem ex_sizes : ∀ k, Sizes (exS.steps.getD k zeroStep)
 | 0 => ⟨by decide, by decide, by decide⟩
 | 1 => ⟨by decide, by decide, by decide⟩
 | 2 => ⟨by decide, by decide, by decide⟩
 | 3 => ⟨by decide, by decide, by decide⟩
 | k + 4 => ⟨by simp [exS, zeroStep], by simp [exS, zeroStep], by simp [exS, zeroStep]⟩
def exV : PV := .agg [.int .i64 2, .int .i64 1, .int .i64 64, .int .i64 20, .sl 2 [.int .i64 0, .int .i64 3], .sl 3 [.bool false, .int .i64 2, .int .i64 0, .bool true, .int .i64 0, .int .i64 0, .bool false, .int .i64 1, .int .i64 4], .sl 4 [.int .i64 0, .int .i64 0, .int .i64 0, .int .i64 0, .int .i64 0, .int .i64 5, .int .i64 0, .sl 0 [], .sl 0 [], .sl 0 [], .int .i64 3, .int .i64 2, .int .i64 0, .int .i64 1, .int .i64 0, .int .i64 0, .int .i64 0, .sl 0 [], .sl 0 [], .sl 0 [], .int .i64 3, .int .i64 1, .int .i64 1, .int .i64 0, .int .i64 0, .int .i64 0, .int .i64 0, .sl 2 [.int .i64 0, .int .i64 1, .int .i64 2, .int .i64 0], .sl 0 [], .sl 0 [], .int .i64 7, .int .i64 4, .int .i64 1, .int .i64 0, .int .i64 0, .int .i64 0, .int .i64 0, .sl 0 [], .sl 2 [.int .i64 64, .int .i64 10], .sl 0 []]]
theorem exV_eq : schedP exS = exV := rfl
theorem ex_fits (s : Sched) (h : s = exS ∨ s = till exS 19) : Fits s := by
 rcases h with rfl | rfl
 ·exact ⟨by decide, by decide, by decide, ex_sizes⟩
 ·exact ⟨by decide, by decide, by decide, ex_sizes⟩
set_option maxRecDepth 100000 in
set_option maxHeartbeats 8000000 in
theorem awake_ok : PureOK ctx 7 [] (.bool true) := by
  have h6 := parse_ok exText (by decide)
  rw [ex_parse] at h6
  have h18 := Valid_ok exS (by decide) (by decide) (by decide) ex_sizes
  rw [ex_valid] at h18
  have h64 := format_ok exS (by decide) (by decide) (by decide) ex_sizes
  rw [ex_format] at h64
  have h75 := at_ok exS ex_small 3
  have e75 : stepsP (stepsAt exS 3) = .sl 2 ((stepsAt exS 3).flatMap stepC) := rfl
  rw [e75] at h75
  have h82 := without_ok exS ex_small [1, 2] (by decide)
  have e82 : schedP (without exS [1, 2]) = .agg [.int .i64 2, .int .i64 1, .int .i64 64, .int .i64 20, intsP [0, 3], fatesP exS.fates, .sl 2 ((without exS [1, 2]).steps.flatMap stepC)] := rfl
  rw [e82] at h82
  have h89 := until_ok exS ex_small 3
  have e89 : schedP (till exS 3) = .agg [.int .i64 2, .int .i64 1, .int .i64 64, .int .i64 3, intsP [0, 3], fatesP exS.fates, .sl 1 ((till exS 3).steps.flatMap stepC)] := rfl
  rw [e89] at h89
  have h97 := Equal_ok exS exS (ex_fits _ (.inl rfl)) (ex_fits _ (.inl rfl))
  rw [show sameSched exS exS = true from by kernel_rfl] at h97
  have h102 := until_ok exS ex_small 19
  have h103 := Equal_ok exS (till exS 19) (ex_fits _ (.inl rfl)) (ex_fits _ (.inr rfl))
  rw [show sameSched exS (till exS 19) = false from by kernel_rfl] at h103
  dsimp only at h6 h64
  rw [exV_eq] at h6 h18 h64 h75 h82 h89 h97 h102 h103
  generalize hW : schedP (till exS 19) = W at *
  clear e75 e82 e89 hW
  refine pure_body' (C := ctx) (Fn.of fn7 rfl) rfl ?_
  unfold c7
  repeat' (first
    | ((with_reducible first | show VCs _ | show All _); (try dsimp only [go_sem]); first | (simp [vb, h6, h18, h64, h75, h82, h89, h97, h102, h103] <;> omega) | (simp only [vb, and_true, true_implies]; (repeat' (first | assumption | (with_reducible apply And.intro) | intro _)) <;> first | omega | (simp only [ab, h6, h18, h64, h75, h82, h89, h97, h102, h103]; done) | (simp [h6, h18, h64, h75, h82, h89, h97, h102, h103] <;> omega)))
    | exact (rfl : some _ = _)
    | (fail_if_success refine awL ?_
       refine evH [(6, { val := some (.pv (.tup [exV, .int .i64 0, .int .i64 0])) }), (18, { val := some (.pv (.bool true)) }), (64, { val := some (.pv (.tup [.str exText, .int .i64 0])) }), (75, { val := some (.pv (.sl 2 ((stepsAt exS 3).flatMap stepC))) }), (82, { val := some (.pv (.agg [.int .i64 2, .int .i64 1, .int .i64 64, .int .i64 20, intsP [0, 3], fatesP exS.fates, .sl 2 ((without exS [1, 2]).steps.flatMap stepC)])) }), (89, { val := some (.pv (.agg [.int .i64 2, .int .i64 1, .int .i64 64, .int .i64 3, intsP [0, 3], fatesP exS.fates, .sl 1 ((till exS 3).steps.flatMap stepC)])) }), (97, { val := some (.pv (.bool true)) }), (102, { val := some (.pv W) }), (103, { val := some (.pv (.bool false)) })] ?_
       repeat1' dsimp only [c7, c7r0, c7r1, c7r2, c7r3, c7r4, c7r5, exV, go_sem]
       first
       | refine aw4 ?_ ?_ rfl ?_
       | apply aw3
       | apply aw2
       | (refine awB (fun hc => ?_) fun hc => ?_ <;> first | (cases hc; done) | (exfalso; simp [h6, h18, h64, h75, h82, h89, h97, h102, h103] at hc <;> omega) | (try simp only [bn] at hc; try contradiction))
       | skip))
end
section
open Sch Pl
def BothG (p q : Sum Nat (Nat × Sched)) : Prop := match p, q with
 | .inl k, .inl k' => k = k'
 | .inr (d, s), .inr (d', s') => d = d' ∧ Rel d s s'
 | _, _ => False
theorem go_both : ∀ (ls : List (List UInt8)) (i d : Nat) (p q : Sched), Rel d p q → BothG (parseGo ls i d p) (refGo ls i d q)
 | [], i, d, p, q, h => ⟨rfl, h⟩
 | ln :: r, i, d, p, q, h => by
  simp only [parseGo, refGo, words_split]
  cases splitP ln with
  | nil => exact go_both r (i + 1) d p q h
  | cons w0 ws =>
   dsimp only
   have hb := line_both w0 ws h
   unfold Both at hb
   split at hb
   ·rename_i h1 h2
    rw [h1, h2]
    rfl
   ·rename_i d1 s1 d2 s2 h1 h2
    rw [h1, h2]
    obtain ⟨rfl, hr⟩ := hb
    exact go_both r (i + 1) d1 s1 s2 hr
   ·exact hb.elim
theorem go_empty : ∀ (ls : List (List UInt8)) (i d : Nat) (p : Sched), parseGo (ls ++ [[]]) i d p = parseGo ls i d p
 | [], i, d, p => by simp [parseGo, upTo, wordsOn, wordsGo]
 | ln :: r, i, d, p => by
  simp only [List.cons_append, parseGo]
  split
  ·exact go_empty r (i + 1) d p
  ·split
   ·rfl
   ·exact go_empty r (i + 1) _ _
theorem parse_eq (t : List UInt8) : parseP t = refParseP t := by
 unfold parseP refParseP
 split
 ·rfl
 ·have hls := lines_split t
  have hgo : parseGo (splitOn 10 t) 0 0 zeroSched = parseGo (linesP t) 0 0 zeroSched := by
   rw [hls]
   split
   ·rw [List.append_nil]
   ·exact go_empty _ _ _ _
  rw [hgo]
  have hb := go_both (linesP t) 0 0 zeroSched refS0 .r0
  unfold BothG at hb
  split at hb
  ·rename_i k k' h1 h2
   rw [h1, h2, hb]
  ·rename_i d s d' s' h1 h2
   obtain ⟨rfl, hr⟩ := hb
   rw [h1, h2]
   dsimp only
   by_cases hd : d < 5
   ·rw [if_pos hd, if_pos hd]
    refine congrArg (fun n : Int => (zeroSched, n, (3 : Int))) ?_
    by_cases ha : (linesAt t t.length).2 < t.length
    ·rw [if_pos ha, List.append_nil] at hls
     rw [hls]
     have hl : linesP t = (linesAt t t.length).1 ++ [(t.take t.length).drop (linesAt t t.length).2] := by unfold linesP; rw [if_pos ha]
     have hlast : (linesP t).getD ((linesP t).length - 1) [] = (t.take t.length).drop (linesAt t t.length).2 := by
      rw [hl]
      simp [List.getD]
     rw [hlast]
     have hne : ((t.take t.length).drop (linesAt t t.length).2 == []) = false := by
      rw [beq_eq_false_iff_ne]
      intro h
      have := congrArg List.length h
      simp at this
      omega
     rw [hne]
     simp
    ·rw [if_neg ha] at hls
     rw [hls]
     simp
   ·rw [if_neg hd, if_neg hd]
    cases hr with
    | r5 => rfl
    | _ => omega
  ·exact hb.elim
theorem refGo_inv : ∀ (ls : List (List UInt8)) (i d : Nat) (s : Sched) (d' : Nat) (s' : Sched), RInv d s → (∀ w ∈ ls, w.length ≤ 900000) → refGo ls i d s = .inr (d', s') → RInv d' s'
 | [], i, d, s, d', s', h, _, he => by
  simp only [refGo] at he
  injection he with he
  injection he with h1 h2
  subst h1 h2
  exact h
 | ln :: r, i, d, s, d', s', h, hl, he => by
  simp only [refGo] at he
  have hsm := splitP_small ln
  have hln := hl ln (by simp)
  split at he
  ·exact refGo_inv r _ _ _ _ _ h (fun w hw => hl w (by simp [hw])) he
  ·rename_i w0 ws hws
   rw [hws] at hsm
   split at he
   ·rename_i q hq
    exact refGo_inv r _ _ _ _ _ (refLine_inv h (by have := hsm.1; simp only [List.length_cons] at this; omega) hq) (fun w hw => hl w (by simp [hw])) he
   ·cases he
theorem few_zeroS : FewS zeroSched := ⟨by simp [zeroSched], by simp [zeroSched], by simp [zeroSched], by simp [zeroSched]⟩
theorem refParse_few (t : List UInt8) (ht : t.length ≤ 900000) : FewS (refParseP t).1 := by
 unfold refParseP
 split
 ·exact few_zeroS
 ·split
  ·exact few_zeroS
  ·rename_i d s hg
   split
   ·exact few_zeroS
   ·have := refGo_inv _ _ _ _ _ _ rinv0 (fun w hw => by have := (linesP_small t).2 w hw; omega) hg
    have h1 := this.f; have h2 := this.p; have h3 := this.a
    exact ⟨this.x, by dsimp only; omega, by dsimp only; omega, by dsimp only; omega⟩
theorem refEqB_self (s : Sched) : refEqB s s = true := by simp [refEqB]
def c3 : ACode := (⟨_, by conv => (lhs; reduce; try simp only [lt1, Int.cast_ofNat_Int, Int.reduceNegSucc, UInt8.reduceOfNat])⟩ : {x // codeOf Tryz.prog 3 (fun _ => false) = some x}).1
theorem fn3 : fnOf Tryz.prog 3 (fun _ => false) = some (c3, [.t 2], 39, true) := by kernel_rfl
set_option maxHeartbeats 4000000 in
theorem parses_ok (t : List UInt8) : PureOK ctx 3 [.str t] (.bool true) := by
  have h0 := awake_ok
  by_cases hl : t.length ≤ 1500
  · have h1 := parse_ok t (by omega)
    rw [parse_eq] at h1
    have h2 := refParse_ok t (by omega)
    have hf := refParse_few t (by omega)
    have h3 := refEqual_ok _ _ hf hf
    rw [refEqB_self] at h3
    generalize refParseP t = q at *
    obtain ⟨s, m, e⟩ := q
    dsimp only at h1 h2 h3
    unfold schedP at h1 h2 h3
    refine pure_body' (C := ctx) (Fn.of fn3 rfl) rfl ?_
    unfold c3
    repeat' (first
      | ((with_reducible first | show VCs _ | show All _); (try dsimp only [go_sem]); first | (simp [vb, h0, h1, h2, h3] <;> omega) | (simp only [vb, and_true, true_implies]; (repeat' (first | assumption | (with_reducible apply And.intro) | intro _)) <;> first | omega | (simp only [ab, h0, h1, h2, h3]; done) | (simp [h0, h1, h2, h3] <;> omega)))
      | exact (rfl : some _ = _)
      | (fail_if_success refine awL ?_
         refine evTH [(7, fun _ => some (.bool true))] [(16, { val := some (.pv (.tup [.agg [.int .i64 s.replicas, .int .i64 s.sessions, .int .i64 s.sectors, .int .i64 s.ticks, intsP s.state, fatesP s.fates, stepsP s.steps], .int .i64 m, .int .i64 e])) }), (22, { val := some (.pv (.tup [.agg [.int .i64 s.replicas, .int .i64 s.sessions, .int .i64 s.sectors, .int .i64 s.ticks, intsP s.state, fatesP s.fates, stepsP s.steps], .int .i64 m, .int .i64 e])) }), (28, { val := some (.pv (.bool true)) })] ?_
         repeat1' dsimp only [c3, fatesP, stepsP, intsP, go_sem]
         first
         | refine aw4 ?_ ?_ rfl ?_
         | apply aw3
         | apply aw2
         | (refine awB (fun hc => ?_) fun hc => ?_ <;> first | (cases hc; done) | (exfalso; simp [h0, h1, h2, h3] at hc <;> omega) | (try simp only [bn] at hc; try contradiction))
         | skip))
    simp
  · refine pure_body' (C := ctx) (Fn.of fn3 rfl) rfl ?_
    unfold c3
    repeat' (first
      | ((with_reducible first | show VCs _ | show All _); simp [vb, h0] <;> omega)
      | exact (rfl : some _ = _)
      | (fail_if_success refine awL ?_
         refine evT [(7, fun _ => some (.bool true))] ?_
         repeat1' dsimp only [c3, go_sem]
         first
         | refine aw4 ?_ ?_ rfl ?_
         | apply aw3
         | apply aw2
         | (refine awB (fun hc => ?_) fun hc => ?_ <;> first | (cases hc; done) | (exfalso; simp [h0] at hc <;> omega) | (try simp only [bn] at hc; try contradiction))
         | skip))
end
end Pur
end Go.Proofs.YteokbngllldmdaaGreatDoor
namespace Go.Proofs.YteokbngllldmdaaGreatDoor
open Go.RowKit
theorem tabIs_of_vars {P : Program} {W : World} {name : String} {k : IntKind} {zs : List Int} {g : Nat} {t e : TypeId} {n : Nat}
  (hg : P.globalNamed name = some g) (hty : (P.globals[g]?).map (·.type) = some t) (ht : P.underlying t = some (.array n e)) (he : P.underlying e = some (.int k)) (hce : P.cellsOf e = 1) (hct : P.cellsOf t = n) :
  ∀ (laid : List (String × DataW Unit)) (ps : List MemPlace), DataW.LaidVars P W laid ps → (name, Lib.tabData k zs) ∈ laid → Lib.TabIs P W name k zs := by
 intro laid
 induction laid with
 | nil => intro ps _ hm; cases hm
 | cons x rest ih =>
  intro ps h hm
  obtain ⟨nm, d⟩ := x
  obtain ⟨g', t', cs, fuel, p, q, hg', ht', hvar, hd, hrest, _⟩ := h
  rcases List.mem_cons.1 hm with hm | hm
  ·obtain ⟨rfl, rfl⟩ := Prod.mk.inj hm
   obtain rfl := Option.some.inj (hg.symm.trans hg')
   obtain rfl := Option.some.inj (hty.symm.trans ht')
   unfold Lib.TabIs
   rw [hvar, ← Lib.cells_of_tab ht he hce hct hd]
  ·exact ih q hrest hm
end Go.Proofs.YteokbngllldmdaaGreatDoor
namespace Go.Proofs.YteokbngllldmdaaGreatDoor
open Go.RowKit Go.WideShapes Go.ChangeShapes
theorem post_below {H : Type} {enc : TypeId × Value → H} {P : Program} {f : Func} {s : ChangeSpec} {apart fresh handsOn again : Bool} {W W' : World} {args : Array Value} {v : Value} {ds gs : List (DataW H)}
  {before pa pv : List MemPlace} (hW : DataW.Whole enc P f.params.toList s.vars apart W args.toList ds gs before)
  (hres : ∀ (b : Nat) (sp : Nat → Bool) (hd : Bool), DataW.TrodAll enc P W' b sp hd f.resultTypes.toList (v.resultList f.resultTypes.size) (s.fn H (ds ++ gs)).results [])
  (hargs : ∀ sp : Nat → Bool, (∀ p ∈ before, sp p.block = true) → DataW.TrodAll enc P W' 0 sp true f.params.toList args.toList (s.fn H (ds ++ gs)).args pa)
  (hvars : ∀ sp : Nat → Bool, (∀ p ∈ before, sp p.block = true) → DataW.TrodVars enc P W' sp s.vars (s.fn H (ds ++ gs)).vars pv)
  (hps : before = pa ++ pv) (hb : Below W.heap.size W W')
  (hok : ∀ (j : Nat) (t : TypeId) (r : Value), f.resultTypes[j]? = some t → (v.resultList f.resultTypes.size)[j]? = some r → Value.okWide P W' .any 0 t r) :
  s.post enc P f apart fresh handsOn again W args v W' := by
 have hblk : ∀ x ∈ before, x.block < W.heap.size := fun x hx => hW.lt x hx
 have hsp : ∀ x ∈ before, decide (x.block < W.heap.size) = true := fun x hx => decide_eq_true (hblk x hx)
 have hall : ∀ x ∈ before, (fun _ : Nat => true) x.block = true := fun _ _ => rfl
 have hframe : W.keptBut W' fun x => x ∈ before ∧ x ∈ ([] ++ pa) ++ pv ∨ False := by
  refine World.keptBut_mono (fun x hx => ?_) (hb.frame (· ∈ before))
  exact .inl ⟨hx, by rw [List.nil_append, ← hps]; exact hx⟩
 refine ⟨ds, gs, before, [], pa, pv, hW, hres _ _ _, hargs (fun b => decide (b < W.heap.size)) hsp, hvars (fun b => decide (b < W.heap.size)) hsp, World.keptBut_mono (fun x hx => ?_) hframe, fun _ => ?_⟩
 ·rcases hx with ⟨h1, h2⟩ | h
  ·refine ⟨h1, ?_⟩
   rw [List.nil_append, ← hps] at h2
   rw [hps, List.mem_append] at h1
   exact Or.inr h1
  ·exact h.elim
 ·obtain ⟨_, _, _, _, _, hfz, hnd⟩ := hW
  have hpl : before = ([] ++ pa) ++ pv := by rw [List.nil_append]; exact hps
  refine ⟨hok, _, _, ([] ++ pa) ++ pv, ⟨[] ++ pa, pv, trodAll_append (hargs _ hall) (hres _ _ _), hvars _ hall, rfl, fun b off hp => ?_, fun ha => ?_⟩, fun x hx _ => ?_⟩
  ·rw [← hpl] at hp
   rw [hb.frozen (p := ⟨b, off, none⟩) (hblk _ hp)]
   exact hfz b off hp
  ·rw [← hpl]; exact hnd ha
  ·rw [hpl]; exact hx
end Go.Proofs.YteokbngllldmdaaGreatDoor
namespace Go.Proofs.YteokbngllldmdaaGreatDoor
namespace Pur
theorem is_string {w : World} {S : Nat → Prop} (x : ByteArray) : Is w S (.str x.data.toList) (.string x) := by
 have : x = ⟨x.data.toList.toArray⟩ := by cases x; simp
 conv => rhs; rw [this]
 exact .str _
theorem is_bool_inv {w : World} {S : Nat → Prop} {b : Bool} {v : Value} (h : Is w S (.bool b) v) : v = .bool b := by cases h; rfl
end Pur
end Go.Proofs.YteokbngllldmdaaGreatDoor
namespace Go.Proofs.YteokbngllldmdaaGreatDoor.Cd
open Go.ChangeShapes Go.WideShapes Go.ChangeAt Go.RowKit
theorem iface_of_vars {P : Program} {W : World} {name nm : String} {d : DataW Unit} {g : Nat} {t : TypeId} {ms : Array (String × TypeId)}
  (hg : P.globalNamed name = some g) (hty : (P.globals[g]?).map (·.type) = some t) (ht : P.underlying t = some (.interface ms)) :
  ∀ (laid : List (String × DataW Unit)) (ps : List MemPlace), DataW.LaidVars P W laid ps → (name, DataW.iface nm d) ∈ laid → ∃ tp p, W.var? P name = some #[.iface tp p] := by
 intro laid
 induction laid with
 | nil => intro ps _ hm; cases hm
 | cons x rest ih =>
  intro ps h hm
  obtain ⟨nm', d'⟩ := x
  obtain ⟨g', t', cs, fuel, p, q, hg', ht', hvar, hd, hrest, _⟩ := h
  rcases List.mem_cons.1 hm with hm | hm
  ·obtain ⟨rfl, rfl⟩ := Prod.mk.inj hm
   obtain rfl := Option.some.inj (hg.symm.trans hg')
   obtain rfl := Option.some.inj (hty.symm.trans ht')
   rw [hvar]
   obtain ⟨l⟩ := cs
   cases fuel with
   | zero => simp [DataW.trod] at hd
   | succ fuel =>
    simp only [DataW.trod, ht] at hd
    match l, hd with
    | [], hd => simp at hd
    | [v], hd =>
     cases v <;> simp at hd
     exact ⟨_, _, rfl⟩
    | _ :: _ :: _, hd => simp at hd
  ·exact ih q hrest hm
theorem int_of_shape {P : Program} {w : World} {g : Nat} {t : TypeId} {zero : Array Value} (h : w.ShapedOpen P) (hg : g < P.globals.size)
  (h0 : ((begin P (fun _ _ => 0) default).world.heap[g]?).bind Obj.row? = some (zero, t)) (hz : zero.size = 1)
  (hb : P.buildable t = true) (hc : P.cellTypes P.depth t = some [t]) (hu : P.underlying t = some (.int .i64)) : ∃ m, w.cell? ⟨g, 0, none⟩ = some (.int .i64 m) := by
 obtain ⟨cs, hh, hs, hr⟩ := h.1 g zero t hg h0
 obtain ⟨ts, hts, _, hall⟩ := hr hb
 rw [hc] at hts
 cases hts
 have h1 : 0 < cs.size := by omega
 obtain ⟨u, hu', hok⟩ := hall 0 cs[0] (by simp [h1])
 have : u = t := by simpa using hu'.symm
 subst this
 have hcell : w.cell? ⟨g, 0, none⟩ = some cs[0] := by simp [World.cell?, hh, h1]
 rw [hcell]
 unfold Cell.ok at hok
 rw [hu] at hok
 cases hv : cs[0] <;> rw [hv] at hok <;> first | (simp at hok; done) | skip
 obtain ⟨rfl, _⟩ := hok
 exact ⟨_, rfl⟩
theorem own : ownKnob Tryz.prog.godebug = none := by kernel_rfl
theorem gTabType : (Tryz.prog.globals[5]?).map (·.type) = some 171 := by kernel_rfl
theorem cellsTab : Tryz.prog.cellsOf 171 = 20 := by kernel_rfl
theorem cellsElem : Tryz.prog.cellsOf 159 = 1 := by kernel_rfl
theorem gSynType : (Tryz.prog.globals[3]?).map (·.type) = some 82 := by kernel_rfl
theorem gRanType : (Tryz.prog.globals[4]?).map (·.type) = some 82 := by kernel_rfl
theorem env_of {W : World} (h : laidMetH Tryz.prog Rows.scheduleParsesRow.laid W) (hsh : W.ShapedOpen Tryz.prog) : Env W := by
 obtain ⟨ps, hv, _⟩ : laidMet Tryz.prog Rows.scheduleParsesRow.laid W := h
 refine ⟨?_, ?_, ?_, ?_⟩
 ·exact tabIs_of_vars Tryz.gTab gTabType Tryz.underlying171 Tryz.underlying159 cellsElem cellsTab _ ps hv (by
   simp only [Rows.scheduleParsesRow, List.mem_cons, List.not_mem_nil, or_false]
   right; right; left; rfl)
 ·exact iface_of_vars (nm := "*errors.errorString") (d := .ptr (.agg [.lit (.string [105, 110, 118, 97, 108, 105, 100, 32, 115, 121, 110, 116, 97, 120])])) Tryz.gSyn gSynType Tryz.underlying82 _ ps hv (by
   simp only [Rows.scheduleParsesRow, List.mem_cons, List.not_mem_nil, or_false]
   right; right; right; right; right; left; rfl)
 ·exact iface_of_vars (nm := "*errors.errorString") (d := .ptr (.agg [.lit (.string [118, 97, 108, 117, 101, 32, 111, 117, 116, 32, 111, 102, 32, 114, 97, 110, 103, 101])])) Tryz.gRan gRanType Tryz.underlying82 _ ps hv (by
   simp only [Rows.scheduleParsesRow, List.mem_cons, List.not_mem_nil, or_false]
   right; right; right; right; left; rfl)
 ·exact int_of_shape (zero := #[.int .i64 0]) hsh (of_decide_eq_true (by kernel_rfl)) (t := 3) (by kernel_rfl) rfl (by kernel_rfl) (by kernel_rfl) Tryz.underlying3
end Go.Proofs.YteokbngllldmdaaGreatDoor.Cd
namespace Go.Proofs.YteokbngllldmdaaGreatDoor.lawParses
open Go.ChangeShapes Go.WideShapes Go.ChangeAt Go.RowKit
open Go.ChangeMaps (open_string shut_string)
theorem contract (H : Type) (enc : TypeId × Value → H) (W : World) (base : Nat) (args : Array Value) (ds gs : List (DataW H)) (before : List MemPlace)
  (hval : ∀ (j : Nat) t v, Tryz.f3.params[j]? = some t → args[j]? = some v → Value.okWide Tryz.prog W .any base t v)
  (hW : DataW.Whole enc Tryz.prog Tryz.f3.params.toList Rows.scheduleParsesSpec.vars false W args.toList ds gs before) (hL : laidMetH Tryz.prog Rows.scheduleParsesRow.laid W) (hsh : W.ShapedOpen Tryz.prog) :
  Calls Tryz.prog 3 args W fun e W' => ∃ v, e = .returned v ∧ Rows.scheduleParsesSpec.post enc Tryz.prog Tryz.f3 false true false false W args v W' := by
 have hW' := hW
 obtain ⟨p, q, hA0, hV, rfl, hfz, hnd⟩ := hW
 have hA : DataW.TrodAll enc Tryz.prog W 0 (fun _ => true) true Tryz.f3.params.toList args.toList ds p := hA0
 rw [Tryz.params3] at hA hval
 obtain ⟨v0, vs0, d0, ds0, p0, q0, hargs, rfl, rfl, h0, r0⟩ := trodAll_cons hA
 obtain ⟨rfl, rfl, rfl⟩ := trodAll_nil r0
 obtain rfl : args = #[v0] := by cases args; simp_all
 obtain ⟨rfl, rfl⟩ := trodVars_none hV
 obtain ⟨x0, rfl, rfl, rfl, w0⟩ := open_string Tryz.underlying9 (hval 0 9 v0 rfl rfl) h0
 clear hA0
 simp only [List.append_nil] at hW'
 have hE := Cd.env_of hL hsh
 refine ((Pur.parses_ok x0.data.toList).2 W (fun _ => False) [.string x0] hE (fun g h => h.elim) (Pur.PW.cons (Pur.is_string _) (Pur.PW.nil))).mono fun e W' hh => ?_
 obtain ⟨v, he, hb, hv⟩ := hh
 have := Pur.is_bool_inv hv
 subst this
 subst he
 exact ⟨_, rfl, post_below (pa := []) (pv := []) hW' (fun _ _ _ => trodAll_cons_mk (shut_bool Tryz.underlying4 _) trodAll_mk0)
  (fun _ _ => trodAll_cons_mk (shut_string Tryz.underlying9 w0) trodAll_mk0) (fun _ _ => rfl) rfl
  hb (ok_one (by kernel_rfl) rfl (okWide_bool_mk Tryz.underlying4 _))⟩
def start : Array Value := #[.string ⟨#[]⟩]
theorem met (os : Os) : laidMet Tryz.prog Rows.scheduleParsesRow.laid ((World.laidAll Tryz.prog os Rows.scheduleParsesRow.laid).forCall (fun _ _ => 0) ⟨#[], start, []⟩).memory :=
 laidMet_laidAll _ (by kernel_rfl) (by kernel_rfl)
theorem reads (os : Os) {H : Type} (enc : TypeId × Value → H) : ∃ places, DataW.whole enc Tryz.prog ((World.laidAll Tryz.prog os Rows.scheduleParsesRow.laid).forCall (fun _ _ => 0) ⟨#[], start, []⟩).memory Tryz.f3.params.toList Rows.scheduleParsesSpec.vars false start.toList 8 = some ([.lit (.string [])], [], places) :=
 ⟨[], by kernel_rfl⟩
set_option maxRecDepth 100000 in
theorem lifted (os : Os) (started : os.Started) (H : Type) (enc : TypeId × Value → H) (F : Stop.Interp) :
  ReturnsInHanded {} Tryz.checked os 3 .any ((OpenSpec.ofChange Rows.scheduleParsesSpec).preRow enc Tryz.prog Tryz.f3 Rows.scheduleParsesRow.domain false Rows.scheduleParsesRow.laid) (((OpenSpec.ofChange Rows.scheduleParsesSpec).at F).post enc Tryz.prog Tryz.f3 false true false false) := by
 obtain ⟨places, hx⟩ := reads os enc
 refine returnsInHanded_of_row (C := Tryz.checked) (s := OpenSpec.ofChange Rows.scheduleParsesSpec) Cd.own started (by kernel_rfl) Tryz.func3
  (witness_row_atRef (enc := enc) (C := Tryz.checked) false (World.laidAll Tryz.prog os Rows.scheduleParsesRow.laid) start (World.laidAll_os _ _ _) (by kernel_rfl) (by kernel_rfl) (by kernel_rfl)
   (OpenSpec.preRow_of_cond 8 hx (by kernel_rfl) (fun k hk => by cases hk) (by kernel_rfl) (met os))) ?_
 intro W base args ds gs before hval hW _ _ _ hL hsh _
 exact contract H enc W base args ds gs before hval hW hL hsh
theorem said : Rows.ScheduleParsesSaid :=
 OpenClaim.holds_of_cond 3 Tryz.f3 rfl rfl rfl rfl rfl rfl rfl ⟨rfl, rfl, rfl, rfl, rfl⟩ rfl rfl rfl rfl rfl (by kernel_rfl) Tryz.func3 (by kernel_rfl)
  (of_decide_eq_true (by kernel_rfl)) (by unfold Func.isWrapper; rw [if_neg (of_decide_eq_false (by kernel_rfl))]; exact ⟨rfl, rfl⟩)
  (fun os started H enc _ F => by rw [OpenClaim.pre_eq_preRow]; exact lifted os started H enc F)
theorem plain (f : FuncId) (fn : Func) (hf : Tryz.pinned.checked.prog.funcNamed "confluent/confluentlaw51.ScheduleParses" = some f) (hfn : Tryz.pinned.checked.prog.funcs[f]? = some fn) :
  true = Tryz.pinned.checked.prog.looks [] ∧ ∀ (j : Nat) t, fn.params[j]? = some t → Tryz.pinned.checked.prog.wantsStandIn t = false := by
 obtain rfl : f = 3 := Option.some.inj ((show Tryz.prog.funcNamed "confluent/confluentlaw51.ScheduleParses" = some 3 by kernel_rfl).symm.trans hf) |>.symm
 obtain rfl : fn = Tryz.f3 := (Option.some.inj (Tryz.func3.symm.trans hfn)).symm
 refine ⟨by kernel_rfl, fun j t ht => ?_⟩
 rw [Tryz.params3] at ht
 have h_string : Tryz.prog.wantsStandIn 9 = false := by kernel_rfl
 have hm := Array.mem_of_getElem? ht
 simp only [List.mem_toArray, List.mem_cons, List.not_mem_nil, or_false] at hm
 subst hm
 exact h_string
theorem proved : Rows.ScheduleParsesCardSaid :=
 Claim7.holds_tied_plain_at .later [] _ _ _ _ said (fun _ h => by cases h) (by kernel_rfl) (fun _ h => by cases h) scheduleParses_row_tie rfl ⟨rfl, rfl⟩ (by kernel_rfl) rfl plain (by kernel_rfl)
end Go.Proofs.YteokbngllldmdaaGreatDoor.lawParses
