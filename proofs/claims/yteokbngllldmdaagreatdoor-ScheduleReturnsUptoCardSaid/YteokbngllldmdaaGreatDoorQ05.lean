/-
  A part of the proof. (PsV PtP PtQ PlF PlE PlN PlG PlH PtR PsZ CdReturns PsW PsX CdBlanks)
-/
import Derived.Test.YteokbngllldmdaaGreatDoorQ04
import Derived.Lib.ItoaLen
import Derived.Lib.Replace
import Derived.Lib.Join
import Derived.Lib.ItoaMem
set_option maxRecDepth 10000
set_option linter.unusedSimpArgs false
set_option linter.unusedVariables false
namespace Go.Proofs.YteokbngllldmdaaGreatDoor
namespace Pur
open Go.RowKit
attribute [local go_sem] evOps evOp evOpV evRun evK argF List.map hintAt stripped get put tmpsOf tmpOf tmpO tmpL tmpP conds ev cond_true cond_false Nat.beq Nat.ble Nat.add quiet After thenR blockR IfD List.append_eq List.nil_append List.cons_append evInt exactI_a exactI_b exactI_c exactI_d exactI_e exactI_f evBin evStr evBool evUn guardC calm quiet.isCallK evPick List.getElem?_cons_zero List.getElem?_cons_succ fromCells fromPVs cellsOf List.all oneCell List.length_cons List.length_nil mkAgg plains List.drop List.take List.getD Option.getD_some bo1 bo2 ba1 ba2 bn1 bn2 kk_i64 kk_u8 kk_i32 kk_u64 setAt List.set Nat.reduceAdd Nat.reduceMul evCall safeCall refsOf refsIn scalarA scalar scalarL thawL mapAll thawArg thawRef after freeze RetD RetE evResult evRess evRes1 thaw_pv mkTup nilOf_a nilOf_b nilOf_bb nilOf_c nilOf_d nilOf_e nilOf_f nilOf_g nilOf_h nilOf_i nilOf_j nilOf_k nilOf_l nilOf_m eqLeaf_a eqLeaf_b eqLeaf_c eqOffs evMM bytesOf evOpsF AfterF footOf footRefs notIn indepF footAt freeOk still evParts fillA zeros intOfA boundA srcOf List.isEmpty appNil_0 appNil_1 appNil_2 Int.reduceToNat Nat.mul_one Nat.reduceSub evC evOpsT evOpsTF autoH tabHint look hintD strip guarded RetPD RetRD mpLen keysOk leafKA leafK bitI nilOf_n nilOf_o Bool.or_false Bool.or_true Bool.and_true Bool.and_false Nat.blt renF renM renB renV idxOf solF solM solA solV thawRef ev1
section
open Sch
theorem lineTo_lenV (ns : List Int) (hb : ∀ n ∈ ns, i64 n) : ∀ w : List UInt8, (lineTo w ns).length ≤ w.length + 22 * ns.length := by
 induction ns with
 | nil => intro w; simp [lineTo]
 | cons n r ih =>
  intro w
  have h1 := ih (fun m hm => hb m (List.mem_cons_of_mem _ hm)) (w ++ 32 :: Lib.itoa n)
  have h2 := Lib.itoa_length_le n (hb n List.mem_cons_self).1 (hb n List.mem_cons_self).2
  simp only [lineTo, List.length_append, List.length_cons] at h1 ⊢
  omega
def qText (w : List UInt8) : List Query → List UInt8
 | [] => w
 | q :: r => qText (lineTo (w ++ 32 :: queryWords.getD q.1.toNat []) [q.2]) r
theorem qText_append (a b : List Query) : ∀ w, qText w (a ++ b) = qText (qText w a) b := by
 induction a with
 | nil => intro w; rfl
 | cons q r ih => intro w; exact ih _
theorem qText_take (w : List UInt8) (l : List Query) (k : Nat) (hk : k < l.length) (d : Query) : qText w (l.take (k + 1)) = lineTo (qText w (l.take k) ++ 32 :: queryWords.getD (l.getD k d).1.toNat []) [(l.getD k d).2] := by
 rw [List.take_add_one, qText_append, List.getElem?_eq_getElem hk]
 simp [qText, List.getD, List.getElem?_eq_getElem hk]
theorem qWord_len (k : Nat) : (queryWords.getD k []).length ≤ 7 := by
 match k with
 | 0 => decide
 | 1 => decide
 | 2 => decide
 | k + 3 => simp [queryWords]
theorem qText_len (l : List Query) (h : ∀ q ∈ l, i64 q.2) : ∀ w, (qText w l).length ≤ w.length + 30 * l.length := by
 induction l with
 | nil => intro w; simp [qText]
 | cons q r ih =>
  intro w
  have h1 := ih (fun x hx => h x (List.mem_cons_of_mem _ hx)) (lineTo (w ++ 32 :: queryWords.getD q.1.toNat []) [q.2])
  have h2 := lineTo_lenV [q.2] (by simpa using h q List.mem_cons_self) (w ++ 32 :: queryWords.getD q.1.toNat [])
  have h3 := qWord_len q.1.toNat
  simp only [qText, List.length_append, List.length_cons, List.length_nil] at *
  omega
theorem queries_at (l : List Query) (k : Nat) (hk : k < l.length) (d : Query) : ((l.flatMap queryC).drop (k * 2)).take 2 = queryC (l.getD k d) := by
 refine List.ext_getElem? fun j => ?_
 by_cases hj : j < 2
 ·rw [List.getElem?_take, if_pos hj, List.getElem?_drop, flatMap_get (m := 2) (fun _ => rfl) l k d j hk hj]
 ·rw [List.getElem?_take, if_neg hj, List.getElem?_eq_none (by simp [queryC]; omega)]
def writtenW (x : Step) : List UInt8 :=
 let s := lineTo (kindWords.getD x.kind.toNat []) [x.replica]
 if x.kind = 0 then lineTo s [x.session, x.action] else
 if x.kind = 1 then qText (lineTo s [x.session]) x.queries else
 if x.kind = 2 ∨ x.kind = 3 then lineTo s [x.other] else
 if x.kind = 4 then lineTo (lineTo s [x.after]) x.survive else
 if x.kind = 6 then lineTo s x.voters else s
def writtenP (x : Step) : List UInt8 := lineTo [97, 116] [x.tick] ++ (32 :: writtenW x) ++ [10]
structure Wr (x : Step) : Prop where
 k0 : 0 ≤ x.kind
 k1 : x.kind ≤ 6
 t : i64 x.tick
 r : i64 x.replica
 o : i64 x.other
 s : i64 x.session
 a : i64 x.action
 f : i64 x.after
 qn : x.queries.length ≤ 1000000
 q : ∀ q ∈ x.queries, 0 ≤ q.1 ∧ q.1 ≤ 2 ∧ i64 q.2
 sn : x.survive.length ≤ 1000000
 sv : ∀ n ∈ x.survive, i64 n
 vn : x.voters.length ≤ 1000000
 vv : ∀ n ∈ x.voters, i64 n
def c45 : ACode := (⟨_, by conv => (lhs; reduce; try simp only [lt1, Int.cast_ofNat_Int, Int.reduceNegSucc, UInt8.reduceOfNat])⟩ : {x // codeOf Tryz.prog 45 (fun _ => false) = some x}).1
theorem fn45 : fnOf Tryz.prog 45 (fun _ => false) = some (c45, [.t 2], 97, true) := by kernel_rfl
def sBox (x : Step) : Blk := ⟨(stepC x).map .pv, 0, 10, 41, false⟩
def strB (w : List UInt8) : Blk := ⟨[.pv (.str w)], 0, 1, 9, false⟩
theorem sBox_ok (x : Step) (w : List UInt8) : okMem [sBox x, strB w] 2 = true := by simp [okMem, sBox, strB, stepC, bnd]
theorem say_ok (x : Step) (w : List UInt8) (ns : List Int) (hm : ns.length ≤ 1000000) (hb : ∀ n ∈ ns, i64 n) (hw : w.length ≤ 1000000000000) (μ : AM) (hμ : okMem ([sBox x, strB w] ++ μ) ([sBox x, strB w] ++ μ).length = true) :
  RefOK ctx 83 [.pv (intsP ns), .ptr 1 0 0] ([sBox x, strB w] ++ μ) (.pv (.tup [])) ([sBox x, strB (lineTo w ns)] ++ μ) := by
 have hL := lineTo_lenV ns hb w
 exact written1_ok hμ (c := 1) (g := 0) (w := w) rfl ns hm (fun k => by
  by_cases hk : k < ns.length
  ·rw [List.getD, List.getElem?_eq_getElem hk]; exact hb _ (List.getElem_mem hk)
  ·rw [List.getD, List.getElem?_eq_none (by omega)]; exact ⟨by decide, by decide⟩) hw (by rw [List.length_append]; simp; omega)
set_option maxRecDepth 20000 in
set_option maxHeartbeats 1000000 in
def wEnd : ACode := (⟨_, by conv => (lhs; reduce; try simp only [lt1, Int.cast_ofNat_Int, Int.reduceNegSucc, UInt8.reduceOfNat])⟩ : {x // c45.sub [1, 1, 1, 1, 1, 1] = x}).1
theorem written_fin (x : Step) (ht : i64 x.tick) (s : List UInt8) (hs : s.length ≤ 1000000000000000) (own : Nat → Bool) : Aw ctx own 97 0 wEnd (RetPD [.t 2] (.str (lineTo [97, 116] [x.tick] ++ (32 :: s) ++ [10]))) [(1, .ptr 0 0 0), (5, .ptr 1 0 0)] [sBox x, strB s] := by
 have h1 := line_ok [97, 116] [x.tick] (by simp) (fun k => by
  match k with
  | 0 => exact ht
  | k + 1 => simp [i64]) (by simp)
 have hL := lineTo_lenV [x.tick] (by simpa using ht) [97, 116]
 have h2 := trim_ok (lineTo [97, 116] [x.tick] ++ [10]) [10] (by rw [List.length_append]; simp at hL ⊢; omega)
 rw [trim_line] at h2
 unfold intsP at h1
 refine ev1_aw (T := [(44, fun _ => some (.str (lineTo [97, 116] [x.tick] ++ [10]))), (84, fun _ => some (.str (lineTo [97, 116] [x.tick])))]) (H := []) ?_
 dsimp only [sBox, strB, stepC, go_sem]
 refine ⟨?_, ?_, ?_⟩
 ·generalize lineTo [97, 116] [x.tick] = L at hL ⊢
  simp only [List.length_cons, List.length_nil] at hL
  simp only [VCs, maxI, List.length_append, List.length_cons, List.length_nil]
  refine ⟨by omega, by omega, by omega, by omega, by omega, by omega, by omega, by omega, by omega, trivial⟩
 ·exact ⟨h2, h1, trivial⟩
 refine evA ?_
 dsimp only [go_sem]
 exact ⟨(by first | exact True.intro | (simp only [vb, lb]; omega) | (simp [vb] <;> omega)), by rw [List.append_assoc, List.append_assoc, List.append_assoc]; rfl⟩
theorem vc_step {k : Nat} (hkk : k ≤ 1000000) : VCs [(minI, (k : Int) + 1), ((k : Int) + 1, maxI)] := by
 simp [VCs, minI, maxI]
 omega
attribute [local irreducible] lineTo Lib.itoa
set_option maxHeartbeats 4000000 in
theorem written_ok (x : Step) (h : Wr x) : PureOK ctx 45 [stepP x] (.str (writtenP x)) := by
 have hw := words_ok
 refine pure_body' (C := ctx) (Fn.of fn45 rfl) rfl ?_
 unfold c45
 refine evT [(64, fun _ => some (.tup [wordsP kindWords, wordsP queryWords]))] ?_
 dsimp only [stepP, stepC, go_sem]
 try dsimp only [stepP, stepC, go_sem]
 refine ⟨(by simp [vb, hw] <;> omega), (by simp [vb, hw] <;> omega), ?_⟩
 refine evT [(64, fun _ => some (.tup [wordsP kindWords, wordsP queryWords]))] ?_
 dsimp only [stepP, stepC, go_sem]
 try dsimp only [stepP, stepC, go_sem]
 refine ⟨(by simp [vb, hw] <;> omega), (by simp [vb, hw] <;> omega), ?_⟩
 have e := getD_map PV.str kindWords x.kind.toNat [] default (by have := h.k0; have := h.k1; simp [kindWords]; omega)
 have hk0 := h.k0
 have hk1 := h.k1
 have hkl : kindWords.length = 7 := rfl
 refine evH [(17, { val := some (.pv (.str (kindWords.getD x.kind.toNat []))) })] ?_
 dsimp only [wordsP, go_sem]
 try dsimp only [wordsP, go_sem]
 refine ⟨(by simp [vb, hkl] <;> omega), ?_, ?_⟩
 ·simp only [All, Nat.mul_one, and_true]
  exact congrArg AV.pv e
 generalize hw0 : kindWords.getD x.kind.toNat [] = w0
 have hl0 : w0.length ≤ 7 := by
  subst hw0
  have : ∀ k : Nat, k ≤ 6 → (kindWords.getD k []).length ≤ 7 := by decide
  exact this _ (by omega)
 have hw0' : kindWords[x.kind.toNat]?.getD [] = w0 := hw0
 rw [hw0']
 have hsay := fun w ns h1 h2 h3 => say_ok x w ns h1 h2 h3 [] (sBox_ok x w)
 refine aw_frame [(1, .ptr 0 0 0), (4, .pv (wordsP queryWords)), (5, .ptr 1 0 0)] ⟨rfl, rfl, rfl, trivial⟩ ?_
 have hs1 := hsay w0 [x.replica] (by simp) (by simpa using h.r) (by omega)
 unfold sBox strB stepC at hs1
 refine evA ?_
 dsimp only [go_sem]
 try dsimp only [go_sem]
 refine ⟨(by simp [vb] <;> omega), (by simp [vb] <;> omega), ?_⟩
 refine evH [(23, { val := some (.pv (.tup [])), mem := some [sBox x, strB (lineTo w0 [x.replica])] })] ?_
 dsimp only [go_sem]
 try dsimp only [go_sem]
 refine ⟨(by simp [vb] <;> omega), ?_, ?_⟩
 ·exact ⟨hs1, trivial⟩
 have hs1l := lineTo_lenV [x.replica] (by simpa using h.r) w0
 generalize hws : lineTo w0 [x.replica] = s1 at *
 refine aw_frame [(1, .ptr 0 0 0), (4, .pv (wordsP queryWords)), (5, .ptr 1 0 0), (6, .fn 83 [.ptr 1 0 0])] ⟨rfl, rfl, rfl, rfl, trivial⟩ ?_
 have hres : writtenP x = lineTo [97, 116] [x.tick] ++ (32 :: writtenW x) ++ [10] := rfl
 unfold writtenW at hres
 rw [hw0, hws] at hres
 have hkind : x.kind = 0 ∨ x.kind = 1 ∨ x.kind = 2 ∨ x.kind = 3 ∨ x.kind = 4 ∨ x.kind = 5 ∨ x.kind = 6 := by omega
 rcases hkind with hk | hk | hk | hk | hk | hk | hk
 ·have hb0 : (x.kind == 0) = true := by simp [hk]
  have hs2 := hsay s1 [x.session, x.action] (by simp) (by simpa using ⟨h.s, h.a⟩) (by simp at hs1l; omega)
  refine aw_seq ?_
  refine evA ?_
  dsimp only [sBox, strB, stepC, go_sem]
  try dsimp only [sBox, strB, stepC, go_sem]
  refine ⟨(by simp [vb] <;> omega), (by simp [vb] <;> omega), ?_⟩
  refine aw_block ?_
  unfold sBox strB stepC at hs2
  refine evA ?_
  dsimp only [go_sem]
  try dsimp only [go_sem]
  refine ⟨(by simp [vb] <;> omega), (by simp [vb] <;> omega), ?_⟩
  rw [hb0]
  refine evH [(34, { val := some (.pv (.tup [])), mem := some [sBox x, strB (lineTo s1 [x.session, x.action])] })] ?_
  dsimp only [go_sem]
  refine ⟨fun _ => ?_, fun h => by simp at h <;> omega⟩
  refine evH [(34, { val := some (.pv (.tup [])), mem := some [sBox x, strB (lineTo s1 [x.session, x.action])] })] ?_
  dsimp only [go_sem]
  try dsimp only [go_sem]
  refine ⟨(by simp [vb] <;> omega), ?_, ?_⟩
  ·exact ⟨hs2, trivial⟩
  rw [hres, if_pos hk]
  exact aw_frame [(1, .ptr 0 0 0), (5, .ptr 1 0 0)] ⟨rfl, rfl, trivial⟩ (written_fin x h.t _ (by have := lineTo_lenV [x.session, x.action] (by simpa using ⟨h.s, h.a⟩) s1; simp at this hs1l; omega) _)
 ·have hb0 : (x.kind == 0) = false := by simp [hk]
  have hb1 : (x.kind == 1) = true := by simp [hk]
  have hs2 := hsay s1 [x.session] (by simp) (by simpa using h.s) (by simp at hs1l; omega)
  unfold sBox strB stepC at hs2
  refine aw_seq ?_
  refine evA ?_
  dsimp only [sBox, strB, stepC, go_sem]
  try dsimp only [sBox, strB, stepC, go_sem]
  refine ⟨(by simp [vb] <;> omega), (by simp [vb] <;> omega), ?_⟩
  refine aw_block ?_
  refine evA ?_
  dsimp only [go_sem]
  try dsimp only [go_sem]
  refine ⟨(by simp [vb] <;> omega), (by simp [vb] <;> omega), ?_⟩
  rw [hb0]
  refine evA ?_
  dsimp only [go_sem]
  refine ⟨fun h => by simp at h <;> omega, fun _ => ?_⟩
  refine evA ?_
  dsimp only [go_sem]
  try dsimp only [go_sem]
  refine ⟨(by simp [vb] <;> omega), (by simp [vb] <;> omega), ?_⟩
  rw [hb1]
  refine evH [(41, { val := some (.pv (.tup [])), mem := some [sBox x, strB (lineTo s1 [x.session])] })] ?_
  dsimp only [go_sem]
  refine ⟨fun _ => ?_, fun h => by simp at h <;> omega⟩
  refine evH [(41, { val := some (.pv (.tup [])), mem := some [sBox x, strB (lineTo s1 [x.session])] })] ?_
  dsimp only [go_sem]
  try dsimp only [go_sem]
  refine ⟨(by simp [vb] <;> omega), ?_, ?_⟩
  ·exact ⟨hs2, trivial⟩
  refine evA ?_
  dsimp only [sBox, strB, stepC, queriesP, go_sem]
  try dsimp only [sBox, strB, stepC, queriesP, go_sem]
  refine ⟨(by simp [vb] <;> omega), (by simp [vb] <;> omega), ?_⟩
  refine aw_block ?_
  generalize hs2w : lineTo s1 [x.session] = s2 at *
  refine aw_forP x.queries.length (fun _ => True) (fun k => [(1, .ptr 0 0 0), (4, .pv (wordsP queryWords)), (5, .ptr 1 0 0), (6, .fn 83 [.ptr 1 0 0]), (43, .pv (queriesP x.queries)), (44, .pv (.int .i64 x.queries.length)), (45, .pv (.int .i64 k))]) (fun k => [sBox x, strB (qText s2 (x.queries.take k))]) trivial ⟨rfl, rfl, rfl, rfl, rfl, rfl, rfl, trivial⟩ rfl fun k hkn _ => ?_
  by_cases hlt : k < x.queries.length
  ·have hd : decide ((k : Int) < x.queries.length) = true := by simp; omega
   have hqv := h.q (x.queries.getD k (0, 0)) (by rw [List.getD, List.getElem?_eq_getElem hlt]; exact List.getElem_mem hlt)
   have hT := qText_take s2 x.queries k hlt (0, 0)
   generalize hq : x.queries.getD k (0, 0) = q at *
   refine evA ?_
   dsimp only [queriesP, sBox, strB, stepC, go_sem]
   try dsimp only [queriesP, sBox, strB, stepC, go_sem]
   refine ⟨(by simp [vb] <;> omega), (by simp [vb] <;> omega), ?_⟩
   rw [hd]
   refine evA ?_
   dsimp only [go_sem]
   refine ⟨fun _ => ?_, fun h => by simp at h <;> omega⟩
   refine evA ?_
   dsimp only [go_sem]
   refine aw_seq ?_
   refine aw_block ?_
   refine evH [(48, { val := some (.pv (.agg [.int .i64 q.1, .int .i64 q.2])) })] ?_
   dsimp only [queriesP, go_sem]
   try dsimp only [queriesP, go_sem]
   refine ⟨(by simp [vb, hlt, flatMap_length queryC_len] <;> omega), ?_, ?_⟩
   ·refine ⟨?_, trivial⟩
    rw [Int.toNat_natCast, queries_at _ _ hlt (0, 0), hq]
    rfl
   generalize hpre : qText s2 (x.queries.take k) = pre at *
   have eq := getD_map PV.str queryWords q.1.toNat [] default (by simp [queryWords]; omega)
   have hql : queryWords.length = 3 := rfl
   have hpl : pre.length ≤ 1000000000 := by
    have h1 := qText_len (x.queries.take k) (fun q hq => (h.q q (List.mem_of_mem_take hq)).2.2) s2
    have h2 := lineTo_lenV [x.session] (by simpa using h.s) s1
    have h3 := h.qn
    have h4 : (x.queries.take k).length ≤ x.queries.length := by simp; omega
    rw [hpre] at h1
    rw [hs2w] at h2
    simp only [List.length_cons, List.length_nil] at h2 hs1l
    omega
   have hwl := qWord_len q.1.toNat
   refine ev1_aw (T := []) (H := [(54, { val := some (.pv (.str (queryWords.getD q.1.toNat []))) })]) ?_
   dsimp only [wordsP, go_sem]
   simp only [List.getD] at hwl eq hT
   generalize queryWords[q.1.toNat]?.getD [] = qw at *
   refine ⟨?_, ?_, ?_⟩
   ·have h1 := hqv.1
    have h2 := hqv.2.1
    simp only [VCs, maxI, List.length_map, hql]
    refine ⟨by omega, by omega, by omega, by omega, by omega, by omega, by omega, by omega, by omega, by omega, by omega, by omega, by omega, by omega, trivial⟩
   ·simp only [All, Nat.mul_one, and_true]
    exact congrArg AV.pv eq
   have hs3 := say_ok x (pre ++ 32 :: qw) [q.2] (by simp) (by simpa using hqv.2.2) (by rw [List.length_append, List.length_cons]; omega) [⟨[.pv (.int .i64 q.1), .pv (.int .i64 q.2)], 0, 2, 55, false⟩] (by simp [okMem, sBox, strB, stepC, bnd])
   unfold sBox strB stepC at hs3
   refine evH [(61, { val := some (.pv (.tup [])), mem := some ([sBox x, strB (lineTo (pre ++ 32 :: qw) [q.2])] ++ [⟨[.pv (.int .i64 q.1), .pv (.int .i64 q.2)], 0, 2, 55, false⟩]) })] ?_
   dsimp only [go_sem]
   try dsimp only [go_sem]
   refine ⟨(by simp [vb] <;> omega), ?_, ?_⟩
   ·exact ⟨hs3, trivial⟩
   refine aw_keep [0, 1] rfl ?_
   refine ev1_aw (T := []) (H := []) ?_
   dsimp only [sBox, strB, stepC, go_sem]
   have hkk : k ≤ 1000000 := by have := h.qn; omega
   refine ⟨?_, trivial, ?_⟩
   ·exact vc_step hkk
   refine ⟨hlt, trivial, ⟨rfl, rfl, rfl, rfl, rfl, rfl, rfl, trivial⟩, ?_⟩
   rw [hT]
   rfl
  ·have hd : decide ((k : Int) < x.queries.length) = false := by simp; omega
   have hkl2 : k = x.queries.length := by omega
   subst hkl2
   rw [List.take_length]
   refine evA ?_
   dsimp only [queriesP, go_sem]
   try dsimp only [queriesP, go_sem]
   refine ⟨(by simp [vb] <;> omega), (by simp [vb] <;> omega), ?_⟩
   rw [hd]
   refine evA ?_
   dsimp only [go_sem]
   refine ⟨fun h => by simp at h <;> omega, fun _ => ?_⟩
   refine evA ?_
   dsimp only [go_sem]
   rw [hres, if_neg (by omega), if_pos hk, hs2w]
   exact aw_frame [(1, .ptr 0 0 0), (5, .ptr 1 0 0)] ⟨rfl, rfl, trivial⟩ (written_fin x h.t _ (by
    have := qText_len x.queries (fun q hq => (h.q q hq).2.2) s2
    have := lineTo_lenV [x.session] (by simpa using h.s) s1
    have := h.qn
    rw [hs2w] at *
    simp at *
    omega) _)
 ·have hb0 : (x.kind == 0) = false := by simp [hk]
  have hb1 : (x.kind == 1) = false := by simp [hk]
  have hb2 : (x.kind == 2) = true := by simp [hk]
  have hs2 := hsay s1 [x.other] (by simp) (by simpa using h.o) (by simp at hs1l; omega)
  refine aw_seq ?_
  refine evA ?_
  dsimp only [sBox, strB, stepC, go_sem]
  try dsimp only [sBox, strB, stepC, go_sem]
  refine ⟨(by simp [vb] <;> omega), (by simp [vb] <;> omega), ?_⟩
  refine aw_block ?_
  unfold sBox strB stepC at hs2
  refine evA ?_
  dsimp only [go_sem]
  try dsimp only [go_sem]
  refine ⟨(by simp [vb] <;> omega), (by simp [vb] <;> omega), ?_⟩
  rw [hb0]
  refine evA ?_
  dsimp only [go_sem]
  refine ⟨fun h => by simp at h <;> omega, fun _ => ?_⟩
  refine evA ?_
  dsimp only [go_sem]
  try dsimp only [go_sem]
  refine ⟨(by simp [vb] <;> omega), (by simp [vb] <;> omega), ?_⟩
  rw [hb1]
  refine evA ?_
  dsimp only [go_sem]
  refine ⟨fun h => by simp at h <;> omega, fun _ => ?_⟩
  refine evA ?_
  dsimp only [go_sem]
  try dsimp only [go_sem]
  refine ⟨(by simp [vb] <;> omega), (by simp [vb] <;> omega), ?_⟩
  rw [hb2]
  iterate 5 first
   | refine ⟨fun _ => ?_, fun h => by simp at h <;> omega⟩
   | (refine evH [(70, { val := some (.pv (.tup [])), mem := some [sBox x, strB (lineTo s1 [x.other])] })] ?_; iterate 2 (try dsimp only [go_sem]))
  refine evH [(70, { val := some (.pv (.tup [])), mem := some [sBox x, strB (lineTo s1 [x.other])] })] ?_
  dsimp only [go_sem]
  try dsimp only [go_sem]
  refine ⟨(by simp [vb] <;> omega), ?_, ?_⟩
  ·exact ⟨hs2, trivial⟩
  rw [hres, if_neg (by omega), if_neg (by omega), if_pos (by omega)]
  exact aw_frame [(1, .ptr 0 0 0), (5, .ptr 1 0 0)] ⟨rfl, rfl, trivial⟩ (written_fin x h.t _ (by have := lineTo_lenV [x.other] (by simpa using h.o) s1; simp at this hs1l; omega) _)
 ·have hq : True := trivial
  have hb0 : (x.kind == 0) = false := by simp [hk]
  have hb1 : (x.kind == 1) = false := by simp [hk]
  have hb2 : (x.kind == 2) = false := by simp [hk]
  have hb3 : (x.kind == 3) = true := by simp [hk]
  have hs2 := hsay s1 [x.other] (by simp) (by simpa using h.o) (by simp at hs1l; omega)
  unfold sBox strB stepC at hs2
  refine aw_seq ?_
  refine evA ?_
  dsimp only [sBox, strB, stepC, go_sem]
  try dsimp only [sBox, strB, stepC, go_sem]
  refine ⟨(by simp [vb] <;> omega), (by simp [vb] <;> omega), ?_⟩
  refine aw_block ?_
  refine evA ?_
  dsimp only [go_sem]
  try dsimp only [go_sem]
  refine ⟨(by simp [vb] <;> omega), (by simp [vb] <;> omega), ?_⟩
  rw [hb0]
  refine evA ?_
  dsimp only [go_sem]
  refine ⟨fun h => by simp at h <;> omega, fun _ => ?_⟩
  refine evA ?_
  dsimp only [go_sem]
  try dsimp only [go_sem]
  refine ⟨(by simp [vb] <;> omega), (by simp [vb] <;> omega), ?_⟩
  rw [hb1]
  refine evA ?_
  dsimp only [go_sem]
  refine ⟨fun h => by simp at h <;> omega, fun _ => ?_⟩
  refine evA ?_
  dsimp only [go_sem]
  try dsimp only [go_sem]
  refine ⟨(by simp [vb] <;> omega), (by simp [vb] <;> omega), ?_⟩
  rw [hb2]
  refine evA ?_
  dsimp only [go_sem]
  refine ⟨fun h => by simp at h <;> omega, fun _ => ?_⟩
  refine evA ?_
  dsimp only [go_sem]
  try dsimp only [go_sem]
  refine ⟨(by simp [vb] <;> omega), (by simp [vb] <;> omega), ?_⟩
  rw [hb3]
  refine evH [(70, { val := some (.pv (.tup [])), mem := some [sBox x, strB (lineTo s1 [x.other])] })] ?_
  dsimp only [go_sem]
  refine ⟨fun _ => ?_, fun h => by simp at h <;> omega⟩
  refine evH [(70, { val := some (.pv (.tup [])), mem := some [sBox x, strB (lineTo s1 [x.other])] })] ?_
  dsimp only [go_sem]
  try dsimp only [go_sem]
  refine ⟨(by simp [vb] <;> omega), ?_, ?_⟩
  ·exact ⟨hs2, trivial⟩
  rw [hres, if_neg (by omega), if_neg (by omega), if_pos (by omega)]
  exact aw_frame [(1, .ptr 0 0 0), (5, .ptr 1 0 0)] ⟨rfl, rfl, trivial⟩ (written_fin x h.t _ (by have := lineTo_lenV [x.other] (by simpa using h.o) s1; simp at this hs1l; omega) _)
 ·have hq : True := trivial
  have hb0 : (x.kind == 0) = false := by simp [hk]
  have hb1 : (x.kind == 1) = false := by simp [hk]
  have hb2 : (x.kind == 2) = false := by simp [hk]
  have hb3 : (x.kind == 3) = false := by simp [hk]
  have hb4 : (x.kind == 4) = true := by simp [hk]
  have hl2 := lineTo_lenV [x.after] (by simpa using h.f) s1
  have hs2 := hsay s1 [x.after] (by simp) (by simpa using h.f) (by simp at hs1l; omega)
  have hs3 := hsay (lineTo s1 [x.after]) x.survive h.sn h.sv (by simp at hs1l hl2; omega)
  unfold sBox strB stepC at hs2 hs3
  refine aw_seq ?_
  refine evA ?_
  dsimp only [sBox, strB, stepC, go_sem]
  try dsimp only [sBox, strB, stepC, go_sem]
  refine ⟨(by simp [vb] <;> omega), (by simp [vb] <;> omega), ?_⟩
  refine aw_block ?_
  refine evA ?_
  dsimp only [go_sem]
  try dsimp only [go_sem]
  refine ⟨(by simp [vb] <;> omega), (by simp [vb] <;> omega), ?_⟩
  rw [hb0]
  refine evA ?_
  dsimp only [go_sem]
  refine ⟨fun h => by simp at h <;> omega, fun _ => ?_⟩
  refine evA ?_
  dsimp only [go_sem]
  try dsimp only [go_sem]
  refine ⟨(by simp [vb] <;> omega), (by simp [vb] <;> omega), ?_⟩
  rw [hb1]
  refine evA ?_
  dsimp only [go_sem]
  refine ⟨fun h => by simp at h <;> omega, fun _ => ?_⟩
  refine evA ?_
  dsimp only [go_sem]
  try dsimp only [go_sem]
  refine ⟨(by simp [vb] <;> omega), (by simp [vb] <;> omega), ?_⟩
  rw [hb2]
  refine evA ?_
  dsimp only [go_sem]
  refine ⟨fun h => by simp at h <;> omega, fun _ => ?_⟩
  refine evA ?_
  dsimp only [go_sem]
  try dsimp only [go_sem]
  refine ⟨(by simp [vb] <;> omega), (by simp [vb] <;> omega), ?_⟩
  rw [hb3]
  refine evA ?_
  dsimp only [go_sem]
  refine ⟨fun h => by simp at h <;> omega, fun _ => ?_⟩
  refine evA ?_
  dsimp only [go_sem]
  try dsimp only [go_sem]
  refine ⟨(by simp [vb] <;> omega), (by simp [vb] <;> omega), ?_⟩
  rw [hb4]
  refine evH [(77, { val := some (.pv (.tup [])), mem := some [sBox x, strB (lineTo s1 [x.after])] })] ?_
  dsimp only [go_sem]
  refine ⟨fun _ => ?_, fun h => by simp at h <;> omega⟩
  refine evH [(77, { val := some (.pv (.tup [])), mem := some [sBox x, strB (lineTo s1 [x.after])] })] ?_
  dsimp only [go_sem]
  try dsimp only [go_sem]
  refine ⟨(by simp [vb] <;> omega), ?_, ?_⟩
  ·exact ⟨hs2, trivial⟩
  refine evH [(81, { val := some (.pv (.tup [])), mem := some [sBox x, strB (lineTo (lineTo s1 [x.after]) x.survive)] })] ?_
  dsimp only [sBox, strB, stepC, go_sem]
  try dsimp only [sBox, strB, stepC, go_sem]
  refine ⟨(by simp [vb] <;> omega), ?_, ?_⟩
  ·exact ⟨hs3, trivial⟩
  rw [hres, if_neg (by omega), if_neg (by omega), if_neg (by omega), if_pos (by omega)]
  exact aw_frame [(1, .ptr 0 0 0), (5, .ptr 1 0 0)] ⟨rfl, rfl, trivial⟩ (written_fin x h.t _ (by have := lineTo_lenV x.survive h.sv (lineTo s1 [x.after]); have := h.sn; simp at hl2 hs1l; omega) _)
 ·have hq : True := trivial
  have hb0 : (x.kind == 0) = false := by simp [hk]
  have hb1 : (x.kind == 1) = false := by simp [hk]
  have hb2 : (x.kind == 2) = false := by simp [hk]
  have hb3 : (x.kind == 3) = false := by simp [hk]
  have hb4 : (x.kind == 4) = false := by simp [hk]
  have hb6 : (x.kind == 6) = false := by simp [hk]
  refine aw_seq ?_
  refine evA ?_
  dsimp only [sBox, strB, stepC, go_sem]
  try dsimp only [sBox, strB, stepC, go_sem]
  refine ⟨(by simp [vb] <;> omega), (by simp [vb] <;> omega), ?_⟩
  refine aw_block ?_
  refine evA ?_
  dsimp only [go_sem]
  try dsimp only [go_sem]
  refine ⟨(by simp [vb] <;> omega), (by simp [vb] <;> omega), ?_⟩
  rw [hb0]
  refine evA ?_
  dsimp only [go_sem]
  refine ⟨fun h => by simp at h <;> omega, fun _ => ?_⟩
  refine evA ?_
  dsimp only [go_sem]
  try dsimp only [go_sem]
  refine ⟨(by simp [vb] <;> omega), (by simp [vb] <;> omega), ?_⟩
  rw [hb1]
  refine evA ?_
  dsimp only [go_sem]
  refine ⟨fun h => by simp at h <;> omega, fun _ => ?_⟩
  refine evA ?_
  dsimp only [go_sem]
  try dsimp only [go_sem]
  refine ⟨(by simp [vb] <;> omega), (by simp [vb] <;> omega), ?_⟩
  rw [hb2]
  refine evA ?_
  dsimp only [go_sem]
  refine ⟨fun h => by simp at h <;> omega, fun _ => ?_⟩
  refine evA ?_
  dsimp only [go_sem]
  try dsimp only [go_sem]
  refine ⟨(by simp [vb] <;> omega), (by simp [vb] <;> omega), ?_⟩
  rw [hb3]
  refine evA ?_
  dsimp only [go_sem]
  refine ⟨fun h => by simp at h <;> omega, fun _ => ?_⟩
  refine evA ?_
  dsimp only [go_sem]
  try dsimp only [go_sem]
  refine ⟨(by simp [vb] <;> omega), (by simp [vb] <;> omega), ?_⟩
  rw [hb4]
  refine evA ?_
  dsimp only [go_sem]
  refine ⟨fun h => by simp at h <;> omega, fun _ => ?_⟩
  refine evA ?_
  dsimp only [go_sem]
  try dsimp only [go_sem]
  refine ⟨(by simp [vb] <;> omega), (by simp [vb] <;> omega), ?_⟩
  rw [hb6]
  refine evA ?_
  dsimp only [go_sem]
  refine ⟨fun h => by simp at h <;> omega, fun _ => ?_⟩
  refine evA ?_
  dsimp only [go_sem]
  rw [hres, if_neg (by omega), if_neg (by omega), if_neg (by omega), if_neg (by omega), if_neg (by omega)]
  exact aw_frame [(1, .ptr 0 0 0), (5, .ptr 1 0 0)] ⟨rfl, rfl, trivial⟩ (written_fin x h.t _ (by simp at hs1l; omega) _)
 ·have hq : True := trivial
  have hb0 : (x.kind == 0) = false := by simp [hk]
  have hb1 : (x.kind == 1) = false := by simp [hk]
  have hb2 : (x.kind == 2) = false := by simp [hk]
  have hb3 : (x.kind == 3) = false := by simp [hk]
  have hb4 : (x.kind == 4) = false := by simp [hk]
  have hb6 : (x.kind == 6) = true := by simp [hk]
  have hs2 := hsay s1 x.voters h.vn h.vv (by simp at hs1l; omega)
  unfold sBox strB stepC at hs2
  refine aw_seq ?_
  refine evA ?_
  dsimp only [sBox, strB, stepC, go_sem]
  try dsimp only [sBox, strB, stepC, go_sem]
  refine ⟨(by simp [vb] <;> omega), (by simp [vb] <;> omega), ?_⟩
  refine aw_block ?_
  refine evA ?_
  dsimp only [go_sem]
  try dsimp only [go_sem]
  refine ⟨(by simp [vb] <;> omega), (by simp [vb] <;> omega), ?_⟩
  rw [hb0]
  refine evA ?_
  dsimp only [go_sem]
  refine ⟨fun h => by simp at h <;> omega, fun _ => ?_⟩
  refine evA ?_
  dsimp only [go_sem]
  try dsimp only [go_sem]
  refine ⟨(by simp [vb] <;> omega), (by simp [vb] <;> omega), ?_⟩
  rw [hb1]
  refine evA ?_
  dsimp only [go_sem]
  refine ⟨fun h => by simp at h <;> omega, fun _ => ?_⟩
  refine evA ?_
  dsimp only [go_sem]
  try dsimp only [go_sem]
  refine ⟨(by simp [vb] <;> omega), (by simp [vb] <;> omega), ?_⟩
  rw [hb2]
  refine evA ?_
  dsimp only [go_sem]
  refine ⟨fun h => by simp at h <;> omega, fun _ => ?_⟩
  refine evA ?_
  dsimp only [go_sem]
  try dsimp only [go_sem]
  refine ⟨(by simp [vb] <;> omega), (by simp [vb] <;> omega), ?_⟩
  rw [hb3]
  refine evA ?_
  dsimp only [go_sem]
  refine ⟨fun h => by simp at h <;> omega, fun _ => ?_⟩
  refine evA ?_
  dsimp only [go_sem]
  try dsimp only [go_sem]
  refine ⟨(by simp [vb] <;> omega), (by simp [vb] <;> omega), ?_⟩
  rw [hb4]
  refine evA ?_
  dsimp only [go_sem]
  refine ⟨fun h => by simp at h <;> omega, fun _ => ?_⟩
  refine evA ?_
  dsimp only [go_sem]
  try dsimp only [go_sem]
  refine ⟨(by simp [vb] <;> omega), (by simp [vb] <;> omega), ?_⟩
  rw [hb6]
  refine evH [(87, { val := some (.pv (.tup [])), mem := some [sBox x, strB (lineTo s1 x.voters)] })] ?_
  dsimp only [go_sem]
  refine ⟨fun _ => ?_, fun h => by simp at h <;> omega⟩
  refine evH [(87, { val := some (.pv (.tup [])), mem := some [sBox x, strB (lineTo s1 x.voters)] })] ?_
  dsimp only [go_sem]
  try dsimp only [go_sem]
  refine ⟨(by simp [vb] <;> omega), ?_, ?_⟩
  ·exact ⟨hs2, trivial⟩
  rw [hres, if_neg (by omega), if_neg (by omega), if_neg (by omega), if_neg (by omega), if_pos (by omega)]
  exact aw_frame [(1, .ptr 0 0 0), (5, .ptr 1 0 0)] ⟨rfl, rfl, trivial⟩ (written_fin x h.t _ (by have := lineTo_lenV x.voters h.vv s1; have := h.vn; simp at hs1l; omega) _)
end
section
open Sch
def c13 : ACode := (⟨_, by conv => (lhs; reduce; try simp only [lt1, Int.cast_ofNat_Int, Int.reduceNegSucc, UInt8.reduceOfNat])⟩ : {x // codeOf Tryz.prog 13 (fun _ => false) = some x}).1
theorem fn13 : fnOf Tryz.prog 13 (fun _ => false) = some (c13, [.t 2, .t 3], 78, true) := by kernel_rfl
def wReplicas : List UInt8 := [114, 101, 112, 108, 105, 99, 97, 115]
def wSessions : List UInt8 := [115, 101, 115, 115, 105, 111, 110, 115]
def wSectors : List UInt8 := [115, 101, 99, 116, 111, 114, 115]
def wTicks : List UInt8 := [116, 105, 99, 107, 115]
def wState : List UInt8 := [115, 116, 97, 116, 101]
def wFate : List UInt8 := [102, 97, 116, 101]
def wDrop : List UInt8 := [102, 97, 116, 101, 32, 100, 114, 111, 112, 10]
def lineP1 (w : List UInt8) (ns : List Int) : List UInt8 := lineTo w ns ++ [10]
def headText (s : Sched) : List UInt8 := lineP1 wReplicas [s.replicas] ++ lineP1 wSessions [s.sessions] ++ lineP1 wSectors [s.sectors] ++ lineP1 wTicks [s.ticks] ++ lineP1 wState s.state
def fateText (f : Fate) : List UInt8 := if f.drop then wDrop else if f.again = 0 then lineP1 wFate [f.delay] else lineP1 wFate [f.delay, f.again]
def fmtText (s : Sched) : List UInt8 := headText s ++ s.fates.flatMap fateText ++ s.steps.flatMap writtenP
def formatP (s : Sched) : List UInt8 × Int := if valid s then (if 65536 < (fmtText s).length then ([], 8) else (fmtText s, 0)) else ([], 1)
structure Fm (s : Sched) : Prop where
 a : i64 s.replicas
 b : i64 s.sessions
 c : i64 s.sectors
 d : i64 s.ticks
 sn : s.state.length ≤ 128
 st : ∀ n ∈ s.state, i64 n
 fn : s.fates.length ≤ 256
 f : ∀ x ∈ s.fates, i64 x.delay ∧ i64 x.again
 pn : s.steps.length ≤ 256
 p : ∀ x ∈ s.steps, Wr x
theorem lineP1_len (w : List UInt8) (ns : List Int) (h : ∀ n ∈ ns, i64 n) : (lineP1 w ns).length ≤ w.length + 22 * ns.length + 1 := by
 have := lineTo_lenV ns h w
 simp only [lineP1, List.length_append, List.length_cons, List.length_nil]
 omega
theorem lineP1_ok (w : List UInt8) (ns : List Int) (h : ∀ n ∈ ns, i64 n) (hn : ns.length ≤ 1000000) (hw : w.length ≤ 1000) : PureOK ctx 44 [.str w, intsP ns] (.str (lineP1 w ns)) :=
 line_ok w ns hn (fun k => by
  by_cases hk : k < ns.length
  ·exact h _ (getD_mem hk)
  ·rw [List.getD, List.getElem?_eq_none (by omega)]; exact ⟨by decide, by decide⟩) (by omega)
theorem fateText_len (f : Fate) (h : i64 f.delay ∧ i64 f.again) : (fateText f).length ≤ 100 := by
 unfold fateText
 split
 ·decide
 ·split
  ·have := lineP1_len wFate [f.delay] (by simpa using h.1)
   have hw : wFate.length = 4 := rfl
   simp only [List.length_cons, List.length_nil] at this
   omega
  ·have := lineP1_len wFate [f.delay, f.again] (by simpa using h)
   have hw : wFate.length = 4 := rfl
   simp only [List.length_cons, List.length_nil] at this
   omega
theorem writtenP_len (x : Step) (h : Wr x) : (writtenP x).length ≤ 100000000 := by
 have h1 := lineTo_lenV [x.tick] (by simpa using h.t) [97, 116]
 have hk : (kindWords.getD x.kind.toNat []).length ≤ 7 := by
  have : ∀ k : Nat, k ≤ 6 → (kindWords.getD k []).length ≤ 7 := by decide
  exact this _ (by have := h.k0; have := h.k1; omega)
 have h2 := lineTo_lenV [x.replica] (by simpa using h.r) (kindWords.getD x.kind.toNat [])
 have hW : (writtenW x).length ≤ 60000000 := by
  unfold writtenW
  generalize kindWords.getD x.kind.toNat [] = w0 at *
  generalize lineTo w0 [x.replica] = s1 at *
  simp only [List.length_cons, List.length_nil] at h2
  dsimp only
  have g1 := lineTo_lenV [x.session, x.action] (by simpa using ⟨h.s, h.a⟩) s1
  have g2 := lineTo_lenV [x.session] (by simpa using h.s) s1
  have g3 := qText_len x.queries (fun q hq => (h.q q hq).2.2) (lineTo s1 [x.session])
  have g4 := lineTo_lenV [x.other] (by simpa using h.o) s1
  have g5 := lineTo_lenV [x.after] (by simpa using h.f) s1
  have g6 := lineTo_lenV x.survive h.sv (lineTo s1 [x.after])
  have g7 := lineTo_lenV x.voters h.vv s1
  have := h.qn; have := h.sn; have := h.vn
  simp only [List.length_cons, List.length_nil] at g1 g2 g4 g5
  repeat' split
  all_goals omega
 unfold writtenP
 simp only [List.length_append, List.length_cons, List.length_nil] at h1 ⊢
 omega
theorem flat_len {α : Type} {g : α → List UInt8} {m : Nat} (l : List α) (h : ∀ x ∈ l, (g x).length ≤ m) : (l.flatMap g).length ≤ l.length * m := by
 induction l with
 | nil => simp
 | cons x r ih =>
  have h1 := h x List.mem_cons_self
  have h2 := ih fun y hy => h y (List.mem_cons_of_mem _ hy)
  rw [List.flatMap_cons, List.length_append, List.length_cons, Nat.succ_mul]
  omega
def sB7 (s : Sched) : Blk := ⟨[.pv (.int .i64 s.replicas), .pv (.int .i64 s.sessions), .pv (.int .i64 s.sectors), .pv (.int .i64 s.ticks), .pv (intsP s.state), .pv (fatesP s.fates), .pv (stepsP s.steps)], 0, 7, 27, false⟩
def fmM (s : Sched) (x : List UInt8) (j : Nat) : AM := [sB7 s, bldB (.ptr 1 0 0) (.ref 2 j 0 x.length) 0, rowB x j]
theorem fm_write (s : Sched) (x l : List UInt8) (j : Nat) (tl : AM) (htl : okMem (fmM s x j ++ tl) (fmM s x j ++ tl).length = true) (hl : x.length + l.length ≤ 140737488355328) :
  RefOK ctx 43 [.ptr 1 0 0, .pv (.str l)] (fmM s x j ++ tl) (.pv (.tup [.int .i64 l.length, .val .nilIface])) (fmM s (x ++ l) (j + 1) ++ tl) := by
 have := write_more htl (b := 1) (g := 0) (r := 2) (j := j) (old := x) (by decide) rfl rfl l hl
 simpa [fmM] using this
theorem fmM_ok (s : Sched) (x : List UInt8) (j : Nat) : okMem (fmM s x j) (fmM s x j).length = true := by
 simp [okMem, fmM, sB7, bldB, rowB, bnd, Nat.blt, byteA_bnd]
set_option maxHeartbeats 4000000 in
theorem format_no (s : Sched) (hv : PureOK ctx 12 [schedP s] (.bool false)) : PureOK ctx 13 [schedP s] (.tup [.str [], .int .i64 1]) := by
  refine pure_body' (C := ctx) (Fn.of fn13 rfl) rfl ?_
  unfold c13
  repeat' (first
    | ((with_reducible first | show VCs _ | show All _); (try dsimp only [go_sem]); first | (simp [vb, hv] <;> omega) | (simp only [vb, and_true, true_implies]; (repeat' (first | (with_reducible assumption) | (with_reducible apply And.intro) | intro _ | ((fail_if_success (with_reducible show (_ : Int) ≤ _)); assumption))) <;> first | omega | (simp only [ab, hv]; done) | (simp [hv] <;> omega)))
    | exact (rfl : some _ = _)
    | (fail_if_success refine awL ?_
       refine evT [(12, fun _ => some (.bool false))] ?_
       repeat1' dsimp only [c13, schedP, go_sem]
       first
       | refine aw4 ?_ ?_ rfl ?_
       | apply aw3
       | apply aw2
       | (refine awB (fun hc => ?_) fun hc => ?_ <;> first | (cases hc; done) | (exfalso; simp [hv] at hc <;> omega) | (try simp only [bn] at hc; try contradiction))
       | skip))
set_option maxHeartbeats 4000000 in
theorem format_yes (s : Sched) (h : Fm s) (hv : PureOK ctx 12 [schedP s] (.bool true)) : PureOK ctx 13 [schedP s] (.tup [.str (if 65536 < (fmtText s).length then [] else fmtText s), .int .i64 (if 65536 < (fmtText s).length then 8 else 0)]) := by
  have h1 := lineP1_ok wReplicas [s.replicas] (by simpa using h.a) (by simp) (by decide)
  have h2 := lineP1_ok wSessions [s.sessions] (by simpa using h.b) (by simp) (by decide)
  have h3 := lineP1_ok wSectors [s.sectors] (by simpa using h.c) (by simp) (by decide)
  have h4 := lineP1_ok wTicks [s.ticks] (by simpa using h.d) (by simp) (by decide)
  have h5 := lineP1_ok wState s.state h.st (by have := h.sn; omega) (by decide)
  have l1 := lineP1_len wReplicas [s.replicas] (by simpa using h.a)
  have l2 := lineP1_len wSessions [s.sessions] (by simpa using h.b)
  have l3 := lineP1_len wSectors [s.sectors] (by simpa using h.c)
  have l4 := lineP1_len wTicks [s.ticks] (by simpa using h.d)
  have l5 := lineP1_len wState s.state h.st
  have hsn := h.sn
  have p5 : 1 ≤ (lineP1 wState s.state).length := by simp [lineP1]
  have hHL : (headText s).length ≤ 5000 := by
    have e1 : wReplicas.length = 8 := rfl
    have e2 : wSessions.length = 8 := rfl
    have e3 : wSectors.length = 7 := rfl
    have e4 : wTicks.length = 5 := rfl
    have e5 : wState.length = 5 := rfl
    simp only [headText, List.length_append, List.length_cons, List.length_nil] at l1 l2 l3 l4 l5 ⊢
    omega
  have hHT : headText s = lineP1 wReplicas [s.replicas] ++ lineP1 wSessions [s.sessions] ++ lineP1 wSectors [s.sectors] ++ lineP1 wTicks [s.ticks] ++ lineP1 wState s.state := rfl
  simp only [wReplicas, wSessions, wSectors, wTicks, wState, List.length_cons, List.length_nil] at l1 l2 l3 l4 l5 h1 h2 h3 h4 h5 hHT p5
  generalize lineP1 [114, 101, 112, 108, 105, 99, 97, 115] [s.replicas] = L1 at *
  generalize lineP1 [115, 101, 115, 115, 105, 111, 110, 115] [s.sessions] = L2 at *
  generalize lineP1 [115, 101, 99, 116, 111, 114, 115] [s.sectors] = L3 at *
  generalize lineP1 [116, 105, 99, 107, 115] [s.ticks] = L4 at *
  generalize lineP1 [115, 116, 97, 116, 101] s.state = L5 at *
  have hw := write_first (μ := [sB7 s, bldB (.pv (.val (.pointer none))) (.pv .nilsl) 0]) (by simp [okMem, sB7, bldB, bnd]) (b := 1) (g := 0) rfl (L1 ++ L2 ++ L3 ++ L4 ++ L5) (by simp only [List.length_append]; omega) (by simp only [List.length_append]; omega)
  refine pure_body' (C := ctx) (Fn.of fn13 rfl) rfl ?_
  unfold c13
  refine evT [(12, fun _ => some (.bool true))] ?_
  dsimp only [schedP, go_sem]
  try dsimp only [schedP, go_sem]
  refine ⟨(by simp [vb, hv] <;> omega), (by simp [vb, hv] <;> omega), ?_⟩
  refine evT [(12, fun _ => some (.bool true))] ?_
  dsimp only [schedP, go_sem]
  try dsimp only [schedP, go_sem]
  refine ⟨(by first | exact True.intro | (simp only [vb, lb]; omega) | (simp only [vb, lb, hv]; and_intros <;> first | omega | (simp <;> omega)) | (simp [vb, hv] <;> omega)), (by first | exact True.intro | ((try dsimp only [go_sem]); first | (simp [vb, hv] <;> omega) | (simp only [vb, and_true, true_implies]; (repeat' (first | (with_reducible assumption) | (with_reducible apply And.intro) | intro _ | ((fail_if_success (with_reducible show (_ : Int) ≤ _)); assumption))) <;> first | omega | rfl | (simp only [ab, hv]; done) | (simp [Nat.mul_one, hv] <;> omega) | (simp_all; done)))), ?_⟩
  iterate 5 first
    | refine ⟨fun h => by simp at h <;> omega, fun _ => ?_⟩
    | refine ⟨by simp [vb] <;> omega, by simp [vb] <;> omega, ?_⟩
    | (refine evH [(15, { val := some (.pv (.str L1)) }), (19, { val := some (.pv (.str L2)) }), (24, { val := some (.pv (.str L3)) }), (29, { val := some (.pv (.str L4)) }), (33, { val := some (.pv (.str L5)) }), (35, { val := some (.pv (.tup [.int .i64 (L1 ++ L2 ++ L3 ++ L4 ++ L5).length, .val .nilIface])), mem := some (fmM s (headText s) 0) })] ?_; iterate 2 (try dsimp only [schedP, go_sem]))
  refine aw_seq (aw_regT (T := []) (H := [(15, { val := some (.pv (.str L1)) }), (19, { val := some (.pv (.str L2)) }), (24, { val := some (.pv (.str L3)) }), (29, { val := some (.pv (.str L4)) }), (33, { val := some (.pv (.str L5)) }), (35, { val := some (.pv (.tup [.int .i64 (L1 ++ L2 ++ L3 ++ L4 ++ L5).length, .val .nilIface])), mem := some (fmM s (headText s) 0) })]) (by rfl) ?_)
  dsimp only [evOpsTail, schedP, go_sem]
  try dsimp only [schedP, go_sem]
  refine ⟨(by simp [vb] <;> omega), ?_, ?_⟩
  · exact ⟨by rw [hHT]; exact hw, h5, h4, h3, h2, h1, trivial⟩
  clear h1 h2 h3 h4 h5 l1 l2 l3 l4 l5 hw hHT p5
  refine aw_frame [(1, .ptr 0 0 0), (4, .ptr 1 0 0)] (by (repeat' (first | exact trivial | refine And.intro (by first | rfl | (simp [get, Nat.beq]; done) | (simp [get, Nat.beq]; omega) | (dsimp only [get]; congr 1 <;> first | rfl | omega | (simp; done) | (simp; omega))) ?_))) ?_
  repeat' (first
    | ((with_reducible first | show VCs _ | show All _); simp [vb] <;> omega)
    | exact (rfl : some _ = _)
    | (fail_if_success refine awL ?_
       refine evA ?_
       repeat1' dsimp only [c13, fmM, sB7, bldB, rowB, fatesP, go_sem]
       first
       | refine aw4 ?_ ?_ rfl ?_
       | apply aw3
       | apply aw2
       | (refine awB (fun hc => ?_) fun hc => ?_ <;> first | (cases hc; done) | (exfalso; simp at hc <;> omega) | (try simp only [bn] at hc; try contradiction))
       | skip))
  refine aw_forJ s.fates.length (fun k => True) (fun k => [(1, .ptr 0 0 0), (4, .ptr 1 0 0), (37, .pv (fatesP s.fates)), (38, .pv (.int .i64 s.fates.length)), (39, .pv (.int .i64 k))]) (fun k => fmM s (headText s ++ (s.fates.take k).flatMap fateText) k) trivial (by (repeat' (first | exact trivial | refine And.intro (by first | rfl | (simp [get, Nat.beq]; done) | (simp [get, Nat.beq]; omega) | (dsimp only [get]; congr 1 <;> first | rfl | omega | (simp; done) | (simp; omega))) ?_))) ⟨[], by simp [fmM, sB7, bldB, rowB, fatesP]⟩ (fun k => ⟨Nat.zero_le _, rfl, fmM_ok s _ k⟩) fun k hk _ => ?_
  have hfl := h.fn
  by_cases hlt : k < s.fates.length
  · have e := fm_take fateC_len s.fates k ⟨false, 0, 0⟩ hlt
    have hs := take_succ_getD s.fates k ⟨false, 0, 0⟩ hlt
    have hff := h.f _ (getD_mem (d := ⟨false, 0, 0⟩) hlt)
    have hft := fateText_len _ hff
    have hfc := flatMap_length fateC_len s.fates
    have hXl : (headText s ++ (s.fates.take k).flatMap fateText).length ≤ 5000 + 256 * 100 := by
      have := flat_len (m := 100) (s.fates.take k) fun x hx => fateText_len x (h.f x (List.mem_of_mem_take hx))
      have h4 : (s.fates.take k).length ≤ 256 := by simp; omega
      rw [List.length_append]
      have := Nat.mul_le_mul_right 100 h4
      omega
    have hX : headText s ++ (s.fates.take (k + 1)).flatMap fateText = (headText s ++ (s.fates.take k).flatMap fateText) ++ fateText (s.fates.getD k ⟨false, 0, 0⟩) := by
      rw [hs, List.flatMap_append, List.append_assoc]
      simp
    rw [hX]
    clear hX hs
    generalize headText s ++ (s.fates.take k).flatMap fateText = X at *
    generalize s.fates.getD k ⟨false, 0, 0⟩ = q at *
    obtain ⟨b, d, g⟩ := q
    dsimp only at hff
    cases b with
    | true =>
      have hw := fm_write s X wDrop k [⟨[.pv (.bool true), .pv (.int .i64 d), .pv (.int .i64 g)], 0, 3, 53, false⟩] (by simp [okMem, fmM, sB7, bldB, rowB, bnd, Nat.blt, byteA_bnd]) (by simp [wDrop]; omega)
      repeat' (first
        | ((with_reducible first | show VCs _ | show All _); (try dsimp only [go_sem]); first | (simp [vb, e, hlt, hfc, hw, fateC] <;> omega) | (simp only [vb, and_true, true_implies]; (repeat' (first | (with_reducible assumption) | (with_reducible apply And.intro) | intro _ | ((fail_if_success (with_reducible show (_ : Int) ≤ _)); assumption))) <;> first | omega | (simp only [ab, e, hlt, hfc, hw, fateC]; done) | (simp [e, hlt, hfc, hw, fateC] <;> omega)))
        | exact (rfl : some _ = _)
        | (fail_if_success refine awL ?_
           refine evH [(42, { val := some (.pv (.agg [.bool true, .int .i64 d, .int .i64 g])) }), (53, { val := some (.pv (.tup [.int .i64 (wDrop).length, .val .nilIface])), mem := some (fmM s (X ++ wDrop) (k + 1) ++ [⟨[.pv (.bool true), .pv (.int .i64 d), .pv (.int .i64 g)], 0, 3, 53, false⟩]) })] ?_
           repeat1' dsimp only [c13, fmM, sB7, bldB, rowB, fatesP, go_sem]
           first
           | refine aw4 ?_ ?_ rfl ?_
           | apply aw3
           | apply aw2
           | (refine awB (fun hc => ?_) fun hc => ?_ <;> first | (cases hc; done) | (exfalso; simp [e, hlt, hfc, hw, fateC] at hc <;> omega) | (try simp only [bn] at hc; try contradiction))
           | skip))
      exact ⟨hlt, trivial, by (repeat' (first | exact trivial | refine And.intro (by first | rfl | (simp [get, Nat.beq]; done) | (simp [get, Nat.beq]; omega) | (dsimp only [get]; congr 1 <;> first | rfl | omega | (simp; done) | (simp; omega))) ?_)), _, rfl⟩
    | false =>
      by_cases hg : g = 0
      · subst hg
        have hl := lineP1_ok wFate [d] (by simpa using hff.1) (by simp) (by decide)
        have hft' : fateText ⟨false, d, 0⟩ = lineP1 wFate [d] := rfl
        rw [hft'] at hft ⊢
        have hw := fm_write s X (lineP1 wFate [d]) k [⟨[.pv (.bool false), .pv (.int .i64 d), .pv (.int .i64 0)], 0, 3, 53, false⟩] (by simp [okMem, fmM, sB7, bldB, rowB, bnd, Nat.blt, byteA_bnd]) (by omega)
        repeat' (first
          | ((with_reducible first | show VCs _ | show All _); (try dsimp only [go_sem]); first | (simp [vb, e, hlt, hfc, hw, hl, fateC] <;> omega) | (simp only [vb, and_true, true_implies]; (repeat' (first | (with_reducible assumption) | (with_reducible apply And.intro) | intro _ | ((fail_if_success (with_reducible show (_ : Int) ≤ _)); assumption))) <;> first | omega | (simp only [ab, e, hlt, hfc, hw, hl, fateC]; done) | (simp [e, hlt, hfc, hw, hl, fateC] <;> omega)))
          | exact (rfl : some _ = _)
          | (fail_if_success refine awL ?_
             refine evTH [(44, fun _ => some (.str (lineP1 wFate [d])))] [(42, { val := some (.pv (.agg [.bool false, .int .i64 d, .int .i64 0])) }), (62, { val := some (.pv (.tup [.int .i64 (lineP1 wFate [d]).length, .val .nilIface])), mem := some (fmM s (X ++ lineP1 wFate [d]) (k + 1) ++ [⟨[.pv (.bool false), .pv (.int .i64 d), .pv (.int .i64 0)], 0, 3, 53, false⟩]) })] ?_
             repeat1' dsimp only [c13, fmM, sB7, bldB, rowB, fatesP, go_sem]
             first
             | refine aw4 ?_ ?_ rfl ?_
             | apply aw3
             | apply aw2
             | (refine awB (fun hc => ?_) fun hc => ?_ <;> first | (cases hc; done) | (exfalso; simp [e, hlt, hfc, hw, hl, fateC] at hc <;> omega) | (try simp only [bn] at hc; try contradiction))
             | skip))
        exact ⟨hlt, trivial, by (repeat' (first | exact trivial | refine And.intro (by first | rfl | (simp [get, Nat.beq]; done) | (simp [get, Nat.beq]; omega) | (dsimp only [get]; congr 1 <;> first | rfl | omega | (simp; done) | (simp; omega))) ?_)), _, rfl⟩
      · have hl := lineP1_ok wFate [d, g] (by simpa using hff) (by simp) (by decide)
        have hft' : fateText ⟨false, d, g⟩ = lineP1 wFate [d, g] := by simp [fateText, hg]
        rw [hft'] at hft ⊢
        have hw := fm_write s X (lineP1 wFate [d, g]) k [⟨[.pv (.bool false), .pv (.int .i64 d), .pv (.int .i64 g)], 0, 3, 53, false⟩] (by simp [okMem, fmM, sB7, bldB, rowB, bnd, Nat.blt, byteA_bnd]) (by omega)
        repeat' (first
          | ((with_reducible first | show VCs _ | show All _); (try dsimp only [go_sem]); first | (simp [vb, e, hlt, hfc, hw, hl, hg, fateC] <;> omega) | (simp only [vb, and_true, true_implies]; (repeat' (first | (with_reducible assumption) | (with_reducible apply And.intro) | intro _ | ((fail_if_success (with_reducible show (_ : Int) ≤ _)); assumption))) <;> first | omega | (simp only [ab, e, hlt, hfc, hw, hl, hg, fateC]; done) | (simp [e, hlt, hfc, hw, hl, hg, fateC] <;> omega)))
          | exact (rfl : some _ = _)
          | (fail_if_success refine awL ?_
             refine evTH [(44, fun _ => some (.str (lineP1 wFate [d, g])))] [(42, { val := some (.pv (.agg [.bool false, .int .i64 d, .int .i64 g])) }), (49, { val := some (.pv (.tup [.int .i64 (lineP1 wFate [d, g]).length, .val .nilIface])), mem := some (fmM s (X ++ lineP1 wFate [d, g]) (k + 1) ++ [⟨[.pv (.bool false), .pv (.int .i64 d), .pv (.int .i64 g)], 0, 3, 53, false⟩]) })] ?_
             repeat1' dsimp only [c13, fmM, sB7, bldB, rowB, fatesP, go_sem]
             first
             | refine aw4 ?_ ?_ rfl ?_
             | apply aw3
             | apply aw2
             | (refine awB (fun hc => ?_) fun hc => ?_ <;> first | (cases hc; done) | (exfalso; simp [e, hlt, hfc, hw, hl, hg, fateC] at hc <;> omega) | (try simp only [bn] at hc; try contradiction))
             | skip))
        exact ⟨hlt, trivial, by (repeat' (first | exact trivial | refine And.intro (by first | rfl | (simp [get, Nat.beq]; done) | (simp [get, Nat.beq]; omega) | (dsimp only [get]; congr 1 <;> first | rfl | omega | (simp; done) | (simp; omega))) ?_)), _, rfl⟩
  · have hkl : k = s.fates.length := by omega
    subst hkl
    rw [List.take_length]
    have hX0 : (headText s ++ s.fates.flatMap fateText).length ≤ 5000 + 256 * 100 := by
      have := flat_len (m := 100) s.fates fun x hx => fateText_len x (h.f x hx)
      rw [List.length_append]
      have := Nat.mul_le_mul_right 100 hfl
      omega
    have hne0 : headText s ++ s.fates.flatMap fateText ≠ [] := by simp [headText, lineP1]
    have hfmt : fmtText s = headText s ++ s.fates.flatMap fateText ++ s.steps.flatMap writtenP := rfl
    rw [hfmt]
    clear hfmt
    generalize headText s ++ s.fates.flatMap fateText = X0 at *
    generalize s.fates.length = j0 at *
    repeat' (first
      | ((with_reducible first | show VCs _ | show All _); simp [vb] <;> omega)
      | exact (rfl : some _ = _)
      | (fail_if_success refine awL ?_
         refine evA ?_
         repeat1' dsimp only [c13, fmM, sB7, bldB, rowB, fatesP, stepsP, go_sem]
         first
         | refine aw4 ?_ ?_ rfl ?_
         | apply aw3
         | apply aw2
         | (refine awB (fun hc => ?_) fun hc => ?_ <;> first | (cases hc; done) | (exfalso; simp at hc <;> omega) | (try simp only [bn] at hc; try contradiction))
         | skip))
    refine aw_forJ s.steps.length (fun k => True) (fun k => [(1, .ptr 0 0 0), (4, .ptr 1 0 0), (65, .pv (stepsP s.steps)), (66, .pv (.int .i64 s.steps.length)), (67, .pv (.int .i64 k))]) (fun k => fmM s (X0 ++ (s.steps.take k).flatMap writtenP) (j0 + k)) trivial (by (repeat' (first | exact trivial | refine And.intro (by first | rfl | (simp [get, Nat.beq]; done) | (simp [get, Nat.beq]; omega) | (dsimp only [get]; congr 1 <;> first | rfl | omega | (simp; done) | (simp; omega))) ?_))) ⟨[], by simp [fmM, sB7, bldB, rowB, fatesP, stepsP]⟩ (fun k => ⟨Nat.zero_le _, rfl, fmM_ok s _ _⟩) fun k hk _ => ?_
    have hpl := h.pn
    have hXl : (X0 ++ (s.steps.take k).flatMap writtenP).length ≤ 100000 + 256 * 100000000 := by
      have := flat_len (m := 100000000) (s.steps.take k) fun x hx => writtenP_len x (h.p x (List.mem_of_mem_take hx))
      have h4 : (s.steps.take k).length ≤ 256 := by simp; omega
      rw [List.length_append]
      have := Nat.mul_le_mul_right 100000000 h4
      omega
    by_cases hlt : k < s.steps.length
    · have e := fm_take stepC_len s.steps k zeroStep hlt
      have hs := take_succ_getD s.steps k zeroStep hlt
      have hww := h.p _ (getD_mem (d := zeroStep) hlt)
      have hwl := writtenP_len _ hww
      have hwo := written_ok _ hww
      have hpc := flatMap_length stepC_len s.steps
      have hX : X0 ++ (s.steps.take (k + 1)).flatMap writtenP = (X0 ++ (s.steps.take k).flatMap writtenP) ++ writtenP (s.steps.getD k zeroStep) := by
        rw [hs, List.flatMap_append, List.append_assoc]
        simp
      rw [hX, ← Nat.add_assoc]
      clear hX hs
      generalize X0 ++ (s.steps.take k).flatMap writtenP = X at *
      generalize s.steps.getD k zeroStep = x at *
      generalize hj : j0 + k = j at *
      have hw := fm_write s X (writtenP x) j [⟨(stepC x).map .pv, 0, 10, 41, false⟩] (by simp [okMem, fmM, sB7, bldB, rowB, bnd, Nat.blt, byteA_bnd, stepC]) (by omega)
      repeat' (first
        | ((with_reducible show VCs _); first | exact True.intro | (simp only [vb, lb]; omega) | (simp only [vb, lb, e, hlt, hpc, hw, hwo]; and_intros <;> first | omega | (simp <;> omega)) | (simp [vb, e, hlt, hpc, hw, hwo] <;> omega))
        | ((with_reducible show All _); first | exact True.intro | ((try dsimp only [go_sem]); first | (simp [vb, e, hlt, hpc, hw, hwo] <;> omega) | (simp only [vb, and_true, true_implies]; (repeat' (first | (with_reducible assumption) | (with_reducible apply And.intro) | intro _ | ((fail_if_success (with_reducible show (_ : Int) ≤ _)); assumption))) <;> first | omega | rfl | (simp only [ab, e, hlt, hpc, hw, hwo]; done) | (simp [Nat.mul_one, e, hlt, hpc, hw, hwo] <;> omega) | (simp_all; done))))
        | exact (rfl : some _ = _)
        | (fail_if_success refine awL ?_
           refine evH [(70, { val := some (.pv (stepP x)) }), (71, { val := some (.pv (stepP x)) }), (72, { val := some (.pv (.str (writtenP x))) }), (73, { val := some (.pv (.tup [.int .i64 (writtenP x).length, .val .nilIface])), mem := some (fmM s (X ++ writtenP x) (j + 1) ++ [⟨(stepC x).map .pv, 0, 10, 41, false⟩]) })] ?_
           repeat1' dsimp only [c13, fmM, sB7, bldB, rowB, fatesP, stepsP, stepP, stepC, queriesP, intsP, go_sem]
           first
           | refine aw4 ?_ ?_ rfl ?_
           | apply aw3
           | apply aw2
           | (refine awB (fun hc => ?_) fun hc => ?_ <;> first | (cases hc; done) | (exfalso; first | (simp at hc <;> omega) | (simp [e, hlt, hpc, hw, hwo] at hc; done)) | (try simp only [bn] at hc; try contradiction))
           | skip))
      · exact ⟨congrArg (fun l => AV.pv (PV.agg l)) (by rw [Int.toNat_natCast, e]; rfl), trivial⟩
      · exact ⟨hlt, trivial, by (repeat' (first | exact trivial | refine And.intro (by first | rfl | (simp [get, Nat.beq]; done) | (simp [get, Nat.beq]; omega) | (dsimp only [get]; congr 1 <;> first | rfl | omega | (simp; done) | (simp; omega))) ?_)), _, rfl⟩
    · have hkl : k = s.steps.length := by omega
      subst hkl
      rw [List.take_length] at hXl ⊢
      have hne : X0 ++ s.steps.flatMap writtenP ≠ [] := by simp [hne0]
      generalize X0 ++ s.steps.flatMap writtenP = X at *
      generalize j0 + s.steps.length = j at *
      have hb1 := blen_ok (fmM_ok s X j) (b := 1) (g := 0) (r := 2) (j := j) (n := X.length) rfl
      have hb2 := bstring_ok (μ := fmM s X j) (b := 1) (g := 0) (r := 2) (j := j) hne rfl rfl
      by_cases hbig : 65536 < X.length
      · rw [if_pos hbig, if_pos hbig]
        repeat' (first
          | ((with_reducible first | show VCs _ | show All _); (try dsimp only [go_sem]); first | (simp [vb, hb1] <;> omega) | (simp only [vb, and_true, true_implies]; (repeat' (first | (with_reducible assumption) | (with_reducible apply And.intro) | intro _ | ((fail_if_success (with_reducible show (_ : Int) ≤ _)); assumption))) <;> first | omega | (simp only [ab, hb1]; done) | (simp [hb1] <;> omega)))
          | exact (rfl : some _ = _)
          | (fail_if_success refine awL ?_
             refine evH [(75, { val := some (.pv (.int .i64 X.length)), ro := true })] ?_
             repeat1' dsimp only [c13, fmM, sB7, bldB, rowB, fatesP, stepsP, go_sem]
             first
             | refine aw4 ?_ ?_ rfl ?_
             | apply aw3
             | apply aw2
             | (refine awB (fun hc => ?_) fun hc => ?_ <;> first | (cases hc; done) | (exfalso; simp [hb1] at hc <;> omega) | (try simp only [bn] at hc; try contradiction))
             | skip))
      · rw [if_neg hbig, if_neg hbig]
        repeat' (first
          | ((with_reducible first | show VCs _ | show All _); (try dsimp only [go_sem]); first | (simp [vb, hb1, hb2] <;> omega) | (simp only [vb, and_true, true_implies]; (repeat' (first | (with_reducible assumption) | (with_reducible apply And.intro) | intro _ | ((fail_if_success (with_reducible show (_ : Int) ≤ _)); assumption))) <;> first | omega | (simp only [ab, hb1, hb2]; done) | (simp [hb1, hb2] <;> omega)))
          | exact (rfl : some _ = _)
          | (fail_if_success refine awL ?_
             refine evH [(75, { val := some (.pv (.int .i64 X.length)), ro := true }), (77, { val := some (.pv (.str X)), mem := some ((fmM s X j).set 2 { rowB X j with frozen := true }) })] ?_
             repeat1' dsimp only [c13, fmM, sB7, bldB, rowB, fatesP, stepsP, go_sem]
             first
             | refine aw4 ?_ ?_ rfl ?_
             | apply aw3
             | apply aw2
             | (refine awB (fun hc => ?_) fun hc => ?_ <;> first | (cases hc; done) | (exfalso; simp [hb1, hb2] at hc <;> omega) | (try simp only [bn] at hc; try contradiction))
             | skip))
end
end Pur
end Go.Proofs.YteokbngllldmdaaGreatDoor
namespace Go.Proofs.YteokbngllldmdaaGreatDoor
namespace Pur
open Go.RowKit
section
open Sch
theorem all_mem {l : List Int} {lo hi : Int} (h : allIn l lo hi = true) (h0 : -1000000000 ≤ lo) (h1 : hi ≤ 1000000000) : ∀ n ∈ l, i64 n := fun n hn => by
 have := List.all_eq_true.mp h n hn
 simp only [between, Bool.and_eq_true, decide_eq_true_eq] at this
 unfold i64
 omega
theorem asc_len {hi : Int} : ∀ (l : List Int) (a : Int), ascending (a :: l) = true → (∀ x ∈ a :: l, x ≤ hi) → (l.length : Int) ≤ hi - a
 | [], a, _, h => by have := h a (by simp); simp; omega
 | b :: r, a, h, hb => by
  simp only [ascending, Bool.and_eq_true, decide_eq_true_eq] at h
  have := asc_len r b h.2 fun x hx => hb x (List.mem_cons_of_mem _ hx)
  simp only [List.length_cons]
  omega
theorem wr_of_possible {s : Sched} {x : Step} (h : head s = true) (hf : follows s x = true) : Wr x := by
 simp only [head, follows, possible, between, Bool.and_eq_true, decide_eq_true_eq] at h hf
 obtain ⟨⟨⟨-, ht⟩, -⟩, ⟨⟨hk, hsame⟩, hr⟩, hko⟩ := hf
 have hs := (sameStep_iff x (fieldsOf x)).1 hsame
 have hk7 : x.kind = 0 ∨ x.kind = 1 ∨ x.kind = 2 ∨ x.kind = 3 ∨ x.kind = 4 ∨ x.kind = 5 ∨ x.kind = 6 := by omega
 have e1 := congrArg Step.other hs
 have e2 := congrArg Step.session hs
 have e3 := congrArg Step.action hs
 have e4 := congrArg Step.after hs
 have e5 := congrArg Step.queries hs
 have e6 := congrArg Step.survive hs
 have e7 := congrArg Step.voters hs
 clear hs hsame
 rcases hk7 with hk' | hk' | hk' | hk' | hk' | hk' | hk' <;> simp [fieldsOf, Sch.kindOk, hk', zeroStep, between, allIn] at e1 e2 e3 e4 e5 e6 e7 hko
 all_goals refine ⟨by omega, by omega, by unfold i64; omega, by unfold i64; omega, by unfold i64; omega, by unfold i64; omega, by unfold i64; omega, by unfold i64; omega, ?_, ?_, ?_, ?_, ?_, ?_⟩
 all_goals first
  | (rw [e5]; simp; done)
  | (rw [e6]; simp; done)
  | (rw [e7]; simp; done)
  | omega
  | skip
 ·intro q hq
  have := hko.2 q.1 q.2 hq
  simp only [queryOk, between, Bool.and_eq_true, decide_eq_true_eq] at this
  unfold i64
  omega
 ·intro n hn
  have := hko.2 n hn
  unfold i64
  omega
 ·cases hv : x.voters with
  | nil => simp
  | cons a l =>
   rw [hv] at hko
   have := asc_len (hi := 5) l a hko.1.1 fun y hy => by have := hko.2 y hy; omega
   have := hko.2 a (by simp)
   simp only [List.length_cons]
   omega
 ·intro n hn
  have := hko.2 n hn
  unfold i64
  omega
theorem stepsOk_mem {s : Sched} {R : Sched → Step → Prop} : ∀ (l done : List Step), stepsOk s done l = true → (∀ d x, follows { s with steps := d } x = true → R s x) → ∀ x ∈ l, R s x
 | [], _, _, _, x, hx => by cases hx
 | y :: r, done, h, hR, x, hx => by
  simp only [stepsOk, Bool.and_eq_true] at h
  cases hx with
  | head => exact hR done _ h.1
  | tail _ hx => exact stepsOk_mem r _ h.2 hR x hx
theorem stepsOk_len {s : Sched} : ∀ (l done : List Step), stepsOk s done l = true → l ≠ [] → done.length + l.length ≤ 256
 | [], _, _, h => absurd rfl h
 | y :: r, done, h, _ => by
  simp only [stepsOk, Bool.and_eq_true] at h
  have h1 := h.1
  simp only [follows, Bool.and_eq_true, decide_eq_true_eq] at h1
  cases r with
  | nil => simp; omega
  | cons z r =>
   have := stepsOk_len (z :: r) _ h.2 (by simp)
   simp only [List.length_append, List.length_cons, List.length_nil] at this ⊢
   omega
theorem fm_of_valid {s : Sched} (h : valid s = true) : Fm s := by
 simp only [valid, Bool.and_eq_true, decide_eq_true_eq] at h
 obtain ⟨⟨⟨hh, hf⟩, hfa⟩, hs⟩ := h
 have hh' := hh
 simp only [head, between, Bool.and_eq_true, decide_eq_true_eq] at hh'
 refine ⟨by unfold i64; omega, by unfold i64; omega, by unfold i64; omega, by unfold i64; omega, by omega, all_mem hh'.2 (by decide) (by decide), hf, fun x hx => ?_, ?_, ?_⟩
 ·have := List.all_eq_true.mp hfa x hx
  unfold fateOk at this
  unfold i64
  split at this <;> simp [between] at this <;> omega
 ·by_cases hn : s.steps = []
  ·simp [hn]
  ·have := stepsOk_len s.steps [] hs hn
   simpa using this
 ·refine stepsOk_mem (R := fun _ x => Wr x) s.steps [] hs fun d x hx => ?_
  exact wr_of_possible (s := { s with steps := d }) hh hx
theorem format_ok (s : Sched) (hm1 : s.state.length ≤ 9223372036854775800) (hm2 : s.fates.length ≤ 9223372036854775800) (hm3 : s.steps.length ≤ 9223372036854775800) (hz : ∀ k, Sizes (s.steps.getD k zeroStep)) : PureOK ctx 13 [schedP s] (.tup [.str (formatP s).1, .int .i64 (formatP s).2]) := by
 have hv := Valid_ok s hm1 hm2 hm3 hz
 cases h : valid s with
 | false =>
  rw [h] at hv
  have := format_no s hv
  simpa [formatP, h] using this
 | true =>
  rw [h] at hv
  have := format_yes s (fm_of_valid h) hv
  unfold formatP
  rw [h]
  by_cases hb : 65536 < (fmtText s).length
  ·simpa [hb] using this
  ·simpa [hb] using this
end
section
open Sch Pl
theorem stepsOk_same {s s' : Sched} (h : ∀ d, { s with steps := d } = { s' with steps := d }) : ∀ (l done : List Step), stepsOk s done l = stepsOk s' done l
 | [], _ => rfl
 | x :: r, done => by
  rw [stepsOk, stepsOk, h done, stepsOk_same h r]
theorem stepsOk_snoc (s : Sched) (x : Step) : ∀ (l done : List Step), stepsOk s done (l ++ [x]) = (stepsOk s done l && follows { s with steps := done ++ l } x)
 | [], done => by simp [stepsOk]
 | y :: r, done => by
  rw [List.cons_append, stepsOk, stepsOk_snoc s x r, stepsOk, Bool.and_assoc]
  simp
structure VInv (next : Nat) (s : Sched) : Prop where
 p : PInv next s
 a : allIn s.state (-1000000) 1000000 = true
 f : s.fates.all fateOk = true
 s : stepsOk s [] s.steps = true
theorem vinv_zero : VInv 0 zeroSched := ⟨⟨by omega, fun _ => ⟨rfl, rfl, rfl⟩, by omega, by omega, by omega, by omega, by simp [zeroSched], by simp [zeroSched], by simp [zeroSched]⟩, rfl, rfl, rfl⟩
theorem lineP_vinv {next n' : Nat} {s s' : Sched} {w0 : List UInt8} {r : List (List UInt8)} (hP : VInv next s) (h : lineP next s w0 r = some (n', s')) : VInv n' s' := by
  have hp := lineP_inv hP.p h
  refine ⟨hp, ?_, ?_, ?_⟩
  all_goals
    have ha := hP.a; have hf := hP.f; have hs := hP.s; have he := hP.p.e1
    unfold lineP at h
    split at h
    · rename_i h4
      obtain ⟨e1, e2, e3⟩ := he (by omega)
      split at h
      · split at h
        · injection h with h
          injection h with h1 h2
          subst h1 h2
          unfold setHead
          split <;> simp [e1, e2, e3, allIn, stepsOk]
        · cases h
      · cases h
    split at h
    · rename_i h4
      obtain ⟨e1, e2, e3⟩ := he (by omega)
      split at h
      · split at h
        · rename_i hb
          injection h with h
          injection h with h1 h2
          subst h1 h2
          simp only [Bool.and_eq_true] at hb
          simp [e1, e2, hb.2, stepsOk]
        · cases h
      · cases h
    split at h
    · split at h
      · split at h
        · rename_i hb
          injection h with h
          injection h with h1 h2
          subst h1 h2
          simp only [Bool.and_eq_true, List.isEmpty_iff] at hb
          simp [ha, hf, hb.1, hb.2.2, stepsOk]
        · cases h
      · cases h
    split at h
    · split at h
      · split at h
        · rename_i x _ hb
          injection h with h
          injection h with h1 h2
          subst h1 h2
          first
            | exact ha
            | exact hf
            | (dsimp only
               rw [stepsOk_same (s := { s with steps := s.steps ++ [x] }) (s' := s) (fun _ => rfl), stepsOk_snoc, hs]
               simpa using hb)
        · cases h
      · cases h
    · cases h
theorem parseGo_vinv : ∀ (ls : List (List UInt8)) (i next : Nat) (s : Sched), VInv next s → (match parseGo ls i next s with
  | .inl k => i + 1 ≤ k ∧ k ≤ i + ls.length
  | .inr (n, s') => VInv n s')
 | [], _, _, _, h => h
 | l :: r, i, next, s, h => by
  rw [parseGo]
  have tail : ∀ n s', VInv n s' → (match parseGo r (i + 1) n s' with
    | .inl k => i + 1 ≤ k ∧ k ≤ i + (l :: r).length
    | .inr (n, s') => VInv n s') := fun n s' hv => by
   have := parseGo_vinv r (i + 1) n s' hv
   split at this
   ·simp only [List.length_cons]
    exact ⟨by omega, by omega⟩
   ·exact this
  cases hw : wordsOn 32 (upTo 35 l) with
  | nil => exact tail _ _ h
  | cons w0 ws =>
   cases hq : lineP next s w0 ws with
   | none =>
    dsimp only
    rw [hq]
    simp
   | some q =>
    dsimp only
    rw [hq]
    exact tail _ _ (lineP_vinv h hq)
theorem valid_of {s : Sched} (h : VInv 5 s) : valid s = true := by
 have h1 := h.p.r (by omega); have h2 := h.p.q (by omega); have h3 := h.p.c (by omega); have h4 := h.p.t (by omega)
 simp [valid, head, h1, h2, h3, h4, h.a, h.f, h.s, h.p.a, h.p.f]
theorem splitOn_count (c : UInt8) : ∀ t : List UInt8, (splitOn c t).length = t.count c + 1
 | [] => by simp [splitOn]
 | x :: r => by
  have ih := splitOn_count c r
  rw [splitOn]
  by_cases hx : x = c
  ·subst hx
   simp [ih]
  ·rw [if_neg hx, List.count_cons_of_ne (by simpa using hx)]
   cases hs : splitOn c r with
   | nil => exact absurd hs (splitOn_ne c r)
   | cons a b =>
    rw [hs] at ih
    simpa using ih
theorem parse_ends (t : List UInt8) (ht : t.length ≤ 65536) : ((parseP t).2.2 = 0 ∧ (parseP t).2.1 = 0 ∧ valid (parseP t).1 = true) ∨ ((parseP t).2.2 = 3 ∧ 1 ≤ (parseP t).2.1 ∧ (parseP t).2.1 ≤ (t.count 10 : Int) + 2 ∧ (parseP t).1 = zeroSched) := by
 have hv := parseGo_vinv (splitOn 10 t) 0 0 zeroSched vinv_zero
 have hc := splitOn_count 10 t
 unfold parseP
 rw [if_neg (by omega)]
 split at hv
 ·rename_i k hk
  rw [hk]
  refine .inr ⟨rfl, ?_, ?_, rfl⟩ <;> dsimp only <;> omega
 ·rename_i n s hk
  rw [hk]
  dsimp only
  by_cases h5 : n < 5
  ·rw [if_pos h5]
   refine .inr ⟨rfl, ?_, ?_, rfl⟩ <;> dsimp only <;> split <;> omega
  ·rw [if_neg h5]
   have hn := hv.p.n5
   have : n = 5 := by omega
   subst this
   exact .inl ⟨rfl, rfl, valid_of hv⟩
theorem few_of_valid {s : Sched} (h : valid s = true) : FewS s := by
 have hf := fm_of_valid h
 have h1 := hf.sn; have h2 := hf.fn; have h3 := hf.pn
 refine ⟨fun x hx => ?_, by omega, by omega, by omega⟩
 have := hf.p x hx
 have q1 := this.qn; have q2 := this.sn; have q3 := this.vn
 exact ⟨by omega, by omega, by omega⟩
theorem few_zero : FewS zeroSched := ⟨by simp [zeroSched], by simp [zeroSched], by simp [zeroSched], by simp [zeroSched]⟩
theorem parse_few (t : List UInt8) (ht : t.length ≤ 65536) : FewS (parseP t).1 := by
 rcases parse_ends t ht with h | h
 ·exact few_of_valid h.2.2
 ·rw [h.2.2.2]
  exact few_zero
end
section
open Sch Pl
def dbl : List UInt8 → List UInt8
 | [] => []
 | x :: r => if x = 32 then 32 :: 32 :: dbl r else x :: dbl r
theorem dbl_none : ∀ {l : List UInt8}, (∀ k : Nat, l[k]? ≠ some 32) → dbl l = l
 | [], _ => rfl
 | x :: r, h => by
  have hx : x ≠ 32 := fun e => h 0 (by simp [e])
  rw [dbl, if_neg hx, dbl_none fun k => by have := h (k + 1); simpa using this]
theorem dbl_hit : ∀ {l : List UInt8} {i : Nat}, l[i]? = some 32 → (∀ k, k < i → l[k]? ≠ some 32) → dbl l = l.take i ++ 32 :: 32 :: dbl (l.drop (i + 1))
 | [], i, h, _ => by simp at h
 | x :: r, 0, h, _ => by
  simp at h
  simp [dbl, h]
 | x :: r, i + 1, h, hn => by
  have hx : x ≠ 32 := fun e => hn 0 (by omega) (by simp [e])
  rw [dbl, if_neg hx, dbl_hit (l := r) (i := i) (by simpa using h) fun k hk => by have := hn (k + 1) (by omega); simpa using this]
  simp
theorem dbl_replace : ∀ (n : Nat) (l : List UInt8), l.length ≤ n → Lib.replaceK [32] [32, 32] (Lib.count l [32]) l = dbl l
 | n, l, hn => by
  have hi := Lib.index_one l 32
  by_cases hm : Lib.index l [32] = -1
  ·rw [Lib.count_miss hm]
   rw [hi] at hm
   rw [dbl_none (Lib.indexByte_none hm)]
   rfl
  ·have hge := Lib.index_ge l [32]
   obtain ⟨i, hx⟩ : ∃ i : Nat, Lib.index l [32] = i := ⟨(Lib.index l [32]).toNat, by omega⟩
   have hx2 := hx
   rw [hi] at hx2
   obtain ⟨g1, g2⟩ := Lib.indexByte_some hx2
   have hlt : i < l.length := (List.getElem?_eq_some_iff.mp g1).1
   rw [Lib.count_hit (by simp) hx, Nat.add_comm, Lib.replaceK_hit _ _ _ _ i hx, dbl_hit g1 g2]
   match n, hn with
   | 0, hn => omega
   | n + 1, hn =>
    have := dbl_replace n (l.drop (i + 1)) (by simp; omega)
    simp only [List.length_cons, List.length_nil, Nat.zero_add] at this ⊢
    rw [this]
    simp
theorem dbl_all (l : List UInt8) : Lib.replaceAll l [32] [32, 32] = dbl l := by
 rw [← dbl_replace _ l (Nat.le_refl _)]
 rfl
theorem dbl_mem {x : UInt8} : ∀ {l : List UInt8}, x ∈ dbl l → x ∈ l ∨ x = 32
 | [], h => by simp [dbl] at h
 | y :: r, h => by
  rw [dbl] at h
  split at h
  ·simp only [List.mem_cons] at h
   rcases h with h | h | h
   ·exact .inr h
   ·exact .inr h
   ·rcases dbl_mem h with h | h
    ·exact .inl (by simp [h])
    ·exact .inr h
  ·simp only [List.mem_cons] at h
   rcases h with h | h
   ·exact .inl (by simp [h])
   ·rcases dbl_mem h with h | h
    ·exact .inl (by simp [h])
    ·exact .inr h
theorem dbl_len : ∀ l : List UInt8, (dbl l).length ≤ 2 * l.length
 | [] => by simp [dbl]
 | x :: r => by
  have := dbl_len r
  rw [dbl]
  split <;> simp <;> omega
def noteW : List UInt8 := [35, 32, 97, 32, 99, 111, 109, 109, 101, 110, 116, 58, 32, 97, 116, 32, 48, 32, 99, 117, 116, 32, 48, 32, 49]
def moreLn (l : List UInt8) : List UInt8 := 32 :: 32 :: (dbl l ++ (32 :: 32 :: noteW))
theorem words_dbl : ∀ (l cur : List UInt8), wordsGo 32 (dbl l ++ [32, 32]) cur = wordsGo 32 l cur
 | [], cur => by
  by_cases h : cur = [] <;> simp [dbl, wordsGo, h]
 | x :: r, cur => by
  rw [dbl]
  by_cases hx : x = 32
  ·rw [if_pos hx]
   simp only [List.cons_append, wordsGo, hx, if_true]
   rw [words_dbl r []]
  ·rw [if_neg hx]
   simp only [List.cons_append, wordsGo, hx, if_false]
   rw [words_dbl r _]
theorem upTo_app {c : UInt8} {a b : List UInt8} (h : ∀ x ∈ a, x ≠ c) : upTo c (a ++ c :: b) = a := by
 induction a with
 | nil => simp [upTo]
 | cons x r ih =>
  have hx : x ≠ c := h x (by simp)
  have := ih fun y hy => h y (by simp [hy])
  unfold upTo at this ⊢
  rw [List.cons_append, List.takeWhile_cons_of_pos (by simpa using hx), this]
def lineW (l : List UInt8) : List (List UInt8) := wordsOn 32 (upTo 35 l)
theorem lineW_more {l : List UInt8} (h : ∀ x ∈ l, x ≠ 35) : lineW (moreLn l) = lineW l := by
 have e1 : moreLn l = (32 :: 32 :: (dbl l ++ [32, 32])) ++ 35 :: noteW.tail := by
  simp [moreLn, noteW]
 have h2 : upTo 35 l = l := upTo_none fun k e => h _ (List.mem_of_getElem? e) rfl
 unfold lineW
 rw [e1, h2, upTo_app]
 ·show wordsGo 32 (32 :: 32 :: (dbl l ++ [32, 32])) [] = _
  simp only [wordsGo, if_true]
  exact words_dbl l []
 ·intro x hx
  simp only [List.mem_cons, List.mem_append] at hx
  rcases hx with h3 | h3 | h3 | h3
  ·subst h3; decide
  ·subst h3; decide
  ·rcases dbl_mem h3 with h3 | h3
   ·exact h x h3
   ·subst h3; decide
  ·rcases h3 with h3 | h3 | h3
   ·subst h3; decide
   ·subst h3; decide
   ·cases h3
theorem parseGo_words : ∀ (ls ms : List (List UInt8)) (i next : Nat) (s : Sched), ls.map lineW = ms.map lineW → parseGo ls i next s = parseGo ms i next s
 | [], [], _, _, _, _ => rfl
 | [], _ :: _, _, _, _, h => by simp at h
 | _ :: _, [], _, _, _, h => by simp at h
 | l :: r, m :: q, i, next, s, h => by
  simp only [List.map_cons, List.cons.injEq] at h
  have h1 : wordsOn 32 (upTo 35 l) = wordsOn 32 (upTo 35 m) := h.1
  rw [parseGo, parseGo, h1]
  split
  ·exact parseGo_words r q _ _ _ h.2
  ·split
   ·rfl
   ·exact parseGo_words r q _ _ _ h.2
theorem parseGo_shift (k : Nat) : ∀ (ls : List (List UInt8)) (i next : Nat) (s : Sched), parseGo ls (i + k) next s = match parseGo ls i next s with
  | .inl m => .inl (m + k)
  | .inr q => .inr q
 | [], _, _, _ => rfl
 | l :: r, i, next, s => by
  rw [parseGo, parseGo]
  split
  ·rw [show i + k + 1 = i + 1 + k by omega]
   exact parseGo_shift k r _ _ _
  ·split
   ·simp only [Sum.inl.injEq]; omega
   ·rw [show i + k + 1 = i + 1 + k by omega]
    exact parseGo_shift k r _ _ _
theorem splitOn_app {c : UInt8} : ∀ (a : List UInt8) (b : List UInt8), (∀ x ∈ a, x ≠ c) → splitOn c (a ++ c :: b) = a :: splitOn c b
 | [], b, _ => by simp [splitOn]
 | x :: a, b, h => by
  have hx : x ≠ c := h x (by simp)
  have := splitOn_app a b fun y hy => h y (by simp [hy])
  simp only [List.cons_append, splitOn, hx, if_false, this]
theorem splitOn_join {c : UInt8} : ∀ (ls : List (List UInt8)), ls ≠ [] → (∀ l ∈ ls, ∀ x ∈ l, x ≠ c) → splitOn c (Lib.join ls [c]) = ls
 | [], h, _ => absurd rfl h
 | [l], _, h => by
  rw [Lib.join_one]
  exact splitOn_none fun k e => h l (by simp) _ (List.mem_of_getElem? e) rfl
 | l :: m :: r, _, h => by
  have e : Lib.join (l :: m :: r) [c] = l ++ c :: Lib.join (m :: r) [c] := by
   rw [Lib.join_cons, Lib.join_cons]
   simp [Lib.joinTail]
  rw [e, splitOn_app _ _ (h l (by simp)), splitOn_join (m :: r) (by simp) fun x hx => h x (by simp [hx])]
theorem splitOn_mem {c : UInt8} : ∀ (t : List UInt8), ∀ l ∈ splitOn c t, (∀ x ∈ l, x ≠ c) ∧ ∀ x ∈ l, x ∈ t
 | [], l, h => by
  simp [splitOn] at h
  subst h
  simp
 | x :: r, l, h => by
  rw [splitOn] at h
  split at h
  ·simp only [List.mem_cons] at h
   rcases h with rfl | h
   ·simp
   ·obtain ⟨h1, h2⟩ := splitOn_mem r l h
    exact ⟨h1, fun y hy => by simp [h2 y hy]⟩
  ·rename_i hx
   split at h
   ·rename_i a b hs
    simp only [List.mem_cons] at h
    rcases h with rfl | h
    ·obtain ⟨h1, h2⟩ := splitOn_mem r a (by rw [hs]; simp)
     refine ⟨fun y hy => ?_, fun y hy => ?_⟩
     ·simp only [List.mem_cons] at hy
      rcases hy with rfl | hy
      ·exact hx
      ·exact h1 y hy
     ·simp only [List.mem_cons] at hy ⊢
      exact hy.imp id (h2 y)
    ·obtain ⟨h1, h2⟩ := splitOn_mem r l (by rw [hs]; simp [h])
     exact ⟨h1, fun y hy => by simp [h2 y hy]⟩
   ·rename_i hs
    exact absurd hs (splitOn_ne c r)
theorem join_len (c : UInt8) : ∀ (ls : List (List UInt8)), ls ≠ [] → (Lib.join ls [c]).length + 1 = (ls.map fun l => l.length + 1).sum
 | [], h => absurd rfl h
 | [l], _ => by rw [Lib.join_one]; simp
 | l :: m :: r, _ => by
  have e : Lib.join (l :: m :: r) [c] = l ++ c :: Lib.join (m :: r) [c] := by
   rw [Lib.join_cons, Lib.join_cons]
   simp [Lib.joinTail]
  have := join_len c (m :: r) (by simp)
  rw [e, List.map_cons, List.sum_cons, ← this]
  simp
  omega
theorem splitOn_len (c : UInt8) : ∀ t : List UInt8, ((splitOn c t).map fun l => l.length + 1).sum = t.length + 1
 | [] => by simp [splitOn]
 | x :: r => by
  have ih := splitOn_len c r
  rw [splitOn]
  split
  ·simp [ih]
   omega
  ·cases hs : splitOn c r with
   | nil => exact absurd hs (splitOn_ne c r)
   | cons a b =>
    rw [hs] at ih
    simp at ih ⊢
    omega
theorem sum_set (ls : List (List UInt8)) (k : Nat) (x : List UInt8) (hk : k < ls.length) : ((ls.set k x).map fun l => l.length + 1).sum + (ls.getD k []).length = (ls.map fun l => l.length + 1).sum + x.length := by
 induction ls generalizing k with
 | nil => simp at hk
 | cons a r ih =>
  cases k with
  | zero => simp; omega
  | succ k =>
   have := ih k (by simpa using hk)
   simp at this ⊢
   omega
theorem mem_sum : ∀ {ls : List (List UInt8)} {l : List UInt8}, l ∈ ls → l.length + 1 ≤ (ls.map fun l => l.length + 1).sum
 | a :: r, l, h => by
  simp only [List.mem_cons] at h
  rcases h with rfl | h
  ·simp
  ·have := mem_sum h
   simp at this ⊢
   omega
def moreT (text : List UInt8) (k : Nat) : List UInt8 := Lib.join ((splitOn 10 text).set k (moreLn ((splitOn 10 text).getD k []))) [10]
def frontW : List UInt8 := [35, 32, 102, 114, 111, 110, 116]
def frontT (text : List UInt8) : List UInt8 := frontW ++ 10 :: 10 :: text
theorem getD_in {α : Type} {l : List α} {k : Nat} {d : α} (h : k < l.length) : l.getD k d ∈ l := by
 rw [List.getD, List.getElem?_eq_getElem h]
 exact List.getElem_mem h
theorem split_more (text : List UInt8) (k : Nat) (hk : k < (splitOn 10 text).length) : splitOn 10 (moreT text k) = (splitOn 10 text).set k (moreLn ((splitOn 10 text).getD k [])) := by
 refine splitOn_join _ (fun h => ?_) fun l hl x hx => ?_
 ·have := congrArg List.length h
  simp at this
  exact splitOn_ne 10 text this
 ·rcases List.mem_or_eq_of_mem_set hl with h | rfl
  ·exact (splitOn_mem text l h).1 x hx
  ·simp only [moreLn, List.mem_cons, List.mem_append] at hx
   rcases hx with rfl | rfl | h | rfl | rfl | h
   ·decide
   ·decide
   ·rcases dbl_mem h with h | rfl
    ·exact (splitOn_mem text _ (getD_in hk)).1 x h
    ·decide
   ·decide
   ·decide
   ·have : ∀ y ∈ noteW, y ≠ 10 := by decide
    exact this x h
theorem more_len (text : List UInt8) (k : Nat) (hk : k < (splitOn 10 text).length) : (moreT text k).length ≤ 2 * text.length + 40 := by
 have h1 := join_len 10 ((splitOn 10 text).set k (moreLn ((splitOn 10 text).getD k []))) (fun h => by
  have := congrArg List.length h
  simp at this
  exact splitOn_ne 10 text this)
 have h2 := sum_set (splitOn 10 text) k (moreLn ((splitOn 10 text).getD k [])) hk
 have h3 := splitOn_len 10 text
 have h4 := dbl_len ((splitOn 10 text).getD k [])
 have h5 : (moreLn ((splitOn 10 text).getD k [])).length = (dbl ((splitOn 10 text).getD k [])).length + 29 := by simp [moreLn, noteW]
 have h6 := mem_sum (getD_in (d := []) hk)
 show (Lib.join _ _).length ≤ _
 omega
theorem blanks_law (text : List UInt8) (k : Nat) (ht : text.length ≤ 1500) (hn : ∀ x ∈ text, x ≠ 35) (hk : k < (splitOn 10 text).length) :
  (parseP text).2.2 = (parseP (moreT text k)).2.2 ∧ (parseP text).2.2 = (parseP (frontT text)).2.2 ∧ (parseP text).1 = (parseP (moreT text k)).1 ∧ (parseP text).1 = (parseP (frontT text)).1 ∧
  ((parseP text).2.2 = 0 → (parseP text).2.1 = 0 ∧ (parseP (moreT text k)).2.1 = 0 ∧ (parseP (frontT text)).2.1 = 0) ∧
  ((parseP text).2.2 ≠ 0 → ((parseP text).2.1 = (parseP (moreT text k)).2.1 ∨ (k + 1 = (splitOn 10 text).length ∧ (parseP (moreT text k)).2.1 = (parseP text).2.1 + 1)) ∧ (parseP (frontT text)).2.1 = (parseP text).2.1 + 2) := by
 have hl1 := more_len text k hk
 have hl2 : (frontT text).length = text.length + 9 := by simp [frontT, frontW]
 have hs1 := split_more text k hk
 have hs2 : splitOn 10 (frontT text) = frontW :: [] :: splitOn 10 text := by
  unfold frontT
  rw [splitOn_app _ _ (by decide), show (10 :: text : List UInt8) = [] ++ 10 :: text from rfl, splitOn_app [] _ (by simp)]
 have hg1 : parseGo (splitOn 10 (moreT text k)) 0 0 zeroSched = parseGo (splitOn 10 text) 0 0 zeroSched := by
  rw [hs1]
  refine parseGo_words _ _ _ _ _ ?_
  rw [List.map_set, lineW_more fun x hx => hn x ((splitOn_mem text _ (getD_in hk)).2 x hx)]
  refine List.ext_getElem? fun j => ?_
  by_cases hj : k = j
  ·subst hj
   rw [List.getElem?_set_self (by simpa using hk)]
   simp [List.getD, List.getElem?_eq_getElem hk]
  ·rw [List.getElem?_set_ne hj]
 have hg2 : parseGo (splitOn 10 (frontT text)) 0 0 zeroSched = parseGo (splitOn 10 text) (0 + 2) 0 zeroSched := by
  rw [hs2, parseGo, show wordsOn 32 (upTo 35 frontW) = [] by decide]
  dsimp only
  rw [parseGo, show wordsOn 32 (upTo 35 []) = [] by decide]
 rw [parseGo_shift] at hg2
 unfold parseP
 rw [if_neg (show ¬ 65536 < text.length by omega), if_neg (show ¬ 65536 < (moreT text k).length by omega), if_neg (show ¬ 65536 < (frontT text).length by omega), hg1, hg2]
 cases hp : parseGo (splitOn 10 text) 0 0 zeroSched with
 | inl m => refine ⟨rfl, rfl, rfl, rfl, fun h => ?_, fun _ => ⟨.inl rfl, by simp⟩⟩; simp at h
 | inr q =>
  obtain ⟨next, s⟩ := q
  dsimp only
  by_cases h5 : next < 5
  ·rw [if_pos h5, if_pos h5, if_pos h5]
   refine ⟨rfl, rfl, rfl, rfl, fun h => ?_, fun _ => ⟨?_, ?_⟩⟩
   ·simp at h
   ·dsimp only
    rw [hs1, List.length_set]
    by_cases hkl : k + 1 = (splitOn 10 text).length
    ·have hlast : ((splitOn 10 text).set k (moreLn ((splitOn 10 text).getD k []))).getD ((splitOn 10 text).length - 1) [] = moreLn ((splitOn 10 text).getD k []) := by
      rw [show (splitOn 10 text).length - 1 = k by omega, List.getD, List.getElem?_set_self hk]
      rfl
     rw [hlast, show (moreLn ((splitOn 10 text).getD k []) == []) = false by simp [moreLn]]
     simp only [Bool.false_eq_true, if_false]
     split
     ·exact .inr ⟨hkl, by omega⟩
     ·exact .inl rfl
    ·have hlast : ((splitOn 10 text).set k (moreLn ((splitOn 10 text).getD k []))).getD ((splitOn 10 text).length - 1) [] = (splitOn 10 text).getD ((splitOn 10 text).length - 1) [] := by
      rw [List.getD, List.getElem?_set_ne (by omega), List.getD]
     rw [hlast]
     exact .inl rfl
   ·dsimp only
    rw [hs2]
    have hne : 0 < (splitOn 10 text).length := by omega
    have hlast : (frontW :: [] :: splitOn 10 text).getD ((frontW :: [] :: splitOn 10 text).length - 1) [] = (splitOn 10 text).getD ((splitOn 10 text).length - 1) [] := by
     rw [show (frontW :: [] :: splitOn 10 text).length - 1 = (splitOn 10 text).length - 1 + 1 + 1 by simp; omega]
     rfl
    rw [hlast]
    split <;> simp <;> omega
  ·rw [if_neg h5, if_neg h5, if_neg h5]
   exact ⟨rfl, rfl, rfl, rfl, fun _ => ⟨rfl, rfl, rfl⟩, fun h => absurd rfl h⟩
end
section
open Sch Pl
def smallN (n : Int) : Prop := -1000000000 < n ∧ n < 1000000000
theorem decFrom_cat (a b : List UInt8) : ∀ acc, Lib.decFrom acc (a ++ b) = match Lib.decFrom acc a with
  | some n => Lib.decFrom n b
  | none => none := by
 induction a with
 | nil => intro acc; rfl
 | cons c r ih =>
  intro acc
  simp only [List.cons_append, Lib.decFrom]
  cases Lib.digitVal c with
  | none => rfl
  | some d => exact ih _
theorem dec_digits : ∀ u : Nat, Lib.decFrom 0 (Lib.decDigits u) = some u := by
 intro u
 induction u using Nat.strongRecOn with
 | _ u ih =>
  have dig : ∀ d, d < 10 → Lib.digitVal (UInt8.ofNat (48 + d)) = some d := fun d hd => by
   have : (UInt8.ofNat (48 + d)).toNat = 48 + d := UInt8.toNat_ofNat_of_lt' (by have : UInt8.size = 256 := rfl; omega)
   rw [Lib.digitVal, this, if_pos (by omega)]
   congr 1
   omega
  rw [Lib.decDigits]
  split
  ·rename_i h
   simp only [Lib.decFrom, dig u h]
   simp
  ·rename_i h
   rw [decFrom_cat, ih (u / 10) (by omega)]
   simp only [Lib.decFrom, dig (u % 10) (by omega)]
   congr 1
   omega
theorem head_digits (u : Nat) : (Lib.decDigits u).head? ≠ some 45 ∧ Lib.decDigits u ≠ [] := by
 have hne : Lib.decDigits u ≠ [] := fun h => by
  have := Lib.decDigits_length u
  rw [h] at this
  have := Lib.nDigits_pos u
  simp at *
  omega
 refine ⟨fun h => ?_, hne⟩
 have h0 : (Lib.decDigits u)[0]? = some 45 := by rw [← List.head?_eq_getElem?]; exact h
 obtain ⟨d, hd⟩ := Lib.digit_of_decFrom _ 0 u (dec_digits u) 0 45 h0
 simp [Lib.digitVal] at hd
theorem decFrom_ge : ∀ (l : List UInt8) (acc m : Nat), Lib.decFrom acc l = some m → acc ≤ m
 | [], acc, m, h => by simp [Lib.decFrom] at h; omega
 | c :: r, acc, m, h => by
  simp only [Lib.decFrom] at h
  split at h
  ·have := decFrom_ge r _ m h
   omega
  ·cases h
theorem parse_dec : ∀ (l : List UInt8) (acc m : Nat), Lib.decFrom acc l = some m → m < 1000000000000000000 → Lib.parseUint10 acc l = .ok m
 | [], acc, m, h, _ => by simp [Lib.decFrom] at h; rw [Lib.parseUint10, h]
 | c :: r, acc, m, h, hm => by
  simp only [Lib.decFrom] at h
  split at h
  ·rename_i d hd
   obtain ⟨h1, h2, h3⟩ := Lib.digitVal_eq hd
   have hge := decFrom_ge r _ m h
   rw [Lib.parseUint10, if_pos ⟨h1, h2⟩, if_neg (by omega), if_neg (by omega), ← h3]
   exact parse_dec r _ m h hm
  ·cases h
theorem num_itoa {v : Int} (h : smallN v) : numOf (Lib.itoa v) = some v := by
 unfold smallN at h
 have hp := parse_dec _ 0 _ (dec_digits v.natAbs) (by omega)
 obtain ⟨h1, h2⟩ := head_digits v.natAbs
 have hm : Lib.parseMag (Lib.decDigits v.natAbs) = .ok v.natAbs := by rw [Lib.parseMag, if_neg h2, hp]
 unfold numOf
 have ha : Lib.atoiAll (Lib.itoa v) = .ok v := by
  unfold Lib.itoa
  split
  ·rename_i hv
   simp only [Lib.atoiAll]
   rw [if_pos (.inr (by decide)), hm]
   simp only
   rw [if_neg (by simp), if_neg (by omega), if_pos (by decide)]
   congr 1
   omega
  ·rename_i hv
   have e : v.toNat = v.natAbs := by omega
   rw [e]
   cases hd : Lib.decDigits v.natAbs with
   | nil => exact absurd hd h2
   | cons c r =>
    obtain ⟨d, hdd⟩ := Lib.digit_of_decFrom _ 0 _ (dec_digits v.natAbs) 0 c (by rw [hd]; rfl)
    obtain ⟨g1, g2, g3⟩ := Lib.digitVal_eq hdd
    simp only [Lib.atoiAll]
    rw [if_neg (by omega), ← hd, hm]
    simp only
    rw [if_neg (by omega), if_neg (by omega), if_neg (by omega)]
    congr 1
    omega
 rw [ha]
 simp
theorem isDrop_iff (w0 : List UInt8) (r : List (List UInt8)) : isDrop (w0 :: r) = true ↔ r = [dropW] := by
 unfold isDrop
 match r with
 | [] => simp
 | [a] => simp
 | a :: b :: r => simp
theorem fate_small {d a : Int} {b : Bool} (h : fateOk ⟨b, d, a⟩ = true) : smallN d ∧ smallN a := by
 unfold fateOk at h
 unfold smallN
 split at h <;> simp [between] at h <;> omega
structure SmallX (x : Step) : Prop where
 t : smallN x.tick
 r : smallN x.replica
 o : smallN x.other
 s : smallN x.session
 a : smallN x.action
 f : smallN x.after
 q : ∀ y ∈ x.queries, smallN y.2
 v : ∀ y ∈ x.survive, smallN y
 w : ∀ y ∈ x.voters, smallN y
theorem small_of {s : Sched} {x : Step} (h : head s = true) (hf : follows s x = true) : SmallX x := by
 simp only [head, follows, possible, between, Bool.and_eq_true, decide_eq_true_eq] at h hf
 obtain ⟨⟨⟨-, ht⟩, -⟩, ⟨⟨hk, hsame⟩, hr⟩, hko⟩ := hf
 have hs := (sameStep_iff x (fieldsOf x)).1 hsame
 have hk7 : x.kind = 0 ∨ x.kind = 1 ∨ x.kind = 2 ∨ x.kind = 3 ∨ x.kind = 4 ∨ x.kind = 5 ∨ x.kind = 6 := by omega
 have e1 := congrArg Step.other hs
 have e2 := congrArg Step.session hs
 have e3 := congrArg Step.action hs
 have e4 := congrArg Step.after hs
 have e5 := congrArg Step.queries hs
 have e6 := congrArg Step.survive hs
 have e7 := congrArg Step.voters hs
 clear hs hsame
 rcases hk7 with hk' | hk' | hk' | hk' | hk' | hk' | hk' <;> simp [fieldsOf, Sch.kindOk, hk', zeroStep, between, allIn] at e1 e2 e3 e4 e5 e6 e7 hko
 all_goals refine ⟨by unfold smallN; omega, by unfold smallN; omega, by unfold smallN; omega, by unfold smallN; omega, by unfold smallN; omega, by unfold smallN; omega, ?_, ?_, ?_⟩
 all_goals first
  | (rw [e5]; simp; done)
  | (rw [e6]; simp; done)
  | (rw [e7]; simp; done)
  | skip
 ·intro q hq
  have := hko.2 q.1 q.2 hq
  simp only [queryOk, between, Bool.and_eq_true, decide_eq_true_eq] at this
  unfold smallN
  omega
 ·intro n hn
  have := hko.2 n hn
  unfold smallN
  omega
 ·intro n hn
  have := hko.2 n hn
  unfold smallN
  omega
end
section
open Sch Pl
def Wd1 (w : List UInt8) : Prop := w ≠ [] ∧ ∀ x ∈ w, x ≠ 10 ∧ x ≠ 32 ∧ x ≠ 35
theorem digits_ok : ∀ (u : Nat), ∀ x ∈ Lib.decDigits u, x ≠ 10 ∧ x ≠ 32 ∧ x ≠ 35 := by
 have one : ∀ d, d < 10 → (UInt8.ofNat (48 + d) ≠ 10 ∧ UInt8.ofNat (48 + d) ≠ 32 ∧ UInt8.ofNat (48 + d) ≠ 35) := by decide
 intro u
 induction u using Nat.strongRecOn with
 | _ u ih =>
  intro x hx
  rw [Lib.decDigits] at hx
  split at hx
  ·rename_i h
   simp only [List.mem_singleton] at hx
   subst hx
   exact one u h
  ·rename_i h
   rcases List.mem_append.mp hx with hx | hx
   ·exact ih (u / 10) (by omega) x hx
   ·simp only [List.mem_singleton] at hx
    subst hx
    exact one _ (Nat.mod_lt _ (by omega))
theorem itoa_word (n : Int) : Wd1 (Lib.itoa n) := by
 unfold Lib.itoa
 split
 ·refine ⟨by simp, fun x hx => ?_⟩
  rcases List.mem_cons.mp hx with rfl | hx
  ·decide
  ·exact digits_ok _ x hx
 ·exact ⟨(head_digits _).2, digits_ok _⟩
def joinW : List UInt8 → List (List UInt8) → List UInt8
 | w, [] => w
 | w, x :: r => w ++ 32 :: joinW x r
theorem joinW_app (w : List UInt8) (r : List (List UInt8)) (x : List UInt8) (m : List (List UInt8)) : joinW w (r ++ x :: m) = joinW w r ++ 32 :: joinW x m := by
 induction r generalizing w with
 | nil => rfl
 | cons y r ih => simp only [List.cons_append, joinW, ih, List.append_assoc]
theorem joinW_join (w : List UInt8) (a : List (List UInt8)) (b : List (List UInt8)) : joinW (joinW w a) b = joinW w (a ++ b) := by
 cases b with
 | nil => simp [joinW]
 | cons x m => rw [joinW_app]; rfl
theorem lineTo_join (w : List UInt8) (r : List (List UInt8)) (ns : List Int) : lineTo (joinW w r) ns = joinW w (r ++ ns.map Lib.itoa) := by
 induction ns generalizing r with
 | nil => simp [lineTo]
 | cons n l ih =>
  rw [lineTo, show joinW w r ++ 32 :: Lib.itoa n = joinW w (r ++ [Lib.itoa n]) by rw [joinW_app]; rfl, ih]
  simp
theorem wordsGo_ne {c : UInt8} {cur : List UInt8} (h : cur ≠ []) : wordsGo c [] cur = [cur] := by
 cases cur with
 | nil => exact absurd rfl h
 | cons a b => rfl
theorem wordsGo_blank {r cur : List UInt8} (h : cur ≠ []) : wordsGo 32 (32 :: r) cur = cur :: wordsGo 32 r [] := by
 cases cur with
 | nil => exact absurd rfl h
 | cons a b => simp [wordsGo]
theorem wordsOn_join : ∀ (r : List (List UInt8)) (w : List UInt8), Wd1 w → (∀ x ∈ r, Wd1 x) → wordsOn 32 (joinW w r) = w :: r
 | [], w, hw, _ => by
  have := wordsGo_skip (c := 32) w [] [] (fun x hx => (hw.2 x hx).2.1)
  rw [List.append_nil] at this
  rw [wordsOn, joinW, this, List.nil_append, wordsGo_ne hw.1]
 | x :: r, w, hw, h => by
  rw [wordsOn, joinW, wordsGo_skip w _ [] (fun x hx => (hw.2 x hx).2.1), List.nil_append, wordsGo_blank hw.1]
  exact congrArg (w :: ·) (wordsOn_join r x (h x List.mem_cons_self) fun y hy => h y (List.mem_cons_of_mem _ hy))
theorem join_mem : ∀ (r : List (List UInt8)) (w : List UInt8), Wd1 w → (∀ x ∈ r, Wd1 x) → ∀ x ∈ joinW w r, x ≠ 10 ∧ x ≠ 35
 | [], w, hw, _, x, hx => ⟨(hw.2 x hx).1, (hw.2 x hx).2.2⟩
 | y :: r, w, hw, h, x, hx => by
  rw [joinW] at hx
  rcases List.mem_append.mp hx with hx | hx
  ·exact ⟨(hw.2 x hx).1, (hw.2 x hx).2.2⟩
  ·rcases List.mem_cons.mp hx with rfl | hx
   ·decide
   ·exact join_mem r y (h y List.mem_cons_self) (fun z hz => h z (List.mem_cons_of_mem _ hz)) x hx
theorem upTo_clean {c : UInt8} {l : List UInt8} (h : ∀ x ∈ l, x ≠ c) : upTo c l = l :=
 upTo_none fun k hk => h c (List.mem_of_getElem? hk) rfl
theorem lineW_join {w : List UInt8} {r : List (List UInt8)} (hw : Wd1 w) (h : ∀ x ∈ r, Wd1 x) : lineW (joinW w r) = w :: r := by
 rw [lineW, upTo_clean (fun x hx => (join_mem r w hw h x hx).2), wordsOn_join r w hw h]
theorem nums_itoa : ∀ {ns : List Int}, (∀ n ∈ ns, smallN n) → numsOf (ns.map Lib.itoa) = some ns
 | [], _ => rfl
 | n :: r, h => by
  simp only [List.map_cons, numsOf, num_itoa (h n List.mem_cons_self), nums_itoa fun m hm => h m (List.mem_cons_of_mem _ hm)]
theorem map_words (ns : List Int) : ∀ x ∈ ns.map Lib.itoa, Wd1 x := fun x hx => by
 obtain ⟨n, -, rfl⟩ := List.mem_map.mp hx
 exact itoa_word n
abbrev LineW := List UInt8 × List (List UInt8)
def lineL (l : LineW) : List UInt8 := joinW l.1 l.2 ++ [10]
def okLine (l : LineW) : Prop := Wd1 l.1 ∧ ∀ x ∈ l.2, Wd1 x
theorem split_lines : ∀ (ls : List LineW), (∀ l ∈ ls, okLine l) → splitOn 10 (ls.flatMap lineL) = ls.map (fun l => joinW l.1 l.2) ++ [[]]
 | [], _ => rfl
 | l :: r, h => by
  obtain ⟨h1, h2⟩ := h l List.mem_cons_self
  rw [List.flatMap_cons, lineL, List.append_assoc, List.singleton_append, splitOn_app _ _ (fun x hx => (join_mem l.2 l.1 h1 h2 x hx).1), split_lines r fun m hm => h m (List.mem_cons_of_mem _ hm)]
  rfl
def goW : List LineW → Nat → Sched → Option (Nat × Sched)
 | [], next, s => some (next, s)
 | l :: r, next, s => match lineP next s l.1 l.2 with
  | none => none
  | some (n, s') => goW r n s'
theorem parseGo_W : ∀ (ls : List LineW) (i next : Nat) (s : Sched) (n : Nat) (s' : Sched), (∀ l ∈ ls, okLine l) → goW ls next s = some (n, s') → parseGo (ls.map (fun l => joinW l.1 l.2) ++ [[]]) i next s = .inr (n, s')
 | [], i, next, s, n, s', _, h => by
  simp only [goW, Option.some.injEq, Prod.mk.injEq] at h
  obtain ⟨rfl, rfl⟩ := h
  rfl
 | l :: r, i, next, s, n, s', ho, h => by
  obtain ⟨h1, h2⟩ := ho l List.mem_cons_self
  simp only [goW] at h
  rw [List.map_cons, List.cons_append, parseGo]
  have hl : wordsOn 32 (upTo 35 (joinW l.1 l.2)) = l.1 :: l.2 := lineW_join h1 h2
  rw [hl]
  cases hp : lineP next s l.1 l.2 with
  | none => rw [hp] at h; cases h
  | some q =>
   rw [hp] at h
   dsimp only
   rw [hp]
   exact parseGo_W r (i + 1) q.1 q.2 n s' (fun m hm => ho m (List.mem_cons_of_mem _ hm)) h
theorem goW_app : ∀ (a b : List LineW) (next : Nat) (s : Sched), goW (a ++ b) next s = match goW a next s with
  | none => none
  | some (n, s') => goW b n s'
 | [], _, _, _ => rfl
 | l :: a, b, next, s => by
  simp only [List.cons_append, goW]
  cases lineP next s l.1 l.2 with
  | none => rfl
  | some q => exact goW_app a b q.1 q.2
def headL (s : Sched) : List LineW := [(wReplicas, [s.replicas].map Lib.itoa), (wSessions, [s.sessions].map Lib.itoa), (wSectors, [s.sectors].map Lib.itoa), (wTicks, [s.ticks].map Lib.itoa), (wState, s.state.map Lib.itoa)]
def fateL (f : Fate) : LineW := (wFate, if f.drop then [dropW] else if f.again = 0 then [f.delay].map Lib.itoa else [f.delay, f.again].map Lib.itoa)
def queryL (q : Query) : List (List UInt8) := [queryWords.getD q.1.toNat [], Lib.itoa q.2]
def numsS (x : Step) : List Int := match x.kind with
 | 0 => [x.replica, x.session, x.action]
 | 1 => [x.replica, x.session]
 | 2 => [x.replica, x.other]
 | 3 => [x.replica, x.other]
 | 4 => x.replica :: x.after :: x.survive
 | 6 => x.replica :: x.voters
 | _ => [x.replica]
def stepL (x : Step) : LineW := (atW, Lib.itoa x.tick :: kindWords.getD x.kind.toNat [] :: ((numsS x).map Lib.itoa ++ (if x.kind = 1 then x.queries.flatMap queryL else [])))
theorem lineP1_L (w : List UInt8) (ns : List Int) : lineP1 w ns = lineL (w, ns.map Lib.itoa) := by
 unfold lineP1 lineL
 have := lineTo_join w [] ns
 rw [show joinW w [] = w from rfl, List.nil_append] at this
 rw [this]
theorem headText_L (s : Sched) : headText s = (headL s).flatMap lineL := by
 simp only [headText, headL, lineP1_L, List.flatMap_cons, List.flatMap_nil, List.append_assoc, List.append_nil]
theorem fateText_L (f : Fate) : fateText f = lineL (fateL f) := by
 unfold fateText fateL
 split
 ·rfl
 ·split
  ·exact lineP1_L _ _
  ·exact lineP1_L _ _
theorem qText_L (l : List Query) : ∀ (w : List UInt8) (r : List (List UInt8)), qText (joinW w r) l = joinW w (r ++ l.flatMap queryL) := by
 induction l with
 | nil => intro w r; simp [qText]
 | cons q l ih =>
  intro w r
  rw [qText, show joinW w r ++ 32 :: queryWords.getD q.1.toNat [] = joinW w (r ++ [queryWords.getD q.1.toNat []]) by rw [joinW_app]; rfl, lineTo_join, ih]
  simp [queryL]
theorem writtenW_L (x : Step) (h0 : 0 ≤ x.kind) (h6 : x.kind ≤ 6) : writtenW x = joinW (kindWords.getD x.kind.toNat []) ((numsS x).map Lib.itoa ++ (if x.kind = 1 then x.queries.flatMap queryL else [])) := by
 have one : ∀ (w : List UInt8) (ns : List Int), lineTo w ns = joinW w (ns.map Lib.itoa) := fun w ns => lineTo_join w [] ns
 have app : ∀ (w : List UInt8) (a b : List Int), lineTo (joinW w (a.map Lib.itoa)) b = joinW w ((a ++ b).map Lib.itoa) := fun w a b => by rw [lineTo_join, List.map_append]
 have hk : x.kind = 0 ∨ x.kind = 1 ∨ x.kind = 2 ∨ x.kind = 3 ∨ x.kind = 4 ∨ x.kind = 5 ∨ x.kind = 6 := by omega
 unfold writtenW numsS
 rcases hk with hk | hk | hk | hk | hk | hk | hk <;> simp only [hk, one, app, qText_L] <;> simp [joinW_join]
theorem written_L (x : Step) (h0 : 0 ≤ x.kind) (h6 : x.kind ≤ 6) : writtenP x = lineL (stepL x) := by
 unfold writtenP lineL stepL
 rw [writtenW_L x h0 h6]
 rfl
theorem kindWord_ok : ∀ k : Nat, k ≤ 6 → Wd1 (kindWords.getD k []) ∧ idxW kindWords (kindWords.getD k []) = k := by
 intro k hk
 match k, hk with
 | 0, _ => exact ⟨⟨by decide, by decide⟩, rfl⟩
 | 1, _ => exact ⟨⟨by decide, by decide⟩, rfl⟩
 | 2, _ => exact ⟨⟨by decide, by decide⟩, rfl⟩
 | 3, _ => exact ⟨⟨by decide, by decide⟩, rfl⟩
 | 4, _ => exact ⟨⟨by decide, by decide⟩, rfl⟩
 | 5, _ => exact ⟨⟨by decide, by decide⟩, rfl⟩
 | 6, _ => exact ⟨⟨by decide, by decide⟩, rfl⟩
theorem queryWord_ok : ∀ k : Nat, k ≤ 2 → Wd1 (queryWords.getD k []) ∧ idxW queryWords (queryWords.getD k []) = k := by
 intro k hk
 match k, hk with
 | 0, _ => exact ⟨⟨by decide, by decide⟩, rfl⟩
 | 1, _ => exact ⟨⟨by decide, by decide⟩, rfl⟩
 | 2, _ => exact ⟨⟨by decide, by decide⟩, rfl⟩
theorem queries_L : ∀ (l : List Query), (∀ q ∈ l, queryOk q = true) → queriesOf (l.flatMap queryL) = some l ∧ ∀ x ∈ l.flatMap queryL, Wd1 x
 | [], _ => ⟨rfl, fun x hx => by simp at hx⟩
 | q :: l, h => by
  have hq := h q List.mem_cons_self
  simp only [queryOk, between, Bool.and_eq_true, decide_eq_true_eq] at hq
  obtain ⟨g1, g2⟩ := queryWord_ok q.1.toNat (by omega)
  obtain ⟨i1, i2⟩ := queries_L l fun x hx => h x (List.mem_cons_of_mem _ hx)
  have hi : idxW queryWords (queryWords.getD q.1.toNat []) = q.1 := by rw [g2]; omega
  refine ⟨?_, fun x hx => ?_⟩
  ·rw [List.flatMap_cons, queryL, List.cons_append, List.cons_append, List.nil_append, queriesOf, hi, if_neg (by omega), num_itoa (by unfold smallN; omega), i1]
  ·rw [List.flatMap_cons] at hx
   rcases List.mem_append.mp hx with hx | hx
   ·simp only [queryL, List.mem_cons, List.not_mem_nil, or_false] at hx
    rcases hx with rfl | rfl
    ·exact g1
    ·exact itoa_word _
   ·exact i2 x hx
theorem stepOf_L {s : Sched} {x : Step} (hh : head s = true) (hf : follows s x = true) : stepOf (stepL x).2 = some x ∧ okLine (stepL x) := by
 have hS := small_of hh hf
 have hf' := hf
 simp only [follows, possible, between, Bool.and_eq_true, decide_eq_true_eq] at hf'
 obtain ⟨-, ⟨⟨⟨hk0, hk6⟩, hsame⟩, -⟩, hko⟩ := hf'
 have hs := (sameStep_iff x (fieldsOf x)).1 hsame
 obtain ⟨kw, ki⟩ := kindWord_ok x.kind.toNat (by omega)
 have hkk : ((x.kind.toNat : Nat) : Int) = x.kind := by omega
 have hq : x.kind = 1 → (∀ q ∈ x.queries, queryOk q = true) ∧ 1 ≤ x.queries.length := fun h => by
  simp [Sch.kindOk, h, between] at hko
  exact ⟨fun q hq => hko.2 q.1 q.2 hq, by omega⟩
 have hns : ∀ n ∈ numsS x, smallN n := by
  have hall : ∀ n ∈ x.replica :: x.session :: x.action :: x.other :: x.after :: (x.survive ++ x.voters), smallN n := by
   intro n hn
   simp only [List.mem_cons, List.mem_append] at hn
   rcases hn with rfl | rfl | rfl | rfl | rfl | hn | hn
   ·exact hS.r
   ·exact hS.s
   ·exact hS.a
   ·exact hS.o
   ·exact hS.f
   ·exact hS.v n hn
   ·exact hS.w n hn
  intro n hn
  apply hall
  unfold numsS at hn
  split at hn <;> simp only [List.mem_cons, List.not_mem_nil, or_false, List.mem_append] at hn ⊢ <;> grind
 have hnum := nums_itoa hns
 have wa : Wd1 atW := ⟨by decide, by decide⟩
 refine ⟨?_, ⟨wa, fun w hw => ?_⟩⟩
 ·have ht := num_itoa hS.t
  have htv := numOf_numV ht
  have hk : x.kind = 0 ∨ x.kind = 1 ∨ x.kind = 2 ∨ x.kind = 3 ∨ x.kind = 4 ∨ x.kind = 5 ∨ x.kind = 6 := by omega
  by_cases h1 : x.kind = 1
  ·obtain ⟨hq1, hq2⟩ := hq h1
   have hql := queries_L x.queries hq1
   have hlen : (x.queries.flatMap queryL).length = 2 * x.queries.length := by
    generalize x.queries = l
    induction l with
    | nil => rfl
    | cons a l ih => rw [List.flatMap_cons, List.length_append, ih]; simp [queryL]; omega
   have hn1 : numsS x = [x.replica, x.session] := by simp [numsS, h1]
   rw [hn1] at hnum
   simp only [stepL, stepOf, hkk ▸ ki, hn1, h1, if_true]
   rw [show kindWords.getD (1 : Int).toNat [] = kindWords.getD 1 [] from rfl, (kindWord_ok 1 (by omega)).2]
   have hb : badStep true (numOf (Lib.itoa x.tick)).isSome ([x.replica, x.session].map Lib.itoa ++ x.queries.flatMap queryL).length (shapeOf ((1 : Nat) : Int).toNat).1 (shapeOf ((1 : Nat) : Int).toNat).2 = false := by
    rw [ht, List.length_append, hlen]
    simp [badStep, shapeOf]
    omega
   rw [if_neg (by omega), if_neg (by rw [hb]; simp), if_pos (by omega)]
   have e1 : ([x.replica, x.session].map Lib.itoa ++ x.queries.flatMap queryL).drop 2 = x.queries.flatMap queryL := rfl
   have e2 : ([x.replica, x.session].map Lib.itoa ++ x.queries.flatMap queryL).take 2 = [x.replica, x.session].map Lib.itoa := rfl
   rw [e1, e2, hql.1, hnum, htv]
   dsimp only [buildStep]
   rw [hs]
   simp [fieldsOf, h1, zeroStep]
  ·have hkn : x.kind.toNat ≠ 1 := by omega
   simp only [stepL, stepOf, if_neg h1, List.append_nil]
   rw [ki]
   have hb : badStep true (numOf (Lib.itoa x.tick)).isSome ((numsS x).map Lib.itoa).length (shapeOf ((x.kind.toNat : Nat) : Int).toNat).1 (shapeOf ((x.kind.toNat : Nat) : Int).toNat).2 = false := by
    rw [ht, List.length_map, Int.toNat_natCast]
    rcases hk with hk | hk | hk | hk | hk | hk | hk <;> simp [hk, badStep, shapeOf, numsS] <;> first | exact absurd hk h1 | (simp [Sch.kindOk, hk] at hko; omega)
   rw [if_neg (by omega), if_neg (by rw [hb]; simp), if_neg (by omega), hnum, htv]
   dsimp only
   rw [Int.toNat_natCast]
   have e := hs
   rcases hk with hk | hk | hk | hk | hk | hk | hk <;> first | exact absurd hk h1 | skip
   all_goals
    have hkt : x.kind.toNat = _ := congrArg Int.toNat hk
    simp only [Int.toNat_zero, Int.reduceToNat] at hkt
    rw [hkt]
    simp only [numsS, hk, buildStep]
    conv => rhs; rw [hs]
    simp [fieldsOf, hk, zeroStep]
 ·simp only [stepL, List.mem_cons, List.mem_append] at hw
  rcases hw with rfl | rfl | hw | hw
  ·exact itoa_word _
  ·exact kw
  ·exact map_words _ w hw
  ·split at hw
   ·rename_i h1
    exact (queries_L x.queries (hq h1).1).2 w hw
   ·cases hw
theorem fateOf_L {f : Fate} (hf : fateOk f = true) : fateOf (wFate :: (fateL f).2) = some f ∧ okLine (fateL f) := by
 obtain ⟨d, x, a⟩ := f
 obtain ⟨h1, h2⟩ := fate_small (d := x) (a := a) (b := d) hf
 have wf : Wd1 wFate := ⟨by decide, by decide⟩
 unfold fateOk at hf
 cases d with
 | true =>
  simp only [if_true, Bool.and_eq_true, decide_eq_true_eq] at hf
  obtain ⟨rfl, rfl⟩ := hf
  exact ⟨rfl, wf, fun w hw => by simp [fateL] at hw; subst hw; exact ⟨by decide, by decide⟩⟩
 | false =>
  have nd : ∀ n : Int, Lib.itoa n ≠ dropW := fun n h => by
   have h4 : (Lib.itoa n)[0]? = some 100 := by rw [h]; rfl
   unfold Lib.itoa at h4
   split at h4
   ·simp at h4
   ·have h5 := dec_digits n.toNat
    obtain ⟨d, hd⟩ := Lib.digit_of_decFrom _ 0 _ h5 0 100 h4
    simp [Lib.digitVal] at hd
  have id1 : isDrop (wFate :: (fateL ⟨false, x, a⟩).2) = false := by
   rw [Bool.eq_false_iff]
   intro h
   rw [isDrop_iff] at h
   unfold fateL at h
   simp only [Bool.false_eq_true, if_false] at h
   split at h
   ·simp at h; exact nd x h
   ·simp at h
  refine ⟨?_, wf, fun w hw => ?_⟩
  ·unfold fateOf
   rw [id1]
   simp only [Bool.false_eq_true, if_false, List.tail_cons, fateL]
   by_cases ha : a = 0
   ·subst ha
    rw [if_pos rfl, nums_itoa (ns := [x]) (by simpa using h1)]
   ·rw [if_neg ha, nums_itoa (ns := [x, a]) (by simpa using ⟨h1, h2⟩)]
    simp [ha]
  ·unfold fateL at hw
   simp only [Bool.false_eq_true, if_false] at hw
   split at hw
   ·exact map_words _ w hw
   ·exact map_words _ w hw
theorem goW_fates (s : Sched) (hs : s.steps = []) : ∀ (l done : List Fate), (∀ f ∈ l, fateOk f = true) → done.length + l.length ≤ 256 → goW (l.map fateL) 5 { s with fates := done } = some (5, { s with fates := done ++ l })
 | [], done, _, _ => by simp [goW]
 | f :: l, done, h, hn => by
  have hf := h f List.mem_cons_self
  simp only [List.length_cons] at hn
  have hp : lineP 5 { s with fates := done } (fateL f).1 (fateL f).2 = some (5, { s with fates := done ++ [f] }) := by
   unfold lineP
   rw [if_neg (by omega), if_neg (by omega), if_pos (by rfl), show (fateL f).1 = wFate from rfl, (fateOf_L hf).1]
   dsimp only
   rw [if_pos (by simp [hs, hf]; omega)]
  rw [List.map_cons, goW, hp]
  dsimp only
  rw [goW_fates s hs l (done ++ [f]) (fun g hg => h g (List.mem_cons_of_mem _ hg)) (by simp; omega)]
  simp
theorem goW_steps (s : Sched) (hh : head s = true) : ∀ (l done : List Step), stepsOk s done l = true → goW (l.map stepL) 5 { s with steps := done } = some (5, { s with steps := done ++ l })
 | [], done, _ => by simp [goW]
 | x :: l, done, h => by
  simp only [stepsOk, Bool.and_eq_true] at h
  have hh' : head { s with steps := done } = true := hh
  have hp : lineP 5 { s with steps := done } (stepL x).1 (stepL x).2 = some (5, { s with steps := done ++ [x] }) := by
   unfold lineP
   rw [if_neg (by omega), if_neg (by omega), if_neg (by rw [show (stepL x).1 = atW from rfl]; decide), if_pos (by rfl), (stepOf_L hh' h.1).1]
   dsimp only
   rw [if_pos h.1]
  rw [List.map_cons, goW, hp]
  dsimp only
  rw [goW_steps s hh l (done ++ [x]) h.2]
  simp
theorem steps_lines (s : Sched) (hh : head s = true) : ∀ (l done : List Step), stepsOk s done l = true → ∀ x ∈ l, okLine (stepL x) ∧ 0 ≤ x.kind ∧ x.kind ≤ 6
 | y :: l, done, h, x, hx => by
  simp only [stepsOk, Bool.and_eq_true] at h
  have hh' : head { s with steps := done } = true := hh
  cases hx with
  | head =>
   refine ⟨(stepOf_L hh' h.1).2, ?_⟩
   have hf := h.1
   simp only [follows, possible, between, Bool.and_eq_true, decide_eq_true_eq] at hf
   exact hf.2.1.1.1
  | tail _ hx => exact steps_lines s hh l (done ++ [y]) h.2 x hx
def linesL (s : Sched) : List LineW := headL s ++ s.fates.map fateL ++ s.steps.map stepL
theorem valid_parts {s : Sched} (h : valid s = true) : head s = true ∧ s.fates.length ≤ 256 ∧ (∀ f ∈ s.fates, fateOk f = true) ∧ stepsOk s [] s.steps = true := by
 simp only [valid, Bool.and_eq_true, decide_eq_true_eq, List.all_eq_true] at h
 exact ⟨h.1.1.1, h.1.1.2, h.1.2, h.2⟩
theorem fmt_lines {s : Sched} (h : valid s = true) : fmtText s = (linesL s).flatMap lineL ∧ ∀ l ∈ linesL s, okLine l := by
 obtain ⟨hh, -, hf, hp⟩ := valid_parts h
 have hst := steps_lines s hh s.steps [] hp
 refine ⟨?_, fun l hl => ?_⟩
 ·have e : ∀ l : List Step, (∀ x ∈ l, 0 ≤ x.kind ∧ x.kind ≤ 6) → l.flatMap writtenP = (l.map stepL).flatMap lineL := by
   intro l
   induction l with
   | nil => intro _; rfl
   | cons x r ih =>
    intro hx
    have h0 := hx x List.mem_cons_self
    rw [List.flatMap_cons, List.map_cons, List.flatMap_cons, written_L x h0.1 h0.2, ih fun y hy => hx y (List.mem_cons_of_mem _ hy)]
  have e2 : ∀ l : List Fate, l.flatMap fateText = (l.map fateL).flatMap lineL := by
   intro l
   induction l with
   | nil => rfl
   | cons x r ih => rw [List.flatMap_cons, List.map_cons, List.flatMap_cons, fateText_L, ih]
  rw [fmtText, linesL, List.flatMap_append, List.flatMap_append, headText_L, e _ fun x hx => (hst x hx).2, e2]
 ·simp only [linesL, List.mem_append, List.mem_map] at hl
  rcases hl with (hl | ⟨f, hf', rfl⟩) | ⟨x, hx, rfl⟩
  ·simp only [headL, List.mem_cons, List.not_mem_nil, or_false] at hl
   have w1 : Wd1 wReplicas ∧ Wd1 wSessions ∧ Wd1 wSectors ∧ Wd1 wTicks ∧ Wd1 wState := ⟨⟨by decide, by decide⟩, ⟨by decide, by decide⟩, ⟨by decide, by decide⟩, ⟨by decide, by decide⟩, ⟨by decide, by decide⟩⟩
   obtain ⟨a1, a2, a3, a4, a5⟩ := w1
   rcases hl with rfl | rfl | rfl | rfl | rfl
   ·exact ⟨a1, map_words _⟩
   ·exact ⟨a2, map_words _⟩
   ·exact ⟨a3, map_words _⟩
   ·exact ⟨a4, map_words _⟩
   ·exact ⟨a5, map_words _⟩
  ·exact (fateOf_L (hf f hf')).2
  ·exact (hst x hx).1
theorem goW_head {s : Sched} (hh : head s = true) : goW (headL s) 0 zeroSched = some (5, { s with fates := [], steps := [] }) := by
 simp only [head, between, Bool.and_eq_true, decide_eq_true_eq] at hh
 obtain ⟨⟨⟨⟨⟨a, b⟩, c⟩, d⟩, e⟩, f⟩ := hh
 have hs : ∀ n ∈ s.state, smallN n := fun n hn => by
  simp only [allIn, List.all_eq_true, between, Bool.and_eq_true, decide_eq_true_eq] at f
  have := f n hn
  unfold smallN
  omega
 have one : ∀ (k : Nat) (w : List UInt8) (p : Sched) (n : Int), k < 4 → w = headName k → smallN n → between n (headLo k) (headHi k) = true → lineP k p w ([n].map Lib.itoa) = some (k + 1, setHead p k n) := fun k w p n hk hw hn hb => by
  unfold lineP headOf
  rw [if_pos hk, nums_itoa (by simpa using hn), hw]
  simp only [beq_self_eq_true, List.length_singleton, Bool.or_true, Bool.and_self, if_true]
  rw [if_pos hb]
 have h4 : ∀ p : Sched, lineP 4 p wState (s.state.map Lib.itoa) = some (5, { p with state := s.state }) := fun p => by
  unfold lineP headOf
  rw [if_neg (by omega), if_pos rfl, nums_itoa hs]
  have : (wState == headName 4 && (decide (4 ≤ 4) || s.state.length == 1)) = true := rfl
  dsimp only
  rw [if_pos this]
  dsimp only
  rw [if_pos (by simp [f]; omega)]
 simp only [headL, goW]
 rw [one 0 wReplicas _ _ (by omega) rfl (by unfold smallN; omega) (by simp [between, headLo, headHi]; omega)]
 dsimp only
 rw [one 1 wSessions _ _ (by omega) rfl (by unfold smallN; omega) (by simp [between, headLo, headHi]; omega)]
 dsimp only
 rw [one 2 wSectors _ _ (by omega) rfl (by unfold smallN; omega) (by simp [between, headLo, headHi]; omega)]
 dsimp only
 rw [one 3 wTicks _ _ (by omega) rfl (by unfold smallN; omega) (by simp [between, headLo, headHi]; omega)]
 dsimp only
 rw [h4]
 rfl
theorem parse_fmt {s : Sched} (h : valid s = true) (hl : (fmtText s).length ≤ 65536) : parseP (fmtText s) = (s, 0, 0) := by
 obtain ⟨e, ho⟩ := fmt_lines h
 obtain ⟨hh, hf, hfo, hp⟩ := valid_parts h
 have hg : goW (linesL s) 0 zeroSched = some (5, s) := by
  rw [linesL, goW_app, goW_app, goW_head hh]
  dsimp only
  rw [goW_fates { s with fates := [], steps := [] } rfl s.fates [] hfo (by simpa using hf)]
  dsimp only
  have := goW_steps { s with steps := [] } hh s.steps [] (by rw [stepsOk_same (s := { s with steps := [] }) (s' := s) (fun _ => rfl)]; exact hp)
  simpa using this
 have hg2 := parseGo_W (linesL s) 0 0 zeroSched 5 s ho hg
 unfold parseP
 rw [if_neg (by omega), e, split_lines _ ho, hg2]
 rfl
end
section
open Sch Pl
theorem nDig (k : Nat) : ∀ u : Nat, u < 10 ^ (k + 1) → Lib.nDigits u ≤ k + 1 := by
 induction k with
 | zero => intro u hu; rw [Lib.nDigits_small (by simpa using hu)]; omega
 | succ k ih =>
  intro u hu
  by_cases h : u < 10
  ·rw [Lib.nDigits_small h]; omega
  ·rw [Lib.nDigits_big h]
   have := ih (u / 10) (by rw [Nat.div_lt_iff_lt_mul (by decide)]; rw [Nat.pow_succ] at hu; exact hu)
   omega
theorem itoa_len10 {n : Int} (h : smallN n) : (Lib.itoa n).length ≤ 10 := by
 unfold smallN at h
 unfold Lib.itoa
 split
 ·have := nDig 8 n.natAbs (by omega)
  rw [List.length_cons, Lib.decDigits_length]
  omega
 ·have := nDig 8 n.toNat (by omega)
  rw [Lib.decDigits_length]
  omega
theorem itoa_len3 {n : Int} (h0 : 0 ≤ n) (h : n < 1000) : (Lib.itoa n).length ≤ 3 := by
 unfold Lib.itoa
 rw [if_neg (by omega), Lib.decDigits_length]
 exact nDig 2 n.toNat (by omega)
theorem joinW_len : ∀ (r : List (List UInt8)) (w : List UInt8), (joinW w r).length = w.length + (r.map fun x => x.length + 1).sum
 | [], w => by simp [joinW]
 | x :: r, w => by rw [joinW, List.length_append, List.length_cons, joinW_len r x]; simp; omega
theorem nums_len10 : ∀ {ns : List Int}, (∀ n ∈ ns, smallN n) → ((ns.map Lib.itoa).map fun x => x.length + 1).sum ≤ 11 * ns.length
 | [], _ => by simp
 | n :: r, h => by
  have h1 := itoa_len10 (h n List.mem_cons_self)
  have h2 := nums_len10 fun m hm => h m (List.mem_cons_of_mem _ hm)
  simp only [List.map_cons, List.sum_cons, List.length_cons]
  omega
theorem queryW_len {q : Query} (h : queryOk q = true) : ((queryL q).map fun x => x.length + 1).sum ≤ 13 := by
 simp only [queryOk, between, Bool.and_eq_true, decide_eq_true_eq] at h
 have h1 := qWord_len q.1.toNat
 have h2 : (queryWords.getD q.1.toNat []).length ≤ 7 := h1
 have h3 := itoa_len3 h.2.1 (by omega)
 simp only [queryL, List.map_cons, List.map_nil, List.sum_cons, List.sum_nil]
 omega
theorem queriesW_len : ∀ {l : List Query}, (∀ q ∈ l, queryOk q = true) → ((l.flatMap queryL).map fun x => x.length + 1).sum ≤ 13 * l.length
 | [], _ => by simp
 | q :: r, h => by
  have h1 := queryW_len (h q List.mem_cons_self)
  have h2 := queriesW_len fun m hm => h m (List.mem_cons_of_mem _ hm)
  rw [List.flatMap_cons, List.map_append, List.sum_append, List.length_cons]
  omega
theorem asc_few : ∀ (l : List Int) (lo hi : Int), ascending l = true → (∀ n ∈ l, lo ≤ n ∧ n ≤ hi) → (l.length : Int) ≤ max (hi - lo + 1) 0
 | [], lo, hi, _, _ => by simp; omega
 | [a], lo, hi, _, h => by have := h a List.mem_cons_self; simp; omega
 | a :: b :: r, lo, hi, ha, h => by
  simp only [ascending, Bool.and_eq_true, decide_eq_true_eq] at ha
  have h0 := h a List.mem_cons_self
  have hb := h b (List.mem_cons_of_mem _ List.mem_cons_self)
  have mono : ∀ (l : List Int) (x : Int), ascending (x :: l) = true → ∀ n ∈ l, x < n := by
   intro l
   induction l with
   | nil => intro x _ n hn; cases hn
   | cons y l ih =>
    intro x hx n hn
    simp only [ascending, Bool.and_eq_true, decide_eq_true_eq] at hx
    rcases List.mem_cons.mp hn with rfl | hn
    ·exact hx.1
    ·have := ih y hx.2 n hn
     omega
  have ih := asc_few (b :: r) (a + 1) hi ha.2 fun n hn => by
   have h1 := h n (List.mem_cons_of_mem _ hn)
   rcases List.mem_cons.mp hn with rfl | hn
   ·omega
   ·have := mono r b ha.2 n hn
    omega
  rw [List.length_cons]
  simp only [List.length_cons] at ih ⊢
  omega
theorem step_len {s : Sched} {x : Step} (hh : head s = true) (hf : follows s x = true) : (lineL (stepL x)).length ≤ 300 := by
 have hS := small_of hh hf
 have hf' := hf
 simp only [follows, possible, between, Bool.and_eq_true, decide_eq_true_eq] at hf'
 obtain ⟨-, ⟨⟨⟨hk0, hk6⟩, hsame⟩, -⟩, hko⟩ := hf'
 simp only [head, between, Bool.and_eq_true, decide_eq_true_eq] at hh
 have hkw : (kindWords.getD x.kind.toNat []).length ≤ 7 := by
  have : ∀ k : Nat, k ≤ 6 → (kindWords.getD k []).length ≤ 7 := by decide
  exact this _ (by omega)
 have ht := itoa_len10 hS.t
 have hns : ((numsS x).map Lib.itoa |>.map fun y => y.length + 1).sum ≤ 11 * (numsS x).length := nums_len10 (by
  intro n hn
  have hall : ∀ n ∈ x.replica :: x.session :: x.action :: x.other :: x.after :: (x.survive ++ x.voters), smallN n := by
   intro n hn
   simp only [List.mem_cons, List.mem_append] at hn
   rcases hn with rfl | rfl | rfl | rfl | rfl | hn | hn
   ·exact hS.r
   ·exact hS.s
   ·exact hS.a
   ·exact hS.o
   ·exact hS.f
   ·exact hS.v n hn
   ·exact hS.w n hn
  apply hall
  unfold numsS at hn
  split at hn <;> simp only [List.mem_cons, List.not_mem_nil, or_false, List.mem_append] at hn ⊢ <;> grind)
 have hk : x.kind = 0 ∨ x.kind = 1 ∨ x.kind = 2 ∨ x.kind = 3 ∨ x.kind = 4 ∨ x.kind = 5 ∨ x.kind = 6 := by omega
 rw [lineL, List.length_append, joinW_len]
 simp only [stepL, List.map_cons, List.sum_cons, List.map_append, List.sum_append, List.length_singleton]
 have ha : (atW : List UInt8).length = 2 := rfl
 rw [ha]
 have hq : (List.map (fun x => x.length + 1) (if x.kind = 1 then x.queries.flatMap queryL else [])).sum ≤ 208 ∧ (x.kind ≠ 1 → (List.map (fun x => x.length + 1) (if x.kind = 1 then x.queries.flatMap queryL else [])).sum = 0) := by
  by_cases h1 : x.kind = 1
  ·simp [Sch.kindOk, h1, between] at hko
   rw [if_pos h1]
   have := queriesW_len (l := x.queries) fun q hq => hko.2 q.1 q.2 hq
   exact ⟨by omega, fun h => absurd h1 h⟩
  ·rw [if_neg h1]
   exact ⟨by simp, fun _ => by simp⟩
 rcases hk with hk | hk | hk | hk | hk | hk | hk
 ·have : (numsS x).length = 3 := by simp [numsS, hk]
  omega
 ·have : (numsS x).length = 2 := by simp [numsS, hk]
  omega
 ·have : (numsS x).length = 2 := by simp [numsS, hk]
  omega
 ·have : (numsS x).length = 2 := by simp [numsS, hk]
  omega
 ·simp [Sch.kindOk, hk, between] at hko
  have : (numsS x).length ≤ 18 := by simp [numsS, hk]; omega
  have := hq.2 (by omega)
  omega
 ·have : (numsS x).length = 1 := by simp [numsS, hk]
  omega
 ·simp [Sch.kindOk, hk, between, allIn] at hko
  have := asc_few x.voters 0 (s.replicas - 1) hko.1.1 hko.2
  have h1 : (numsS x).length = x.voters.length + 1 := by simp [numsS, hk]
  have := hq.2 (by omega)
  omega
theorem fate_len {f : Fate} (h : fateOk f = true) : (lineL (fateL f)).length ≤ 27 := by
 obtain ⟨d, x, a⟩ := f
 obtain ⟨h1, h2⟩ := fate_small (d := x) (a := a) (b := d) h
 have l1 := itoa_len10 h1
 have l2 := itoa_len10 h2
 rw [lineL, List.length_append, joinW_len]
 unfold fateL
 have hw : (wFate : List UInt8).length = 4 := rfl
 have hd : (dropW : List UInt8).length = 4 := rfl
 split
 ·simp [hw, hd]
 ·split
  ·simp [hw]; omega
  ·simp [hw]; omega
theorem flat_max {α : Type} {g : α → List UInt8} {B : Nat} : ∀ {l : List α}, (∀ x ∈ l, (g x).length ≤ B) → (l.flatMap g).length ≤ B * l.length
 | [], _ => by simp
 | x :: r, h => by
  have h1 := h x List.mem_cons_self
  have h2 := flat_max fun y hy => h y (List.mem_cons_of_mem _ hy)
  rw [List.flatMap_cons, List.length_append, List.length_cons, Nat.mul_succ]
  omega
theorem stepsOk_each (s : Sched) (hh : head s = true) : ∀ (l done : List Step), stepsOk s done l = true → ∀ x ∈ l, (lineL (stepL x)).length ≤ 300
 | y :: l, done, h, x, hx => by
  simp only [stepsOk, Bool.and_eq_true] at h
  have hh' : head { s with steps := done } = true := hh
  cases hx with
  | head => exact step_len hh' h.1
  | tail _ hx => exact stepsOk_each s hh l (done ++ [y]) h.2 x hx
theorem fmt_len {s : Sched} (h : valid s = true) (hn : s.steps.length ≤ 187) : (fmtText s).length ≤ 65536 := by
 obtain ⟨hh, hf, hfo, hp⟩ := valid_parts h
 rw [(fmt_lines h).1, linesL, List.flatMap_append, List.flatMap_append, List.length_append, List.length_append, List.flatMap_map, List.flatMap_map]
 have h1 := flat_max (l := s.fates) (g := fun f => lineL (fateL f)) fun f hf' => fate_len (hfo f hf')
 have h2 := flat_max (l := s.steps) (g := fun x => lineL (stepL x)) fun x hx => stepsOk_each s hh s.steps [] hp x hx
 have h3 : ((headL s).flatMap lineL).length ≤ 2000 := by
  simp only [head, between, Bool.and_eq_true, decide_eq_true_eq] at hh
  have hs : ∀ n ∈ s.state, smallN n := fun n hn => by
   have f := hh.2
   simp only [allIn, List.all_eq_true, between, Bool.and_eq_true, decide_eq_true_eq] at f
   have := f n hn
   unfold smallN
   omega
  have g := nums_len10 hs
  have one : ∀ n : Int, smallN n → ((([n].map Lib.itoa).map fun x => x.length + 1).sum ≤ 11) := fun n hn => by simpa using nums_len10 (ns := [n]) (by simpa using hn)
  have g1 := one s.replicas (by unfold smallN; omega)
  have g2 := one s.sessions (by unfold smallN; omega)
  have g3 := one s.sectors (by unfold smallN; omega)
  have g4 := one s.ticks (by unfold smallN; omega)
  have e1 : (wReplicas : List UInt8).length = 8 := rfl
  have e2 : (wSessions : List UInt8).length = 8 := rfl
  have e3 : (wSectors : List UInt8).length = 7 := rfl
  have e4 : (wTicks : List UInt8).length = 5 := rfl
  have e5 : (wState : List UInt8).length = 5 := rfl
  simp only [headL, List.flatMap_cons, List.flatMap_nil, List.length_append, lineL, joinW_len, List.length_singleton, List.length_nil]
  omega
 omega
theorem words_half (c : UInt8) : ∀ (l cur : List UInt8), 2 * (wordsGo c l cur).length ≤ l.length + 2 ∧ (cur = [] → 2 * (wordsGo c l cur).length ≤ l.length + 1)
 | [], cur => by
  cases cur with
  | nil => simp [wordsGo]
  | cons a b => simp [wordsGo]
 | x :: r, cur => by
  have h0 := words_half c r []
  have h1 := words_half c r (cur ++ [x])
  have h00 := h0.2 rfl
  by_cases hx : x = c
  ·subst hx
   cases cur with
   | nil => simp [wordsGo]; omega
   | cons a b => simp [wordsGo]; omega
  ·have e : wordsGo c (x :: r) cur = wordsGo c r (cur ++ [x]) := by simp [wordsGo, hx]
   rw [e, List.length_cons]
   exact ⟨by omega, fun _ => by omega⟩
theorem stepOf_len {r : List (List UInt8)} {x : Step} (h : stepOf r = some x) : 3 ≤ r.length := by
 match r with
 | [] => simp [stepOf] at h
 | [a] => simp [stepOf] at h
 | [a, b] =>
  simp only [stepOf] at h
  split at h
  ·cases h
  ·rename_i hk
   split at h
   ·cases h
   ·rename_i hb
    exfalso
    apply hb
    have : 1 ≤ (shapeOf (idxW kindWords b).toNat).1 := by
     match (idxW kindWords b).toNat with
     | 0 => decide
     | 1 => decide
     | 2 => decide
     | 3 => decide
     | 4 => decide
     | 5 => decide
     | k + 6 => simp [shapeOf]
    simp [badStep]
    omega
 | a :: b :: c :: r => simp
theorem lineP_steps {next n' : Nat} {s s' : Sched} {w0 : List UInt8} {r : List (List UInt8)} (h : lineP next s w0 r = some (n', s')) : s'.steps.length = s.steps.length ∨ (s'.steps.length = s.steps.length + 1 ∧ 3 ≤ r.length) := by
 unfold lineP at h
 split at h
 ·split at h
  ·split at h
   ·injection h with h; injection h with h1 h2; subst h1 h2
    left
    unfold setHead
    split <;> rfl
   ·cases h
  ·cases h
 split at h
 ·split at h
  ·split at h
   ·injection h with h; injection h with h1 h2; subst h1 h2; exact .inl rfl
   ·cases h
  ·cases h
 split at h
 ·split at h
  ·split at h
   ·injection h with h; injection h with h1 h2; subst h1 h2; exact .inl rfl
   ·cases h
  ·cases h
 split at h
 ·split at h
  ·rename_i x hx
   split at h
   ·injection h with h; injection h with h1 h2; subst h1 h2
    exact .inr ⟨by simp, stepOf_len hx⟩
   ·cases h
  ·cases h
 ·cases h
theorem parseGo_steps : ∀ (ls : List (List UInt8)) (i next : Nat) (s : Sched) (n : Nat) (s' : Sched), parseGo ls i next s = .inr (n, s') → 8 * s'.steps.length ≤ 8 * s.steps.length + (ls.map fun l => l.length + 1).sum
 | [], i, next, s, n, s', h => by
  simp only [parseGo, Sum.inr.injEq, Prod.mk.injEq] at h
  obtain ⟨-, rfl⟩ := h
  simp
 | l :: r, i, next, s, n, s', h => by
  rw [parseGo] at h
  have hl := (words_half 32 (upTo 35 l) []).2 rfl
  have hu := upTo_len 35 l
  rw [List.map_cons, List.sum_cons]
  cases hw : wordsOn 32 (upTo 35 l) with
  | nil =>
   rw [hw] at h
   have := parseGo_steps r _ _ _ _ _ h
   omega
  | cons w0 ws =>
   rw [hw] at h
   dsimp only at h
   cases hp : lineP next s w0 ws with
   | none => rw [hp] at h; cases h
   | some q =>
    rw [hp] at h
    have ih := parseGo_steps r _ _ _ _ _ h
    have hlen : (wordsGo 32 (upTo 35 l) []).length = ws.length + 1 := by
     have := congrArg List.length hw
     simpa [wordsOn] using this
    rcases lineP_steps (n' := q.1) (s' := q.2) hp with h1 | ⟨h1, h2⟩
    ·omega
    ·omega
theorem parse_steps (t : List UInt8) (ht : t.length ≤ 1500) : (parseP t).1.steps.length ≤ 187 := by
 have hs := splitOn_len 10 t
 unfold parseP
 rw [if_neg (by omega)]
 cases hg : parseGo (splitOn 10 t) 0 0 zeroSched with
 | inl k => simp [zeroSched]
 | inr q =>
  have := parseGo_steps _ _ _ _ q.1 q.2 hg
  have hz : zeroSched.steps.length = 0 := rfl
  dsimp only
  split
  ·simp [zeroSched]
  ·dsimp only; omega
end
end Pur
end Go.Proofs.YteokbngllldmdaaGreatDoor
namespace Go.Proofs.YteokbngllldmdaaGreatDoor
namespace Pur
open Go.RowKit
attribute [local go_sem] evOps evOp evOpV evRun evK argF List.map hintAt stripped get put tmpsOf tmpOf tmpO tmpL tmpP conds ev cond_true cond_false Nat.beq Nat.ble Nat.add quiet After thenR blockR IfD List.append_eq List.nil_append List.cons_append evInt exactI_a exactI_b exactI_c exactI_d exactI_e exactI_f evBin evStr evBool evUn guardC calm quiet.isCallK evPick List.getElem?_cons_zero List.getElem?_cons_succ fromCells fromPVs cellsOf List.all oneCell List.length_cons List.length_nil mkAgg plains List.drop List.take List.getD Option.getD_some bo1 bo2 ba1 ba2 bn1 bn2 kk_i64 kk_u8 kk_i32 kk_u64 setAt List.set Nat.reduceAdd Nat.reduceMul evCall safeCall refsOf refsIn scalarA scalar scalarL thawL mapAll thawArg thawRef after freeze RetD RetE evResult evRess evRes1 thaw_pv mkTup nilOf_a nilOf_b nilOf_bb nilOf_c nilOf_d nilOf_e nilOf_f nilOf_g nilOf_h nilOf_i nilOf_j nilOf_k nilOf_l nilOf_m eqLeaf_a eqLeaf_b eqLeaf_c eqOffs evMM bytesOf evOpsF AfterF footOf footRefs notIn indepF footAt freeOk still evParts fillA zeros intOfA boundA srcOf List.isEmpty appNil_0 appNil_1 appNil_2 Int.reduceToNat Nat.mul_one Nat.reduceSub evC evOpsT evOpsTF autoH tabHint look hintD strip guarded RetPD RetRD mpLen keysOk leafKA leafK bitI nilOf_n nilOf_o Bool.or_false Bool.or_true Bool.and_true Bool.and_false Nat.blt renF renM renB renV idxOf solF solM solA solV thawRef ev1
section
open Sch
def c7r0 : List AOp := [
 ⟨(some 0), .mv (.c (.bool false)), none⟩]
def c7r1 : List AOp := [
 ⟨(some 6), .call 8 [(.c (.str [114, 101, 112, 108, 105, 99, 97, 115, 32, 50, 10, 115, 101, 115, 115, 105, 111, 110, 115, 32, 49, 10, 115, 101, 99, 116, 111, 114, 115, 32, 54, 52, 10, 116, 105, 99, 107, 115, 32, 50, 48, 10, 115, 116, 97, 116, 101, 32, 48, 32, 51, 10, 102, 97, 116, 101, 32, 50, 10, 102, 97, 116, 101, 32, 100, 114, 111, 112, 10, 102, 97, 116, 101, 32, 49, 32, 52, 10, 97, 116, 32, 48, 32, 115, 117, 98, 109, 105, 116, 32, 48, 32, 48, 32, 53, 10, 97, 116, 32, 51, 32, 99, 117, 116, 32, 48, 32, 49, 10, 97, 116, 32, 51, 32, 114, 101, 97, 100, 32, 49, 32, 48, 32, 118, 97, 108, 117, 101, 32, 49, 32, 109, 101, 114, 103, 101, 100, 32, 48, 10, 97, 116, 32, 55, 32, 99, 114, 97, 115, 104, 32, 49, 32, 48, 32, 54, 52, 32, 49, 48, 10]))], none⟩,
 ⟨(some 5), .mv (.t 6), none⟩,
 ⟨(some 7), .extract (.t 5) 0, none⟩,
 ⟨(some 8), .extract (.t 5) 1, none⟩,
 ⟨(some 9), .extract (.t 5) 2, none⟩,
 ⟨(some 1), .alloc 27 [(.int .i64 0), (.int .i64 0), (.int .i64 0), (.int .i64 0), .nilsl, .nilsl, .nilsl], none⟩,
 ⟨none, .store (.t 1) (.t 7) 7, none⟩,
 ⟨(some 2), .mv (.t 8), none⟩,
 ⟨(some 3), .mv (.t 9), none⟩]
def c7r2 : List AOp := [
 ⟨(some 10), .mv (.t 3), none⟩,
 ⟨(some 11), .bin .neq (.t 10) (.c (.int .i64 0)), none⟩,
 ⟨(some 12), .mv (.t 11), none⟩,
 ⟨(some 13), .mv (.t 2), some (12, false)⟩,
 ⟨(some 14), .bin .neq (.t 13) (.c (.int .i64 0)), some (12, false)⟩,
 ⟨(some 15), .pick (.t 12) (.c (.bool true)) (.t 14), none⟩,
 ⟨(some 16), .mv (.t 15), none⟩,
 ⟨(some 17), .load (.t 1) 7 true, some (16, false)⟩,
 ⟨(some 18), .call 12 [(.t 17)], some (16, false)⟩,
 ⟨(some 19), .un .not (.t 18), some (16, false)⟩,
 ⟨(some 20), .pick (.t 16) (.c (.bool true)) (.t 19), none⟩,
 ⟨(some 21), .mv (.t 20), none⟩,
 ⟨(some 22), .fieldAddr (.t 1) 0, some (21, false)⟩,
 ⟨(some 23), .load (.t 22) 1 false, some (21, false)⟩,
 ⟨(some 24), .bin .neq (.t 23) (.c (.int .i64 2)), some (21, false)⟩,
 ⟨(some 25), .pick (.t 21) (.c (.bool true)) (.t 24), none⟩,
 ⟨(some 26), .mv (.t 25), none⟩,
 ⟨(some 27), .fieldAddr (.t 1) 3, some (26, false)⟩,
 ⟨(some 28), .load (.t 27) 1 false, some (26, false)⟩,
 ⟨(some 29), .bin .neq (.t 28) (.c (.int .i64 20)), some (26, false)⟩,
 ⟨(some 30), .pick (.t 26) (.c (.bool true)) (.t 29), none⟩,
 ⟨(some 31), .mv (.t 30), none⟩,
 ⟨(some 32), .fieldAddr (.t 1) 5, some (31, false)⟩,
 ⟨(some 33), .load (.t 32) 1 false, some (31, false)⟩,
 ⟨(some 34), .len (.t 33), some (31, false)⟩,
 ⟨(some 35), .bin .neq (.t 34) (.c (.int .i64 3)), some (31, false)⟩,
 ⟨(some 36), .pick (.t 31) (.c (.bool true)) (.t 35), none⟩,
 ⟨(some 37), .mv (.t 36), none⟩,
 ⟨(some 38), .fieldAddr (.t 1) 5, some (37, false)⟩,
 ⟨(some 39), .load (.t 38) 1 false, some (37, false)⟩,
 ⟨(some 40), .indexSl (.t 39) (.c (.int .i64 1)) 3, some (37, false)⟩,
 ⟨(some 41), .fieldAddr (.t 40) 0, some (37, false)⟩,
 ⟨(some 42), .load (.t 41) 1 false, some (37, false)⟩,
 ⟨(some 43), .un .not (.t 42), some (37, false)⟩,
 ⟨(some 44), .pick (.t 37) (.c (.bool true)) (.t 43), none⟩,
 ⟨(some 45), .mv (.t 44), none⟩,
 ⟨(some 46), .fieldAddr (.t 1) 6, some (45, false)⟩,
 ⟨(some 47), .load (.t 46) 1 false, some (45, false)⟩,
 ⟨(some 48), .len (.t 47), some (45, false)⟩,
 ⟨(some 49), .bin .neq (.t 48) (.c (.int .i64 4)), some (45, false)⟩,
 ⟨(some 50), .pick (.t 45) (.c (.bool true)) (.t 49), none⟩,
 ⟨(some 51), .mv (.t 50), none⟩,
 ⟨(some 52), .fieldAddr (.t 1) 6, some (51, false)⟩,
 ⟨(some 53), .load (.t 52) 1 false, some (51, false)⟩,
 ⟨(some 54), .indexSl (.t 53) (.c (.int .i64 2)) 10, some (51, false)⟩,
 ⟨(some 55), .fieldAddr (.t 54) 7, some (51, false)⟩,
 ⟨(some 56), .load (.t 55) 1 false, some (51, false)⟩,
 ⟨(some 57), .indexSl (.t 56) (.c (.int .i64 1)) 2, some (51, false)⟩,
 ⟨(some 58), .load (.t 57) 2 true, some (51, false)⟩,
 ⟨(some 59), .build [(.int .i64 0), (.int .i64 0)] [(0, 1, (.c (.int .i64 2)))], some (51, false)⟩,
 ⟨(some 60), .eqA true [(0, 0), (1, 0)] (.t 58) (.t 59), some (51, false)⟩,
 ⟨(some 61), .pick (.t 51) (.c (.bool true)) (.t 60), none⟩]
def c7r3 : List AOp := [
 ⟨(some 0), .mv (.c (.bool false)), none⟩]
def c7r4 : List AOp := [
 ⟨(some 63), .load (.t 1) 7 true, none⟩,
 ⟨(some 64), .call 13 [(.t 63)], none⟩,
 ⟨(some 62), .mv (.t 64), none⟩,
 ⟨(some 65), .extract (.t 62) 0, none⟩,
 ⟨(some 66), .extract (.t 62) 1, none⟩,
 ⟨(some 4), .mv (.t 65), none⟩,
 ⟨(some 3), .mv (.t 66), none⟩]
def c7r5 : List AOp := [
 ⟨(some 67), .mv (.t 3), none⟩,
 ⟨(some 68), .bin .eql (.t 67) (.c (.int .i64 0)), none⟩,
 ⟨(some 69), .mv (.t 68), none⟩,
 ⟨(some 70), .mv (.t 4), some (69, true)⟩,
 ⟨(some 71), .bin .eql (.t 70) (.c (.str [114, 101, 112, 108, 105, 99, 97, 115, 32, 50, 10, 115, 101, 115, 115, 105, 111, 110, 115, 32, 49, 10, 115, 101, 99, 116, 111, 114, 115, 32, 54, 52, 10, 116, 105, 99, 107, 115, 32, 50, 48, 10, 115, 116, 97, 116, 101, 32, 48, 32, 51, 10, 102, 97, 116, 101, 32, 50, 10, 102, 97, 116, 101, 32, 100, 114, 111, 112, 10, 102, 97, 116, 101, 32, 49, 32, 52, 10, 97, 116, 32, 48, 32, 115, 117, 98, 109, 105, 116, 32, 48, 32, 48, 32, 53, 10, 97, 116, 32, 51, 32, 99, 117, 116, 32, 48, 32, 49, 10, 97, 116, 32, 51, 32, 114, 101, 97, 100, 32, 49, 32, 48, 32, 118, 97, 108, 117, 101, 32, 49, 32, 109, 101, 114, 103, 101, 100, 32, 48, 10, 97, 116, 32, 55, 32, 99, 114, 97, 115, 104, 32, 49, 32, 48, 32, 54, 52, 32, 49, 48, 10])), some (69, true)⟩,
 ⟨(some 72), .pick (.t 69) (.t 71) (.c (.bool false)), none⟩,
 ⟨(some 73), .mv (.t 72), none⟩,
 ⟨(some 74), .load (.t 1) 7 true, some (73, true)⟩,
 ⟨(some 75), .call 15 [(.t 74), (.c (.int .i64 3))], some (73, true)⟩,
 ⟨(some 76), .len (.t 75), some (73, true)⟩,
 ⟨(some 77), .bin .eql (.t 76) (.c (.int .i64 2)), some (73, true)⟩,
 ⟨(some 78), .pick (.t 73) (.t 77) (.c (.bool false)), none⟩,
 ⟨(some 79), .mv (.t 78), none⟩,
 ⟨(some 80), .load (.t 1) 7 true, some (79, true)⟩,
 ⟨(some 81), .lit false 3 1 2 [(.int .i64 0)] [(0, 1, (.c (.int .i64 1))), (1, 1, (.c (.int .i64 2)))], some (79, true)⟩,
 ⟨(some 82), .call 16 [(.t 80), (.t 81)], some (79, true)⟩,
 ⟨(some 83), .field (.t 82) 6 1 false, some (79, true)⟩,
 ⟨(some 84), .len (.t 83), some (79, true)⟩,
 ⟨(some 85), .bin .eql (.t 84) (.c (.int .i64 2)), some (79, true)⟩,
 ⟨(some 86), .pick (.t 79) (.t 85) (.c (.bool false)), none⟩,
 ⟨(some 87), .mv (.t 86), none⟩,
 ⟨(some 88), .load (.t 1) 7 true, some (87, true)⟩,
 ⟨(some 89), .call 18 [(.t 88), (.c (.int .i64 3))], some (87, true)⟩,
 ⟨(some 90), .field (.t 89) 6 1 false, some (87, true)⟩,
 ⟨(some 91), .len (.t 90), some (87, true)⟩,
 ⟨(some 92), .bin .eql (.t 91) (.c (.int .i64 1)), some (87, true)⟩,
 ⟨(some 93), .pick (.t 87) (.t 92) (.c (.bool false)), none⟩,
 ⟨(some 94), .mv (.t 93), none⟩,
 ⟨(some 95), .load (.t 1) 7 true, some (94, true)⟩,
 ⟨(some 96), .load (.t 1) 7 true, some (94, true)⟩,
 ⟨(some 97), .call 17 [(.t 95), (.t 96)], some (94, true)⟩,
 ⟨(some 98), .pick (.t 94) (.t 97) (.c (.bool false)), none⟩,
 ⟨(some 99), .mv (.t 98), none⟩,
 ⟨(some 100), .load (.t 1) 7 true, some (99, true)⟩,
 ⟨(some 101), .load (.t 1) 7 true, some (99, true)⟩,
 ⟨(some 102), .call 18 [(.t 101), (.c (.int .i64 19))], some (99, true)⟩,
 ⟨(some 103), .call 17 [(.t 100), (.t 102)], some (99, true)⟩,
 ⟨(some 104), .un .not (.t 103), some (99, true)⟩,
 ⟨(some 105), .pick (.t 99) (.t 104) (.c (.bool false)), none⟩,
 ⟨(some 0), .mv (.t 105), none⟩]
def c7 : ACode := (.seq (.region false c7r0) (.seq (.region false c7r1) (.seq (.seq (.region false c7r2) (.cond (.t 61) (.seq (.region false c7r3) .ret) .skip)) (.seq (.region false c7r4) (.seq (.region true c7r5) .ret)))))
theorem fn7 : fnOf Tryz.prog 7 (fun _ => false) = some (c7, [.t 0], 106, true) := by kernel_rfl
def exText : List UInt8 := [114, 101, 112, 108, 105, 99, 97, 115, 32, 50, 10, 115, 101, 115, 115, 105, 111, 110, 115, 32, 49, 10, 115, 101, 99, 116, 111, 114, 115, 32, 54, 52, 10, 116, 105, 99, 107, 115, 32, 50, 48, 10, 115, 116, 97, 116, 101, 32, 48, 32, 51, 10, 102, 97, 116, 101, 32, 50, 10, 102, 97, 116, 101, 32, 100, 114, 111, 112, 10, 102, 97, 116, 101, 32, 49, 32, 52, 10, 97, 116, 32, 48, 32, 115, 117, 98, 109, 105, 116, 32, 48, 32, 48, 32, 53, 10, 97, 116, 32, 51, 32, 99, 117, 116, 32, 48, 32, 49, 10, 97, 116, 32, 51, 32, 114, 101, 97, 100, 32, 49, 32, 48, 32, 118, 97, 108, 117, 101, 32, 49, 32, 109, 101, 114, 103, 101, 100, 32, 48, 10, 97, 116, 32, 55, 32, 99, 114, 97, 115, 104, 32, 49, 32, 48, 32, 54, 52, 32, 49, 48, 10]
def exS : Sched := ⟨2, 1, 64, 20, [0, 3], [⟨false, 2, 0⟩, ⟨true, 0, 0⟩, ⟨false, 1, 4⟩],
 [⟨0, 0, 0, 0, 0, 5, 0, [], [], []⟩, ⟨3, 2, 0, 1, 0, 0, 0, [], [], []⟩, ⟨3, 1, 1, 0, 0, 0, 0, [(0, 1), (2, 0)], [], []⟩, ⟨7, 4, 1, 0, 0, 0, 0, [], [64, 10], []⟩]⟩
set_option maxRecDepth 100000 in
theorem ex_parse : parseP exText = (exS, 0, 0) := by kernel_rfl
set_option maxRecDepth 100000 in
theorem ex_valid : valid exS = true := by kernel_rfl
set_option maxRecDepth 100000 in
theorem ex_format : formatP exS = (exText, 0) := by kernel_rfl
theorem ex_small : Small exS := ⟨by decide, by decide, by decide, fun x hx => by
 simp only [exS, List.mem_cons, List.not_mem_nil, or_false] at hx
 rcases hx with rfl | rfl | rfl | rfl <;> exact ⟨by decide, by decide, by decide⟩⟩
theorem ex_sizes : ∀ k, Sizes (exS.steps.getD k zeroStep)
 | 0 => ⟨by decide, by decide, by decide⟩
 | 1 => ⟨by decide, by decide, by decide⟩
 | 2 => ⟨by decide, by decide, by decide⟩
 | 3 => ⟨by decide, by decide, by decide⟩
 | k + 4 => ⟨by simp [exS, zeroStep], by simp [exS, zeroStep], by simp [exS, zeroStep]⟩
def exV : PV := .agg [.int .i64 2, .int .i64 1, .int .i64 64, .int .i64 20, .sl 2 [.int .i64 0, .int .i64 3], .sl 3 [.bool false, .int .i64 2, .int .i64 0, .bool true, .int .i64 0, .int .i64 0, .bool false, .int .i64 1, .int .i64 4], .sl 4 [.int .i64 0, .int .i64 0, .int .i64 0, .int .i64 0, .int .i64 0, .int .i64 5, .int .i64 0, .sl 0 [], .sl 0 [], .sl 0 [], .int .i64 3, .int .i64 2, .int .i64 0, .int .i64 1, .int .i64 0, .int .i64 0, .int .i64 0, .sl 0 [], .sl 0 [], .sl 0 [], .int .i64 3, .int .i64 1, .int .i64 1, .int .i64 0, .int .i64 0, .int .i64 0, .int .i64 0, .sl 2 [.int .i64 0, .int .i64 1, .int .i64 2, .int .i64 0], .sl 0 [], .sl 0 [], .int .i64 7, .int .i64 4, .int .i64 1, .int .i64 0, .int .i64 0, .int .i64 0, .int .i64 0, .sl 0 [], .sl 2 [.int .i64 64, .int .i64 10], .sl 0 []]]
theorem exV_eq : schedP exS = exV := rfl
theorem ex_fits (s : Sched) (h : s = exS ∨ s = till exS 19) : Fits s := by
 rcases h with rfl | rfl
 ·exact ⟨by decide, by decide, by decide, ex_sizes⟩
 ·exact ⟨by decide, by decide, by decide, ex_sizes⟩
set_option maxRecDepth 100000 in
set_option maxHeartbeats 8000000 in
theorem awake_ok : PureOK ctx 7 [] (.bool true) := by
  have h6 := parse_ok exText (by decide)
  rw [ex_parse] at h6
  have h18 := Valid_ok exS (by decide) (by decide) (by decide) ex_sizes
  rw [ex_valid] at h18
  have h64 := format_ok exS (by decide) (by decide) (by decide) ex_sizes
  rw [ex_format] at h64
  have h75 := at_ok exS ex_small 3
  have e75 : stepsP (stepsAt exS 3) = .sl 2 ((stepsAt exS 3).flatMap stepC) := rfl
  rw [e75] at h75
  have h82 := without_ok exS ex_small [1, 2] (by decide)
  have e82 : schedP (without exS [1, 2]) = .agg [.int .i64 2, .int .i64 1, .int .i64 64, .int .i64 20, intsP [0, 3], fatesP exS.fates, .sl 2 ((without exS [1, 2]).steps.flatMap stepC)] := rfl
  rw [e82] at h82
  have h89 := until_ok exS ex_small 3
  have e89 : schedP (till exS 3) = .agg [.int .i64 2, .int .i64 1, .int .i64 64, .int .i64 3, intsP [0, 3], fatesP exS.fates, .sl 1 ((till exS 3).steps.flatMap stepC)] := rfl
  rw [e89] at h89
  have h97 := Equal_ok exS exS (ex_fits _ (.inl rfl)) (ex_fits _ (.inl rfl))
  rw [show sameSched exS exS = true from by kernel_rfl] at h97
  have h102 := until_ok exS ex_small 19
  have h103 := Equal_ok exS (till exS 19) (ex_fits _ (.inl rfl)) (ex_fits _ (.inr rfl))
  rw [show sameSched exS (till exS 19) = false from by kernel_rfl] at h103
  dsimp only at h6 h64
  rw [exV_eq] at h6 h18 h64 h75 h82 h89 h97 h102 h103
  generalize hW : schedP (till exS 19) = W at *
  clear e75 e82 e89 hW
  refine pure_body' (C := ctx) (Fn.of fn7 rfl) rfl ?_
  unfold c7
  repeat' (first
    | ((with_reducible first | show VCs _ | show All _); (try dsimp only [go_sem]); first | (simp [vb, h6, h18, h64, h75, h82, h89, h97, h102, h103] <;> omega) | (simp only [vb, and_true, true_implies]; (repeat' (first | (with_reducible assumption) | (with_reducible apply And.intro) | intro _ | ((fail_if_success (with_reducible show (_ : Int) ≤ _)); assumption))) <;> first | omega | (simp only [ab, h6, h18, h64, h75, h82, h89, h97, h102, h103]; done) | (simp [h6, h18, h64, h75, h82, h89, h97, h102, h103] <;> omega)))
    | exact (rfl : some _ = _)
    | (fail_if_success refine awL ?_
       refine evH [(6, { val := some (.pv (.tup [exV, .int .i64 0, .int .i64 0])) }), (18, { val := some (.pv (.bool true)) }), (64, { val := some (.pv (.tup [.str exText, .int .i64 0])) }), (75, { val := some (.pv (.sl 2 ((stepsAt exS 3).flatMap stepC))) }), (82, { val := some (.pv (.agg [.int .i64 2, .int .i64 1, .int .i64 64, .int .i64 20, intsP [0, 3], fatesP exS.fates, .sl 2 ((without exS [1, 2]).steps.flatMap stepC)])) }), (89, { val := some (.pv (.agg [.int .i64 2, .int .i64 1, .int .i64 64, .int .i64 3, intsP [0, 3], fatesP exS.fates, .sl 1 ((till exS 3).steps.flatMap stepC)])) }), (97, { val := some (.pv (.bool true)) }), (102, { val := some (.pv W) }), (103, { val := some (.pv (.bool false)) })] ?_
       repeat1' dsimp only [c7, c7r0, c7r1, c7r2, c7r3, c7r4, c7r5, exV, go_sem]
       first
       | refine aw4 ?_ ?_ rfl ?_
       | apply aw3
       | apply aw2
       | (refine awB (fun hc => ?_) fun hc => ?_ <;> first | (cases hc; done) | (exfalso; simp [h6, h18, h64, h75, h82, h89, h97, h102, h103] at hc <;> omega) | (try simp only [bn] at hc; try contradiction))
       | skip))
end
section
open Sch Pl
theorem count_ok (s : List UInt8) (c : UInt8) : PureOK ctx 14 [.str s, .str [c]] (.int .i64 (s.count c)) := by
 refine PureOK.of_calls (by kernel_rfl) fun w S vs hE hS hp => ?_
 obtain ⟨v, u, rfl, hv, hu⟩ := pw2 hp
 have := is_str_inv hv
 subst this
 have := is_str_inv hu
 subst this
 refine (Tryz.strings_Count_one ⟨s.toArray⟩ c w).mono fun e w' ⟨he, hw⟩ => ⟨_, he, ?_, fun _ _ => .int _ _⟩
 rw [hw]
 exact Below.refl _ _
theorem eqB_same (s : Sched) : refEqB s s = true := by simp [refEqB]
def c4 : ACode := (⟨_, by conv => (lhs; reduce; try simp only [lt1, Int.cast_ofNat_Int, Int.reduceNegSucc, UInt8.reduceOfNat])⟩ : {x // codeOf Tryz.prog 4 (fun _ => false) = some x}).1
theorem fn4 : fnOf Tryz.prog 4 (fun _ => false) = some (c4, [.t 4], 125, true) := by kernel_rfl
theorem few_of_B {s : Sched} (h : SchedB 1048576 s) : FewS s := by
 have h1 := h.a; have h2 := h.f; have h3 := h.p
 refine ⟨fun x hx => ?_, by omega, by omega, by omega⟩
 have := h.x x hx
 have q1 := this.q; have q2 := this.s; have q3 := this.v
 exact ⟨by omega, by omega, by omega⟩
theorem sizes_of_B {s : Sched} (h : FewS s) : ∀ k, Sizes (s.steps.getD k zeroStep) := fun k => by
 by_cases hk : k < s.steps.length
 ·have := h.x _ (getD_mem (d := zeroStep) hk)
  have q1 := this.q; have q2 := this.s; have q3 := this.v
  exact ⟨by omega, by omega, by omega⟩
 ·rw [List.getD, List.getElem?_eq_none (by omega)]
  exact ⟨by simp [zeroStep], by simp [zeroStep], by simp [zeroStep]⟩
structure Ret (s : Sched) : Prop where
 fmt : PureOK ctx 13 [schedP s] (.tup [.str (fmtText s), .int .i64 0])
 prs : PureOK ctx 8 [.str (fmtText s)] (.tup [schedP s, .int .i64 0, .int .i64 0])
 val : PureOK ctx 12 [schedP s] (.bool true)
 eq : PureOK ctx 10 [schedP s, schedP s] (.bool true)
theorem ret_of {s : Sched} (hf : FewS s) (h : valid s = true) (hn : s.steps.length ≤ 187) : Ret s := by
 have h1 := hf.a; have h2 := hf.f; have h3 := hf.s
 have hl := fmt_len h hn
 have f := format_ok s (by omega) (by omega) (by omega) (sizes_of_B hf)
 have p := parse_ok (fmtText s) (by omega)
 have v := Valid_ok s (by omega) (by omega) (by omega) (sizes_of_B hf)
 have e := refEqual_ok s s hf hf
 rw [eqB_same] at e
 rw [h] at v
 rw [parse_fmt h hl] at p
 unfold formatP at f
 rw [h, if_pos rfl, if_neg (by omega)] at f
 exact ⟨f, p, v, e⟩
theorem zero_eq : PureOK ctx 10 [schedP zeroSched, .agg [.int .i64 0, .int .i64 0, .int .i64 0, .int .i64 0, .nilsl, .nilsl, .nilsl]] (.bool true) := by
 refine PureOK.canon_args 2 ?_
 have := refEqual_ok zeroSched zeroSched few_zero few_zero
 rw [eqB_same] at this
 exact this
set_option maxHeartbeats 4000000 in
theorem returns_ok (s : Sched) (hB : SchedB 1048576 s) (t : List UInt8) (htl : t.length ≤ 1048576) : PureOK ctx 4 [schedP s, .str t] (.bool true) := by
  have hA := awake_ok
  have hf := few_of_B hB
  have hsm := small_ok s hf
  generalize hsb : ((s.steps.all fun x => decide ((numsL x).length ≤ 60)) && decide (s.state.length ≤ 130) && decide (s.fates.length ≤ 20) && decide (s.steps.length ≤ 20)) = sb at hsm
  have k1 := hf.a; have k2 := hf.f; have k3 := hf.s
  cases sb with
  | false =>
    unfold schedP at hsm
    refine pure_body' (C := ctx) (Fn.of fn4 rfl) rfl ?_
    unfold c4
    repeat' (first
      | ((with_reducible first | show VCs _ | show All _); (try dsimp only [go_sem]); first | (simp [vb, hA, hsm] <;> omega) | (simp only [vb, and_true, true_implies]; (repeat' (first | (with_reducible assumption) | (with_reducible apply And.intro) | intro _ | ((fail_if_success (with_reducible show (_ : Int) ≤ _)); assumption))) <;> first | omega | (simp only [ab, hA, hsm]; done) | (simp [hA, hsm] <;> omega)))
      | exact (rfl : some _ = _)
      | (fail_if_success refine awL ?_
         refine evT [(7, fun _ => some (.bool true)), (11, fun _ => some (.bool false))] ?_
         repeat1' dsimp only [c4, schedP, go_sem]
         first
         | refine aw4 ?_ ?_ rfl ?_
         | apply aw3
         | apply aw2
         | (refine awB (fun hc => ?_) fun hc => ?_ <;> first | (cases hc; done) | (exfalso; simp [hA, hsm] at hc <;> omega) | (try simp only [bn] at hc; try contradiction))
         | skip))
  | true =>
    simp only [Bool.and_eq_true, decide_eq_true_eq] at hsb
    by_cases hl : t.length ≤ 1500
    · have hp := parse_ok t (by omega)
      have hc := count_ok t 10
      have hcm := List.count_le_length (a := (10 : UInt8)) (l := t)
      have hz := zero_eq
      have hends := parse_ends t (by omega)
      have hR2 : (parseP t).2.2 = 0 → Ret (parseP t).1 := fun h => by
        rcases hends with h' | h'
        · exact ret_of (parse_few t (by omega)) h'.2.2 (parse_steps t hl)
        · omega
      generalize (parseP t).1 = x at *
      generalize (parseP t).2.1 = m at *
      generalize (parseP t).2.2 = er at *
      generalize t.count 10 = cn at *
      have imin : IntKind.i64.min = -9223372036854775808 := rfl
      have imax : IntKind.i64.max = 9223372036854775807 := rfl
      have tail : ∀ (f0 : AF) (μ0 : AM), Sub [(1, .pv (.str t)), (2, .ptr 0 0 0)] f0 → True := fun _ _ _ => trivial
      clear tail
      have hv := Valid_ok s (by omega) (by omega) (by omega) (sizes_of_B hf)
      have hfm := format_ok s (by omega) (by omega) (by omega) (sizes_of_B hf)
      by_cases hval : valid s = true
      · obtain ⟨r1, r2, r3, r4⟩ := ret_of hf hval (by omega)
        clear hv hfm
        rcases hends with ⟨he0, hm0, -⟩ | ⟨he3, hm1, hm2, hx⟩
        · obtain ⟨q1, q2, q3, q4⟩ := hR2 he0
          subst he0 hm0
          generalize fmtText s = F at *
          generalize fmtText x = G at *
          unfold schedP at *
          refine pure_body' (C := ctx) (Fn.of fn4 rfl) rfl ?_
          unfold c4
          repeat' (first
            | ((with_reducible first | show VCs _ | show All _); (try dsimp only [go_sem]); first | (simp [vb, hA, hsm, hp, r1, r2, r3, r4, q1, q2, q3, q4, hl] <;> omega) | (simp only [vb, and_true, true_implies]; (repeat' (first | (with_reducible assumption) | (with_reducible apply And.intro) | intro _ | ((fail_if_success (with_reducible show (_ : Int) ≤ _)); assumption))) <;> first | omega | (simp only [ab, hA, hsm, hp, r1, r2, r3, r4, q1, q2, q3, q4, hl]; done) | (simp [hA, hsm, hp, r1, r2, r3, r4, q1, q2, q3, q4, hl] <;> omega)))
            | exact (rfl : some _ = _)
            | (fail_if_success refine awL ?_
               refine evTH [(7, fun _ => some (.bool true)), (11, fun _ => some (.bool true)), (12, fun _ => some (.bool true)), (10, fun _ => some (.bool true))] [(33, { val := some (.pv (.tup [.str F, .int .i64 0])) }), (38, { val := some (.pv (.tup [schedP s, .int .i64 0, .int .i64 0])) }), (71, { val := some (.pv (.tup [schedP x, .int .i64 0, .int .i64 0])) }), (97, { val := some (.pv (.tup [.str G, .int .i64 0])) }), (102, { val := some (.pv (.tup [schedP x, .int .i64 0, .int .i64 0])) })] ?_
               repeat1' dsimp only [c4, schedP, go_sem]
               first
               | refine aw4 ?_ ?_ rfl ?_
               | apply aw3
               | apply aw2
               | (refine awB (fun hc => ?_) fun hc => ?_ <;> first | (cases hc; done) | (exfalso; simp [hA, hsm, hp, r1, r2, r3, r4, q1, q2, q3, q4, hl] at hc <;> omega) | (try simp only [bn] at hc; try contradiction))
               | skip))
        · subst he3 hx
          generalize fmtText s = F at *
          unfold schedP at *
          refine pure_body' (C := ctx) (Fn.of fn4 rfl) rfl ?_
          unfold c4
          repeat' (first
            | ((with_reducible first | show VCs _ | show All _); (try dsimp only [go_sem]); first | (simp [vb, hA, hsm, hp, r1, r2, r3, r4, hl, hz, hc, hm1, hm2] <;> omega) | (simp only [vb, and_true, true_implies]; (repeat' (first | (with_reducible assumption) | (with_reducible apply And.intro) | intro _ | ((fail_if_success (with_reducible show (_ : Int) ≤ _)); assumption))) <;> first | omega | (simp only [ab, hA, hsm, hp, r1, r2, r3, r4, hl, hz, hc, hm1, hm2]; done) | (simp [hA, hsm, hp, r1, r2, r3, r4, hl, hz, hc, hm1, hm2] <;> omega)))
            | exact (rfl : some _ = _)
            | (fail_if_success refine awL ?_
               refine evTH [(7, fun _ => some (.bool true)), (11, fun _ => some (.bool true)), (12, fun _ => some (.bool true)), (10, fun _ => some (.bool true)), (14, fun _ => some (.int .i64 cn))] [(33, { val := some (.pv (.tup [.str F, .int .i64 0])) }), (38, { val := some (.pv (.tup [schedP s, .int .i64 0, .int .i64 0])) }), (71, { val := some (.pv (.tup [schedP zeroSched, .int .i64 m, .int .i64 3])) })] ?_
               repeat1' dsimp only [c4, schedP, go_sem]
               first
               | refine aw4 ?_ ?_ rfl ?_
               | apply aw3
               | apply aw2
               | (refine awB (fun hc => ?_) fun hc => ?_ <;> first | (cases hc; done) | (exfalso; simp [hA, hsm, hp, r1, r2, r3, r4, hl, hz, hc, hm1, hm2] at hc <;> omega) | (try simp only [bn] at hc; try contradiction))
               | skip))
          simp [hm1, hm2]
      · have hval' : valid s = false := by simpa using hval
        rw [hval'] at hv
        unfold formatP at hfm
        rw [hval', if_neg (by simp)] at hfm
        dsimp only at hfm
        rcases hends with ⟨he0, hm0, -⟩ | ⟨he3, hm1, hm2, hx⟩
        · obtain ⟨q1, q2, q3, q4⟩ := hR2 he0
          subst he0 hm0
          generalize fmtText x = G at *
          unfold schedP at *
          refine pure_body' (C := ctx) (Fn.of fn4 rfl) rfl ?_
          unfold c4
          repeat' (first
            | ((with_reducible first | show VCs _ | show All _); (try dsimp only [go_sem]); first | (simp [vb, hA, hsm, hp, hv, hfm, q1, q2, q3, q4, hl] <;> omega) | (simp only [vb, and_true, true_implies]; (repeat' (first | (with_reducible assumption) | (with_reducible apply And.intro) | intro _ | ((fail_if_success (with_reducible show (_ : Int) ≤ _)); assumption))) <;> first | omega | (simp only [ab, hA, hsm, hp, hv, hfm, q1, q2, q3, q4, hl]; done) | (simp [hA, hsm, hp, hv, hfm, q1, q2, q3, q4, hl] <;> omega)))
            | exact (rfl : some _ = _)
            | (fail_if_success refine awL ?_
               refine evTH [(7, fun _ => some (.bool true)), (11, fun _ => some (.bool true)), (10, fun _ => some (.bool true))] [(30, { val := some (.pv (.bool false)) }), (60, { val := some (.pv (.tup [.str [], .int .i64 1])) }), (71, { val := some (.pv (.tup [schedP x, .int .i64 0, .int .i64 0])) }), (97, { val := some (.pv (.tup [.str G, .int .i64 0])) }), (102, { val := some (.pv (.tup [schedP x, .int .i64 0, .int .i64 0])) }), (110, { val := some (.pv (.bool true)) })] ?_
               repeat1' dsimp only [c4, schedP, go_sem]
               first
               | refine aw4 ?_ ?_ rfl ?_
               | apply aw3
               | apply aw2
               | (refine awB (fun hc => ?_) fun hc => ?_ <;> first | (cases hc; done) | (exfalso; simp [hA, hsm, hp, hv, hfm, q1, q2, q3, q4, hl] at hc <;> omega) | (try simp only [bn] at hc; try contradiction))
               | skip))
        · subst he3 hx
          unfold schedP at *
          refine pure_body' (C := ctx) (Fn.of fn4 rfl) rfl ?_
          unfold c4
          repeat' (first
            | ((with_reducible first | show VCs _ | show All _); (try dsimp only [go_sem]); first | (simp [vb, hA, hsm, hp, hv, hfm, hl, hz, hc, hm1, hm2] <;> omega) | (simp only [vb, and_true, true_implies]; (repeat' (first | (with_reducible assumption) | (with_reducible apply And.intro) | intro _ | ((fail_if_success (with_reducible show (_ : Int) ≤ _)); assumption))) <;> first | omega | (simp only [ab, hA, hsm, hp, hv, hfm, hl, hz, hc, hm1, hm2]; done) | (simp [hA, hsm, hp, hv, hfm, hl, hz, hc, hm1, hm2] <;> omega)))
            | exact (rfl : some _ = _)
            | (fail_if_success refine awL ?_
               refine evTH [(7, fun _ => some (.bool true)), (11, fun _ => some (.bool true)), (10, fun _ => some (.bool true)), (14, fun _ => some (.int .i64 cn))] [(30, { val := some (.pv (.bool false)) }), (60, { val := some (.pv (.tup [.str [], .int .i64 1])) }), (71, { val := some (.pv (.tup [schedP zeroSched, .int .i64 m, .int .i64 3])) })] ?_
               repeat1' dsimp only [c4, schedP, go_sem]
               first
               | refine aw4 ?_ ?_ rfl ?_
               | apply aw3
               | apply aw2
               | (refine awB (fun hc => ?_) fun hc => ?_ <;> first | (cases hc; done) | (exfalso; simp [hA, hsm, hp, hv, hfm, hl, hz, hc, hm1, hm2] at hc <;> omega) | (try simp only [bn] at hc; try contradiction))
               | skip))
          simp [hm1, hm2]
    · unfold schedP at hsm
      refine pure_body' (C := ctx) (Fn.of fn4 rfl) rfl ?_
      unfold c4
      repeat' (first
        | ((with_reducible first | show VCs _ | show All _); (try dsimp only [go_sem]); first | (simp [vb, hA, hsm, hl] <;> omega) | (simp only [vb, and_true, true_implies]; (repeat' (first | (with_reducible assumption) | (with_reducible apply And.intro) | intro _ | ((fail_if_success (with_reducible show (_ : Int) ≤ _)); assumption))) <;> first | omega | (simp only [ab, hA, hsm, hl]; done) | (simp [hA, hsm, hl] <;> omega)))
        | exact (rfl : some _ = _)
        | (fail_if_success refine awL ?_
           refine evT [(7, fun _ => some (.bool true)), (11, fun _ => some (.bool true))] ?_
           repeat1' dsimp only [c4, schedP, go_sem]
           first
           | refine aw4 ?_ ?_ rfl ?_
           | apply aw3
           | apply aw2
           | (refine awB (fun hc => ?_) fun hc => ?_ <;> first | (cases hc; done) | (exfalso; simp [hA, hsm, hl] at hc <;> omega) | (try simp only [bn] at hc; try contradiction))
           | skip))
theorem returns_typed (qs : List PV) (h : TypedAll Tryz.prog 1048576 [27, 9] qs) : PureOK ctx 4 qs (.bool true) := by
 match qs, h with
 | [p, q], h =>
  obtain ⟨h1, h2, -⟩ := h
  obtain ⟨s, rfl, hB⟩ := tSched h1
  obtain ⟨n, h3⟩ := ty_leaf h2 (fun fs h => by rw [Tryz.underlying9] at h; cases h)
  obtain ⟨x, hx, hl⟩ := ty_str h3 Tryz.underlying9
  simp at hx
  subst hx
  exact returns_ok s hB x hl
end
end Pur
end Go.Proofs.YteokbngllldmdaaGreatDoor
namespace Go.Proofs.YteokbngllldmdaaGreatDoor.lawReturns
open Go.ChangeShapes Go.WideShapes Go.ChangeAt Go.RowKit
theorem contract (H : Type) (enc : TypeId × Value → H) (W : World) (base : Nat) (args : Array Value) (ds gs : List (DataW H)) (before : List MemPlace)
  (hval : ∀ (j : Nat) t v, Tryz.f4.params[j]? = some t → args[j]? = some v → Value.okWide Tryz.prog W .any base t v)
  (hW : DataW.Whole enc Tryz.prog Tryz.f4.params.toList Rows.scheduleReturnsSpec.vars false W args.toList ds gs before) (hk : Rows.uptoSmall H (ds ++ gs) = true) (hL : laidMetH Tryz.prog Rows.scheduleReturnsUptoRow.laid W) (hsh : W.ShapedOpen Tryz.prog) :
  Calls Tryz.prog 4 args W fun e W' => ∃ v, e = .returned v ∧ Rows.scheduleReturnsSpec.post enc Tryz.prog Tryz.f4 false true false false W args v W' := by
 have hW' := hW
 obtain ⟨p, q, hA0, hV, rfl, hfz, hnd⟩ := hW
 have hA : DataW.TrodAll enc Tryz.prog W 0 (fun _ => true) true [27, 9] args.toList ds p := hA0
 obtain ⟨rfl, rfl⟩ := trodVars_none hV
 obtain ⟨qs, hty, hps⟩ := Pur.open_all (B := 1048576) (Sm := (fun d : DataW H => Rows.uptoBulk d ≤ 1048576)) Pur.Meas.upto (L := [27, 3, 9, 23, 24, 53, 4, 25, 41, 39, 55]) (r := .any) (b := base) (by kernel_rfl) [27, 9] args.toList ds p (of_decide_eq_true rfl) (fun j t v h1 h2 => hval j t v (by
  rw [Tryz.params4, List.getElem?_toArray]; exact h1) (by rw [Array.getElem?_toList] at h2; exact h2)) hA (fun d hd => Pur.upto_all hk d (List.mem_append_left _ hd))
 have hst : ∀ (W' : World) (sp : Nat → Bool), Below W.heap.size W W' → (∀ x ∈ p ++ [], sp x.block = true) → DataW.TrodAll enc Tryz.prog W' 0 sp true [27, 9] args.toList ds p := fun W' sp hb hsp =>
  Pur.stay_all (by kernel_rfl) _ _ _ _ (of_decide_eq_true (by kernel_rfl)) (fun x hx => Pur.same_below hb (hW'.lt x (List.mem_append_left _ hx))) (fun x hx => hsp x (List.mem_append_left _ hx)) hA
 have hE := Cd.env_of hL hsh
 obtain ⟨v0, vs0, d0, ds0, p0, q0, hargs, rfl, hp0, h0, r0⟩ := trodAll_cons hA
 obtain ⟨v1, vs1, d1, ds1, p1, q1, rfl, rfl, hp1, h1, r1⟩ := trodAll_cons r0
 obtain ⟨rfl, rfl, rfl⟩ := trodAll_nil r1
 obtain rfl : args = #[v0, v1] := by cases args; simp_all
 refine ((Pur.returns_typed qs hty).2 W (Pur.Here W) [v0, v1] hE (fun g h => h) hps).mono fun e W' hh => ?_
 obtain ⟨v, he, hb, hv⟩ := hh
 have := Pur.is_bool_inv hv
 subst this
 subst he
 exact ⟨_, rfl, post_below (pa := p) (pv := []) hW' (fun _ _ _ => trodAll_cons_mk (shut_bool Tryz.underlying4 _) trodAll_mk0)
  (fun sp hsp => hst W' sp hb hsp) (fun _ _ => rfl) rfl
  hb (ok_one (by kernel_rfl) rfl (okWide_bool_mk Tryz.underlying4 _))⟩
def start : Array Value := #[.agg #[.int .i64 0, .int .i64 0, .int .i64 0, .int .i64 0, .slice none 0 0, .slice none 0 0, .slice none 0 0], .string ⟨#[]⟩]
theorem met (os : Os) : laidMet Tryz.prog Rows.scheduleReturnsUptoRow.laid ((World.laidAll Tryz.prog os Rows.scheduleReturnsUptoRow.laid).forCall (fun _ _ => 0) ⟨#[], start, []⟩).memory :=
 laidMet_laidAll _ (by kernel_rfl) (by kernel_rfl)
theorem reads (os : Os) {H : Type} (enc : TypeId × Value → H) : ∃ places, DataW.whole enc Tryz.prog ((World.laidAll Tryz.prog os Rows.scheduleReturnsUptoRow.laid).forCall (fun _ _ => 0) ⟨#[], start, []⟩).memory Tryz.f4.params.toList Rows.scheduleReturnsSpec.vars false start.toList 8 = some ([.agg [.lit (.int .i64 0), .lit (.int .i64 0), .lit (.int .i64 0), .lit (.int .i64 0), .nil, .nil, .nil], .lit (.string [])], [], places) :=
 ⟨[], by kernel_rfl⟩
set_option maxRecDepth 100000 in
theorem lifted (os : Os) (started : os.Started) (H : Type) (enc : TypeId × Value → H) (F : Stop.Interp) :
  ReturnsInHanded {} Tryz.checked os 4 .any ((Rows.OpenSpec.upto Rows.scheduleReturnsSpec).preRow enc Tryz.prog Tryz.f4 Rows.scheduleReturnsUptoRow.domain false Rows.scheduleReturnsUptoRow.laid) (((Rows.OpenSpec.upto Rows.scheduleReturnsSpec).at F).post enc Tryz.prog Tryz.f4 false true false false) := by
 obtain ⟨places, hx⟩ := reads os enc
 refine returnsInHanded_of_row (C := Tryz.checked) (s := (Rows.OpenSpec.upto Rows.scheduleReturnsSpec)) Cd.own started (by kernel_rfl) Tryz.func4
  (witness_row_atRef (enc := enc) (C := Tryz.checked) false (World.laidAll Tryz.prog os Rows.scheduleReturnsUptoRow.laid) start (World.laidAll_os _ _ _) (by kernel_rfl) (by kernel_rfl) (by kernel_rfl)
   (OpenSpec.preRow_of_cond 8 hx (by kernel_rfl) (fun k hk => by cases hk; kernel_rfl) (by kernel_rfl) (met os))) ?_
 intro W base args ds gs before hval hW _ hk _ hL hsh _
 exact contract H enc W base args ds gs before hval hW (hk _ rfl) hL hsh
theorem said : Rows.ScheduleReturnsUptoSaid :=
 OpenClaim.holds_of_cond 4 Tryz.f4 rfl rfl rfl rfl rfl rfl rfl ⟨rfl, rfl, rfl, rfl, rfl⟩ rfl rfl rfl rfl rfl (by kernel_rfl) Tryz.func4 (by kernel_rfl)
  (of_decide_eq_true (by kernel_rfl)) (by unfold Func.isWrapper; rw [if_neg (of_decide_eq_false (by kernel_rfl))]; exact ⟨rfl, rfl⟩)
  (fun os started H enc _ F => by rw [OpenClaim.pre_eq_preRow]; exact lifted os started H enc F)
theorem plain (f : FuncId) (fn : Func) (hf : Tryz.pinned.checked.prog.funcNamed "confluent/confluentlaw51.ScheduleReturns" = some f) (hfn : Tryz.pinned.checked.prog.funcs[f]? = some fn) :
  true = Tryz.pinned.checked.prog.looks [] ∧ ∀ (j : Nat) t, fn.params[j]? = some t → Tryz.pinned.checked.prog.wantsStandIn t = false := by
 obtain rfl : f = 4 := Option.some.inj ((show Tryz.prog.funcNamed "confluent/confluentlaw51.ScheduleReturns" = some 4 by kernel_rfl).symm.trans hf) |>.symm
 obtain rfl : fn = Tryz.f4 := (Option.some.inj (Tryz.func4.symm.trans hfn)).symm
 refine ⟨by kernel_rfl, fun j t ht => ?_⟩
 rw [Tryz.params4] at ht
 have hm := Array.mem_of_getElem? ht
 simp only [List.mem_toArray, List.mem_cons, List.not_mem_nil, or_false] at hm
 rcases hm with rfl | rfl
 ·exact (by kernel_rfl : Tryz.prog.wantsStandIn 27 = false)
 ·exact (by kernel_rfl : Tryz.prog.wantsStandIn 9 = false)
theorem proved : Rows.ScheduleReturnsUptoCardSaid :=
 Claim7.holds_tied_plain_at .later [] _ _ _ _ said (fun _ h => by cases h) (by kernel_rfl) (fun _ h => by cases h) scheduleReturnsUpto_row_tie rfl ⟨rfl, rfl⟩ (by kernel_rfl) rfl plain (by kernel_rfl)
end Go.Proofs.YteokbngllldmdaaGreatDoor.lawReturns
namespace Go.Proofs.YteokbngllldmdaaGreatDoor
namespace Pur
open Go.RowKit
attribute [local go_sem] evOps evOp evOpV evRun evK argF List.map hintAt stripped get put tmpsOf tmpOf tmpO tmpL tmpP conds ev cond_true cond_false Nat.beq Nat.ble Nat.add quiet After thenR blockR IfD List.append_eq List.nil_append List.cons_append evInt exactI_a exactI_b exactI_c exactI_d exactI_e exactI_f evBin evStr evBool evUn guardC calm quiet.isCallK evPick List.getElem?_cons_zero List.getElem?_cons_succ fromCells fromPVs cellsOf List.all oneCell List.length_cons List.length_nil mkAgg plains List.drop List.take List.getD Option.getD_some bo1 bo2 ba1 ba2 bn1 bn2 kk_i64 kk_u8 kk_i32 kk_u64 setAt List.set Nat.reduceAdd Nat.reduceMul evCall safeCall refsOf refsIn scalarA scalar scalarL thawL mapAll thawArg thawRef after freeze RetD RetE evResult evRess evRes1 thaw_pv mkTup nilOf_a nilOf_b nilOf_bb nilOf_c nilOf_d nilOf_e nilOf_f nilOf_g nilOf_h nilOf_i nilOf_j nilOf_k nilOf_l nilOf_m eqLeaf_a eqLeaf_b eqLeaf_c eqOffs evMM bytesOf evOpsF AfterF footOf footRefs notIn indepF footAt freeOk still evParts fillA zeros intOfA boundA srcOf List.isEmpty appNil_0 appNil_1 appNil_2 Int.reduceToNat Nat.mul_one Nat.reduceSub evC evOpsT evOpsTF autoH tabHint look hintD strip guarded RetPD RetRD mpLen keysOk leafKA leafK bitI nilOf_n nilOf_o Bool.or_false Bool.or_true Bool.and_true Bool.and_false Nat.blt renF renM renB renV idxOf solF solM solA solV thawRef ev1
section
open Sch Pl
theorem contains_ok (s : List UInt8) (c : UInt8) : PureOK ctx 19 [.str s, .str [c]] (.bool (decide (0 ≤ Lib.indexByte s c))) := by
 refine PureOK.of_calls (by kernel_rfl) fun w S vs hE hS hp => ?_
 obtain ⟨v, u, rfl, hv, hu⟩ := pw2 hp
 have := is_str_inv hv
 subst this
 have := is_str_inv hu
 subst this
 refine (Tryz.strings_Contains_one ⟨s.toArray⟩ c w).mono fun e w' ⟨he, hw⟩ => ⟨_, he, ?_, fun _ _ => .bool _⟩
 rw [hw]
 exact Below.refl _ _
theorem replaceAll_ok (s : List UInt8) (hs : s.length ≤ 1000000000) : PureOK ctx 22 [.str s, .str [32], .str [32, 32]] (.str (dbl s)) := by
 refine PureOK.of_calls (by kernel_rfl) fun w S vs hE hS hp => ?_
 match vs, hp.len with
 | [v, a, b], _ =>
  have e0 := is_str_inv (hp.at_ 0 _ v rfl rfl)
  have e1 := is_str_inv (hp.at_ 1 _ a rfl rfl)
  have e2 := is_str_inv (hp.at_ 2 _ b rfl rfl)
  subst e0 e1 e2
  obtain ⟨m, hm⟩ := hE.ml
  have hsz : (⟨s.toArray⟩ : ByteArray).size = s.length := by simp [ByteArray.size]
  have h1 : 1 ≤ (⟨[32].toArray⟩ : ByteArray).size := by simp [ByteArray.size]
  have hle := Lib.countB_le ⟨[32].toArray⟩ h1 s.length ⟨s.toArray⟩ (by omega)
  have h2 : (⟨[32, 32].toArray⟩ : ByteArray).size = 2 := by simp [ByteArray.size]
  refine (Tryz.strings_ReplaceAll ⟨s.toArray⟩ ⟨[32].toArray⟩ ⟨[32, 32].toArray⟩ m w (by omega) hm h1 (by rw [h2]; omega)).mono fun e w' ⟨he, hb⟩ => ⟨_, he, hb, fun _ _ => ?_⟩
  rw [← dbl_all]
  exact .str _
theorem join_ok (l : List (List UInt8)) (c : UInt8) (hne : l ≠ []) (hn : l.length ≤ 1000000000) (hl : (Lib.join l [c]).length ≤ 1000000000) : PureOK ctx 23 [wordsP l, .str [c]] (.str (Lib.join l [c])) := by
 refine PureOK.of_calls (by kernel_rfl) fun w S vs hE hS hp => ?_
 obtain ⟨v, u, rfl, hv, hu⟩ := pw2 hp
 have := is_str_inv hu
 subst this
 have hmap : (l.map fun x => (⟨x.toArray⟩ : ByteArray)).map (·.data.toList) = l := by simp [Function.comp_def]
 have hlen : (l.map fun x => (⟨x.toArray⟩ : ByteArray)).length = l.length := by simp
 unfold wordsP at hv
 generalize hN : l.length = N at hv
 generalize hC : l.map PV.str = cs at hv
 cases hv with
 | sl n cs g o cap k hg h1 h2 hc h3 hi =>
  have := Tryz.strings_Join g o cap (l.map fun x => (⟨x.toArray⟩ : ByteArray)) ⟨[c].toArray⟩ w (fun j x hx => ?_) (hS g hg) (by omega) (by omega) (by rw [hmap]; simpa using Nat.le_trans hl (by omega))
  ·rw [hmap, hlen, hN] at this
   exact this.mono fun e w' ⟨he, hb⟩ => ⟨_, he, hb, fun _ _ => .str _⟩
  ·rw [List.getElem?_map] at hx
   obtain ⟨y, hy, rfl⟩ := Option.map_eq_some_iff.mp hx
   have hp : cs[j]? = some (.str y) := by rw [← hC, List.getElem?_map, hy]; rfl
   rw [hc j _ hp, is_str_inv (hi j _ hp)]
 | sl0 => exact absurd (List.eq_nil_of_length_eq_zero hN) hne
 | slz => exact absurd (List.eq_nil_of_length_eq_zero hN) hne
def c21 : ACode := (⟨_, by conv => (lhs; reduce; try simp only [lt1, Int.cast_ofNat_Int, Int.reduceNegSucc, UInt8.reduceOfNat])⟩ : {x // codeOf Tryz.prog 21 (fun d => Nat.beq d 5) = some x}).1
theorem fn21 : fnOf Tryz.prog 21 (fun d => Nat.beq d 5) = some (c21, [.t 2], 8, true) := by kernel_rfl
def rowW (l : List (List UInt8)) (g : Nat) : Blk := ⟨(l.map PV.str).map .pv, g, 1, 9, false⟩
set_option maxHeartbeats 1000000 in
theorem cloneW_ok (l : List (List UInt8)) (hne : l ≠ []) (hl : l.length ≤ 1000000) : RefOK ctx 21 [.pv (wordsP l)] [] (.ref 0 1 0 l.length) [rowW l 1] := by
  obtain ⟨x, r, rfl⟩ := List.exists_cons_of_ne_nil hne
  refine ref_body' (C := ctx) (Fn.of fn21 rfl) rfl (by simp) rfl (by simp [okMem, rowW, bnd]) ?_
  unfold c21
  simp only [List.length_cons] at hl
  repeat' (first
    | ((with_reducible first | show VCs _ | show All _); simp [vb] <;> omega)
    | exact (rfl : some _ = _)
    | (fail_if_success refine awL ?_
       refine evH [(7, { mode := 1 })] ?_
       repeat1' dsimp only [c21, wordsP, go_sem]
       first
       | refine aw4 ?_ ?_ rfl ?_
       | apply aw3
       | apply aw2
       | (refine awB (fun hc => ?_) fun hc => ?_ <;> first | (cases hc; done) | (exfalso; simp at hc <;> omega) | (try simp only [bn] at hc; try contradiction))
       | skip))
  exact ⟨⟨(by first | exact True.intro | (simp only [vb, lb]; omega) | (simp [vb] <;> omega)), by rw [Nat.zero_add]⟩, [], rfl⟩
end
section
open Sch Pl
def c6 : ACode := (⟨_, by conv => (lhs; reduce; try simp only [lt1, Int.cast_ofNat_Int, Int.reduceNegSucc, UInt8.reduceOfNat])⟩ : {x // codeOf Tryz.prog 6 (fun _ => false) = some x}).1
theorem fn6 : fnOf Tryz.prog 6 (fun _ => false) = some (c6, [.t 4], 119, true) := by kernel_rfl
theorem refEqB_same (s : Sched) : refEqB s s = true := by simp [refEqB]
set_option maxHeartbeats 4000000 in
theorem blanks_ok (t : List UInt8) (wh : Nat) (hw : wh < 256) : PureOK ctx 6 [.str t, .int .u8 wh] (.bool true) := by
  have h0 := awake_ok
  by_cases hl : t.length ≤ 1500
  · have hct := contains_ok t 35
    by_cases hx : 0 ≤ Lib.indexByte t 35
    · rw [decide_eq_true hx] at hct
      refine pure_body' (C := ctx) (Fn.of fn6 rfl) rfl ?_
      unfold c6
      repeat' (first
        | ((with_reducible first | show VCs _ | show All _); (try dsimp only [go_sem]); first | (simp [vb, h0, hct] <;> omega) | (simp only [vb, and_true, true_implies]; (repeat' (first | (with_reducible assumption) | (with_reducible apply And.intro) | intro _ | ((fail_if_success (with_reducible show (_ : Int) ≤ _)); assumption))) <;> first | omega | (simp only [ab, h0, hct]; done) | (simp [h0, hct] <;> omega)))
        | exact (rfl : some _ = _)
        | (fail_if_success refine awL ?_
           refine evT [(7, fun _ => some (.bool true)), (19, fun _ => some (.bool true))] ?_
           repeat1' dsimp only [c6, go_sem]
           first
           | refine aw4 ?_ ?_ rfl ?_
           | apply aw3
           | apply aw2
           | (refine awB (fun hc => ?_) fun hc => ?_ <;> first | (cases hc; done) | (exfalso; simp [h0, hct] at hc <;> omega) | (try simp only [bn] at hc; try contradiction))
           | skip))
    · rw [decide_eq_false hx] at hct
      have hsp := split_ok t 10 (by omega)
      have hn0 : 0 < (splitOn 10 t).length := List.length_pos_iff.mpr (splitOn_ne 10 t)
      have hnl : (splitOn 10 t).length ≤ t.length + 1 := by rw [splitOn_count]; have := List.count_le_length (a := (10 : UInt8)) (l := t); omega
      have hcl := cloneW_ok (splitOn 10 t) (splitOn_ne 10 t) (by omega)
      have h35 : ∀ x ∈ t, x ≠ 35 := fun x hxt e => by
        subst e
        obtain ⟨i, hi⟩ := List.mem_iff_getElem?.mp hxt
        have := Lib.indexByte_ge t 35
        exact Lib.indexByte_none (l := t) (c := 35) (by omega) i hi
      have hk : wh % (splitOn 10 t).length < (splitOn 10 t).length := Nat.mod_lt _ hn0
      have hk1 : (wh : Int) % ((splitOn 10 t).length : Int) = ((wh % (splitOn 10 t).length : Nat) : Int) := (Int.natCast_emod _ _).symm
      generalize wh % (splitOn 10 t).length = k at *
      obtain ⟨l1, l2, l3, l4, l5, l6⟩ := blanks_law t k hl h35 hk
      have hml := more_len t k hk
      have hp1 := parse_ok t (by omega)
      have hp2 := parse_ok (moreT t k) (by omega)
      have hp3 := parse_ok (frontT t) (by simp [frontT, frontW]; omega)
      rw [← l1, ← l3] at hp2
      rw [← l2, ← l4] at hp3
      have hfew := parse_few t (by omega)
      have hre := refEqual_ok _ _ hfew hfew
      rw [refEqB_same] at hre
      clear hfew l1 l2 l3 l4 h35
      have hlk : ((splitOn 10 t).getD k []).length ≤ 1500 := by have := mem_sum (getD_in (d := []) hk); rw [splitOn_len] at this; omega
      have hrp := replaceAll_ok ((splitOn 10 t).getD k []) (by omega)
      have hjn := join_ok ((splitOn 10 t).set k (moreLn ((splitOn 10 t).getD k []))) 10 (fun h => by have := congrArg List.length h; simp at this; exact splitOn_ne 10 t this) (by simp; omega) (by show (moreT t k).length ≤ _; omega)
      rw [show Lib.join ((splitOn 10 t).set k (moreLn ((splitOn 10 t).getD k []))) [10] = moreT t k from rfl] at hjn
      have hdl := dbl_len ((splitOn 10 t).getD k [])
      have e : (((splitOn 10 t).map PV.str).map AV.pv)[k]?.getD AV.any = .pv (.str ((splitOn 10 t).getD k [])) := by simp [List.getD, List.getElem?_eq_getElem hk]
      have hmb : 0 ≤ (parseP t).2.1 ∧ (parseP t).2.1 ≤ 5000 := by
        have := List.count_le_length (a := (10 : UInt8)) (l := t)
        rcases parse_ends t (by omega) with h | h <;> omega
      generalize moreT t k = mt at *
      generalize (splitOn 10 t).getD k [] = lk at *
      generalize (parseP t).1 = x at *
      generalize (parseP t).2.1 = m at *
      generalize (parseP t).2.2 = er at *
      generalize (parseP (frontT t)).2.1 = o at *
      generalize (parseP mt).2.1 = n at *
      generalize splitOn 10 t = ls at *
      unfold frontT frontW at hp3
      simp only [List.cons_append, List.nil_append] at hp3
      unfold schedP at hp1 hp2 hp3 hre
      unfold wordsP rowW at hcl
      have imin : IntKind.i64.min = -9223372036854775808 := rfl
      have imax : IntKind.i64.max = 9223372036854775807 := rfl
      refine pure_body' (C := ctx) (Fn.of fn6 rfl) rfl ?_
      unfold c6
      repeat' (first
        | ((with_reducible first | show VCs _ | show All _); (try dsimp only [go_sem]); first | (simp [vb, h0, hct, hsp, hn0, hcl, hk1, imin, imax, hk, e, hrp, hjn, hp1, hp2, hp3, hre, hmb] <;> omega) | (simp only [vb, and_true, true_implies]; (repeat' (first | (with_reducible assumption) | (with_reducible apply And.intro) | intro _ | ((fail_if_success (with_reducible show (_ : Int) ≤ _)); assumption))) <;> first | omega | (simp only [ab, h0, hct, hsp, hn0, hcl, hk1, imin, imax, hk, e, hrp, hjn, hp1, hp2, hp3, hre, hmb]; done) | (simp [h0, hct, hsp, hn0, hcl, hk1, imin, imax, hk, e, hrp, hjn, hp1, hp2, hp3, hre, hmb] <;> omega)))
        | exact (rfl : some _ = _)
        | (fail_if_success refine awL ?_
           refine evTH [(7, fun _ => some (.bool true)), (19, fun _ => some (.bool false)), (20, fun _ => some (wordsP ls)), (22, fun _ => some (.str (dbl lk))), (10, fun _ => some (.bool true))] [(34, { val := some (.ref 0 1 0 ls.length), mem := some [rowW ls 1] }), (40, { val := some (.pv (.str lk)) }), (47, { val := some (.pv (.tup [schedP x, .int .i64 m, .int .i64 er])) }), (53, { val := some (.pv (.str mt)), args := some [wordsP (ls.set k (moreLn lk)), .str [10]] }), (54, { val := some (.pv (.tup [schedP x, .int .i64 n, .int .i64 er])) }), (61, { val := some (.pv (.tup [schedP x, .int .i64 o, .int .i64 er])) })] ?_
           repeat1' dsimp only [c6, wordsP, rowW, schedP, go_sem]
           first
           | refine aw4 ?_ ?_ rfl ?_
           | apply aw3
           | apply aw2
           | (refine awB (fun hc => ?_) fun hc => ?_ <;> first | (cases hc; done) | (exfalso; simp [h0, hct, hsp, hn0, hcl, hk1, imin, imax, hk, e, hrp, hjn, hp1, hp2, hp3, hre, hmb] at hc <;> omega) | (try simp only [bn] at hc; try contradiction))
           | skip))
      · refine ⟨hp2, ?_, hjn, trivial⟩
        have hm2 : 32 :: 32 :: (dbl lk ++ [32, 32, 35, 32, 97, 32, 99, 111, 109, 109, 101, 110, 116, 58, 32, 97, 116, 32, 48, 32, 99, 117, 116, 32, 48, 32, 49]) = moreLn lk := rfl
        rw [hm2, hk1]
        simp only [Int.toNat_natCast, Nat.mul_one, Nat.zero_add]
        rw [← List.map_set, ← List.map_set, List.length_map, List.length_map, List.length_set, List.take_of_length_le (by simp), plains_map, show Nat.ble ls.length ls.length = true from Nat.ble_eq.mpr (Nat.le_refl _)]
        rfl
      · obtain ⟨a, b, c⟩ := l5 hc
        simp [a, b, c]
      · obtain ⟨a, b⟩ := l6 hc
        rw [hk1]
        rcases a with a | a
        · simp [a, b]
        · simp [a.2, b]
          omega
  · refine pure_body' (C := ctx) (Fn.of fn6 rfl) rfl ?_
    unfold c6
    repeat' (first
      | ((with_reducible first | show VCs _ | show All _); (try dsimp only [go_sem]); first | (simp [vb, h0, hl] <;> omega) | (simp only [vb, and_true, true_implies]; (repeat' (first | (with_reducible assumption) | (with_reducible apply And.intro) | intro _ | ((fail_if_success (with_reducible show (_ : Int) ≤ _)); assumption))) <;> first | omega | (simp only [ab, h0, hl]; done) | (simp [h0, hl] <;> omega)))
      | exact (rfl : some _ = _)
      | (fail_if_success refine awL ?_
         refine evT [(7, fun _ => some (.bool true)), (19, fun _ => some (.bool false))] ?_
         repeat1' dsimp only [c6, go_sem]
         first
         | refine aw4 ?_ ?_ rfl ?_
         | apply aw3
         | apply aw2
         | (refine awB (fun hc => ?_) fun hc => ?_ <;> first | (cases hc; done) | (exfalso; simp [h0, hl] at hc <;> omega) | (try simp only [bn] at hc; try contradiction))
         | skip))
theorem blanks_int (t : List UInt8) (n : Int) (h : (Lit.int .u8 n).wf = true) : PureOK ctx 6 [.str t, .int .u8 n] (.bool true) := by
 have h2 : 0 ≤ n ∧ n < 256 := by
  simp only [Lit.wf, Bool.and_eq_true, decide_eq_true_eq] at h
  have e1 : IntKind.u8.min = 0 := rfl
  have e2 : IntKind.u8.max = 255 := rfl
  omega
 obtain ⟨m, rfl⟩ := Int.eq_ofNat_of_zero_le h2.1
 exact blanks_ok t m (by omega)
end
end Pur
end Go.Proofs.YteokbngllldmdaaGreatDoor
namespace Go.Proofs.YteokbngllldmdaaGreatDoor.lawBlanks
open Go.ChangeShapes Go.WideShapes Go.ChangeAt Go.RowKit
open Go.ChangeMaps (open_string shut_string)
theorem contract (H : Type) (enc : TypeId × Value → H) (W : World) (base : Nat) (args : Array Value) (ds gs : List (DataW H)) (before : List MemPlace)
  (hval : ∀ (j : Nat) t v, Tryz.f6.params[j]? = some t → args[j]? = some v → Value.okWide Tryz.prog W .any base t v)
  (hW : DataW.Whole enc Tryz.prog Tryz.f6.params.toList Rows.scheduleBlanksSpec.vars false W args.toList ds gs before) (hL : laidMetH Tryz.prog Rows.scheduleBlanksRow.laid W) (hsh : W.ShapedOpen Tryz.prog) :
  Calls Tryz.prog 6 args W fun e W' => ∃ v, e = .returned v ∧ Rows.scheduleBlanksSpec.post enc Tryz.prog Tryz.f6 false true false false W args v W' := by
 have hW' := hW
 obtain ⟨p, q, hA0, hV, rfl, hfz, hnd⟩ := hW
 have hA : DataW.TrodAll enc Tryz.prog W 0 (fun _ => true) true Tryz.f6.params.toList args.toList ds p := hA0
 rw [Tryz.params6] at hA hval
 obtain ⟨v0, vs0, d0, ds0, p0, q0, hargs, rfl, rfl, h0, r0⟩ := trodAll_cons hA
 obtain ⟨v1, vs1, d1, ds1, p1, q1, rfl, rfl, rfl, h1, r1⟩ := trodAll_cons r0
 obtain ⟨rfl, rfl, rfl⟩ := trodAll_nil r1
 obtain rfl : args = #[v0, v1] := by cases args; simp_all
 obtain ⟨rfl, rfl⟩ := trodVars_none hV
 obtain ⟨x0, rfl, rfl, rfl, w0⟩ := open_string Tryz.underlying9 (hval 0 9 v0 rfl rfl) h0
 obtain ⟨x1, rfl, rfl, rfl, w1⟩ := open_int Tryz.underlying5 (hval 1 5 v1 rfl rfl) h1
 clear hA0
 simp only [List.append_nil] at hW'
 have hE := Cd.env_of hL hsh
 refine ((Pur.blanks_int x0.data.toList x1 w1).2 W (fun _ => False) [.string x0, .int .u8 x1] hE (fun g h => h.elim) (Pur.PW.cons (Pur.is_string _) (Pur.PW.cons (.int _ _) (Pur.PW.nil)))).mono fun e W' hh => ?_
 obtain ⟨v, he, hb, hv⟩ := hh
 have := Pur.is_bool_inv hv
 subst this
 subst he
 exact ⟨_, rfl, post_below (pa := []) (pv := []) hW' (fun _ _ _ => trodAll_cons_mk (shut_bool Tryz.underlying4 _) trodAll_mk0)
  (fun _ _ => trodAll_cons_mk (shut_string Tryz.underlying9 w0) (trodAll_cons_mk (shut_int Tryz.underlying5 w1) trodAll_mk0)) (fun _ _ => rfl) rfl
  hb (ok_one (by kernel_rfl) rfl (okWide_bool_mk Tryz.underlying4 _))⟩
def start : Array Value := #[.string ⟨#[]⟩, .int .u8 0]
theorem met (os : Os) : laidMet Tryz.prog Rows.scheduleBlanksRow.laid ((World.laidAll Tryz.prog os Rows.scheduleBlanksRow.laid).forCall (fun _ _ => 0) ⟨#[], start, []⟩).memory :=
 laidMet_laidAll _ (by kernel_rfl) (by kernel_rfl)
theorem reads (os : Os) {H : Type} (enc : TypeId × Value → H) : ∃ places, DataW.whole enc Tryz.prog ((World.laidAll Tryz.prog os Rows.scheduleBlanksRow.laid).forCall (fun _ _ => 0) ⟨#[], start, []⟩).memory Tryz.f6.params.toList Rows.scheduleBlanksSpec.vars false start.toList 8 = some ([.lit (.string []), .lit (.int .u8 0)], [], places) :=
 ⟨[], by kernel_rfl⟩
set_option maxRecDepth 100000 in
theorem lifted (os : Os) (started : os.Started) (H : Type) (enc : TypeId × Value → H) (F : Stop.Interp) :
  ReturnsInHanded {} Tryz.checked os 6 .any ((OpenSpec.ofChange Rows.scheduleBlanksSpec).preRow enc Tryz.prog Tryz.f6 Rows.scheduleBlanksRow.domain false Rows.scheduleBlanksRow.laid) (((OpenSpec.ofChange Rows.scheduleBlanksSpec).at F).post enc Tryz.prog Tryz.f6 false true false false) := by
 obtain ⟨places, hx⟩ := reads os enc
 refine returnsInHanded_of_row (C := Tryz.checked) (s := OpenSpec.ofChange Rows.scheduleBlanksSpec) Cd.own started (by kernel_rfl) Tryz.func6
  (witness_row_atRef (enc := enc) (C := Tryz.checked) false (World.laidAll Tryz.prog os Rows.scheduleBlanksRow.laid) start (World.laidAll_os _ _ _) (by kernel_rfl) (by kernel_rfl) (by kernel_rfl)
   (OpenSpec.preRow_of_cond 8 hx (by kernel_rfl) (fun k hk => by cases hk) (by kernel_rfl) (met os))) ?_
 intro W base args ds gs before hval hW _ _ _ hL hsh _
 exact contract H enc W base args ds gs before hval hW hL hsh
theorem said : Rows.ScheduleBlanksSaid :=
 OpenClaim.holds_of_cond 6 Tryz.f6 rfl rfl rfl rfl rfl rfl rfl ⟨rfl, rfl, rfl, rfl, rfl⟩ rfl rfl rfl rfl rfl (by kernel_rfl) Tryz.func6 (by kernel_rfl)
  (of_decide_eq_true (by kernel_rfl)) (by unfold Func.isWrapper; rw [if_neg (of_decide_eq_false (by kernel_rfl))]; exact ⟨rfl, rfl⟩)
  (fun os started H enc _ F => by rw [OpenClaim.pre_eq_preRow]; exact lifted os started H enc F)
theorem plain (f : FuncId) (fn : Func) (hf : Tryz.pinned.checked.prog.funcNamed "confluent/confluentlaw51.ScheduleBlanks" = some f) (hfn : Tryz.pinned.checked.prog.funcs[f]? = some fn) :
  true = Tryz.pinned.checked.prog.looks [] ∧ ∀ (j : Nat) t, fn.params[j]? = some t → Tryz.pinned.checked.prog.wantsStandIn t = false := by
 obtain rfl : f = 6 := Option.some.inj ((show Tryz.prog.funcNamed "confluent/confluentlaw51.ScheduleBlanks" = some 6 by kernel_rfl).symm.trans hf) |>.symm
 obtain rfl : fn = Tryz.f6 := (Option.some.inj (Tryz.func6.symm.trans hfn)).symm
 refine ⟨by kernel_rfl, fun j t ht => ?_⟩
 rw [Tryz.params6] at ht
 have h_string : Tryz.prog.wantsStandIn 9 = false := by kernel_rfl
 have h_uint8 : Tryz.prog.wantsStandIn 5 = false := by kernel_rfl
 have hm := Array.mem_of_getElem? ht
 simp only [List.mem_toArray, List.mem_cons, List.not_mem_nil, or_false] at hm
 rcases hm with rfl | rfl
 ·exact h_string
 ·exact h_uint8
theorem proved : Rows.ScheduleBlanksCardSaid :=
 Claim7.holds_tied_plain_at .later [] _ _ _ _ said (fun _ h => by cases h) (by kernel_rfl) (fun _ h => by cases h) scheduleBlanks_row_tie rfl ⟨rfl, rfl⟩ (by kernel_rfl) rfl plain (by kernel_rfl)
end Go.Proofs.YteokbngllldmdaaGreatDoor.lawBlanks
