/-
  RefutationTexts: the texts of trees are written and read as the reference does, for any tree and text whose bulk is at most 1048576; the tables of the library are laid, and nothing else is assumed. (RfZ RfZA RfI RfV RfW RfX RfF RfY RfZB RfPb RfPl RfNm RfWd RfRd)
-/
import Derived.Test.YtaleoeblooeglaaGreatDoorG03
import Derived.Lib.ItoaMem
import Derived.Lib.AtoiAll
import Derived.Lib.Atoi
set_option maxRecDepth 10000
set_option linter.unusedSimpArgs false
set_option linter.unusedVariables false
namespace Go.Proofs.YtaleoeblooeglaaGreatDoor
namespace Rf
def lineT (w : List UInt8) (ns : List Int) : List UInt8 := w ++ (ns.map fun n => 32 :: Lib.itoa n).flatten ++ [10]
def numsT (ns : List Int) : List UInt8 := (ns.map fun n => 32 :: Lib.itoa n).flatten
theorem numsT_snoc (l : List Int) (n : Int) : numsT (l ++ [n]) = numsT l ++ 32 :: Lib.itoa n := by simp [numsT]
end Rf
namespace Pur
open Go.RowKit
attribute [local go_sem] evOps evOp evOpV evRun evK argF List.map hintAt stripped get put tmpsOf tmpOf tmpO tmpL tmpP conds ev cond_true cond_false Nat.beq Nat.ble Nat.add quiet After thenR blockR IfD List.append_eq List.nil_append List.cons_append evInt exactI_a exactI_b exactI_c exactI_d exactI_e exactI_f evBin evStr evBool evUn guardC calm quiet.isCallK evPick List.getElem?_cons_zero List.getElem?_cons_succ fromCells fromPVs cellsOf List.all oneCell List.length_cons List.length_nil mkAgg plains List.drop List.take List.getD Option.getD_some bo1 bo2 ba1 ba2 bn1 bn2 kk_i64 kk_u8 kk_i32 kk_u64 setAt List.set Nat.reduceAdd Nat.reduceMul evCall safeCall refsOf refsIn scalarA scalar scalarL thawL mapAll thawArg thawRef after freeze RetD RetE evResult evRess evRes1 thaw_pv mkTup nilOf_a nilOf_b nilOf_bb nilOf_c nilOf_d nilOf_e nilOf_f nilOf_g nilOf_h nilOf_i nilOf_j nilOf_k nilOf_l nilOf_m eqLeaf_a eqLeaf_b eqLeaf_c eqOffs evMM bytesOf evOpsF AfterF footOf footRefs notIn indepF footAt freeOk still evParts fillA zeros intOfA boundA srcOf List.isEmpty appNil_0 appNil_1 appNil_2 Int.reduceToNat Nat.mul_one Nat.reduceSub evC evOpsT evOpsTF autoH tabHint look hintD strip guarded RetPD RetRD mpLen keysOk leafKA leafK bitI nilOf_n nilOf_o Bool.or_false Bool.or_true Bool.and_true Bool.and_false Nat.blt renF renM renB renV idxOf solF solM solA solV thawRef ev1
open Rf
def bst (μ : AM) (b g r : Nat) (out : List UInt8) (j : Nat) : AM := (μ.set r (rowB out j)).set b (bldB (.ptr b g 0) (.ref r j 0 out.length) g)
def bcell (b g : Nat) : Blk := ⟨[.ptr b g 0], 0, 1, 75, false⟩
theorem bst_len {μ : AM} {b g r j : Nat} {out : List UInt8} : (bst μ b g r out j).length = μ.length := by simp [bst]
theorem bst_b {μ : AM} {b g r j : Nat} {out : List UInt8} (hb : b < μ.length) : (bst μ b g r out j)[b]? = some (bldB (.ptr b g 0) (.ref r j 0 out.length) g) := by
 unfold bst
 exact List.getElem?_set_self (by simpa using hb)
theorem bst_r {μ : AM} {b g r j : Nat} {out : List UInt8} (hr : r < μ.length) (hne : r ≠ b) : (bst μ b g r out j)[r]? = some (rowB out j) := by
 unfold bst
 rw [List.getElem?_set_ne (Ne.symm hne)]
 exact List.getElem?_set_self hr
theorem bst_o {μ : AM} {b g r j c : Nat} {out : List UInt8} (hb : c ≠ b) (hr : c ≠ r) : (bst μ b g r out j)[c]? = μ[c]? := by
 unfold bst
 rw [List.getElem?_set_ne (Ne.symm hb), List.getElem?_set_ne (Ne.symm hr)]
theorem bst_bst {μ : AM} {b g r j j' : Nat} {out out' : List UInt8} (hne : r ≠ b) : bst (bst μ b g r out j) b g r out' j' = bst μ b g r out' j' := by
 unfold bst
 rw [List.set_comm _ _ (Ne.symm hne), List.set_set, List.set_set]
theorem bst_ok {μ : AM} {b g r j m : Nat} {out : List UInt8} (h : okMem μ m = true) (hb : b < m) (hr : r < m) : okMem (bst μ b g r out j) m = true := by
 unfold bst
 refine okMem_set (okMem_set h (byteA_bnd _ _)) ?_
 simp [bldB, bnd, Nat.blt_eq, hb, hr, Nat.blt, Nat.ble_eq, Nat.succ_le_iff]
theorem write_bst {μ : AM} (hμ : okMem μ μ.length = true) {b g r j : Nat} {old : List UInt8} (hb : b < μ.length) (hr : r < μ.length) (hne : r ≠ b) (l : List UInt8) (hl : old.length + l.length ≤ 140737488355328) :
  RefOK ctx 83 [.ptr b g 0, .pv (.str l)] (bst μ b g r old j) (.pv (.tup [.int .i64 l.length, .val .nilIface])) (bst μ b g r (old ++ l) (j + 1)) := by
 have := write_more (μ := bst μ b g r old j) (by rw [bst_len]; exact bst_ok hμ hb hr) hne (bst_b hb) (bst_r hr hne) l hl
 have e : ((bst μ b g r old j).set r (rowB (old ++ l) (j + 1))).set b (bldB (.ptr b g 0) (.ref r (j + 1) 0 (old.length + l.length)) g) = bst μ b g r (old ++ l) (j + 1) := by
  have := bst_bst (μ := μ) (b := b) (g := g) (r := r) (j := j) (j' := j + 1) (out := old) (out' := old ++ l) hne
  rw [← this]
  conv => rhs; unfold bst
  rw [List.length_append]
  rfl
 rw [e] at this
 exact this
def c82 : ACode := (⟨_, by conv => (lhs; reduce; try simp only [lt1, Int.cast_ofNat_Int, Int.reduceNegSucc, UInt8.reduceOfNat])⟩ : {x // codeOf Tryz.prog 82 (fun _ => false) = some x}).1
theorem fn82 : fnOf Tryz.prog 82 (fun _ => false) = some (c82, [], 24, true) := by kernel_rfl
def c82t : ACode := (⟨_, by conv => (lhs; reduce; try simp only [lt1, Int.cast_ofNat_Int, Int.reduceNegSucc, UInt8.reduceOfNat])⟩ : {x // (codeOf Tryz.prog 82 (fun _ => false)).map (fun y => y.sub [1]) = some x}).1
theorem nums_len (ns : List Int) (hns : ∀ n ∈ ns, -10000000000 ≤ n ∧ n ≤ 10000000000) : ∀ k, k ≤ ns.length → (numsT (ns.take k)).length ≤ 22 * k := by
 intro k
 induction k with
 | zero => intro _; simp [numsT]
 | succ k ih =>
  intro hk
  rw [take_succ_getD ns k 0 (by omega), numsT_snoc, List.length_append, List.length_cons]
  have := itoa_len (ns.getD k 0) (hns _ (getD_mem (by omega))).1 (hns _ (getD_mem (by omega))).2
  have := ih (by omega)
  omega
set_option maxHeartbeats 4000000 in
theorem line_rest {μ : AM} (hμ : okMem μ μ.length = true) {m b g r j c : Nat} {old : List UInt8} (hmm : m ≤ μ.length) (hb : b < μ.length) (hr : r < μ.length) (hne : r ≠ b) (hcb : c ≠ b) (hcr : c ≠ r) (hc : μ[c]? = some (bcell b g)) (ns : List Int) (hn : ns.length ≤ 1000) (hns : ∀ n ∈ ns, -10000000000 ≤ n ∧ n ≤ 10000000000) (ho : old.length ≤ 10000001000) {f : AF} (hf : Sub [(1, .pv (.sl ns.length (ns.map (.int .i64)))), (2, .ptr c 0 0)] f) :
  Aw ctx (fun _ => false) 24 m c82t (RetRD [] (.pv (.tup [])) (bst μ b g r (old ++ numsT ns ++ [10]) (j + (ns.length + 1)))) f (bst μ b g r old j) := by
 have hcl : c < μ.length := (List.getElem?_eq_some_iff.mp hc).1
 have hcell : ∀ o i, (bst μ b g r o i)[c]? = some (bcell b g) := fun o i => (bst_o hcb hcr).trans hc
 have hnl := nums_len ns hns
 refine aw_frame _ hf ?_
 unfold c82t
 refine evA ?_
 simp only [hcell, bcell, mem2_get, mem2_last, mem2_set0, mem2_set1, mem_last, mem_set, mem_len, go_sem]
 try simp only [hcell, bcell, mem2_get, mem2_last, mem2_set0, mem2_set1, mem_last, mem_set, mem_len, go_sem]
 refine ⟨(by simp [vb] <;> omega), (by simp [vb] <;> omega), ?_⟩
 refine aw_block ?_
 refine aw_forJ ns.length (fun _ => True) (fun k => [(2, .ptr c 0 0), (10, .pv (.sl ns.length (ns.map (.int .i64)))), (11, .pv (.int .i64 ns.length)), (12, .pv (.int .i64 k))]) (fun k => bst μ b g r (old ++ numsT (ns.take k)) (j + k)) trivial (by (repeat' (first | exact trivial | refine And.intro (by first | rfl | (simp [get, Nat.beq]; done) | (simp [get, Nat.beq]; omega) | (dsimp only [get]; congr 1 <;> first | rfl | omega | (simp; done) | (simp; omega))) ?_))) ⟨[], by simp [numsT]⟩ (fun k => ⟨by rw [bst_len]; omega, by simp [okFrame, bnd, bst_len, Nat.blt, Nat.succ_le_iff, hcl], by rw [bst_len]; exact bst_ok hμ hb hr⟩) fun k hk _ => ?_
 by_cases hlt : k < ns.length
 ·have hnk := hns _ (getD_mem (d := 0) hlt)
  have e : (ns.map (PV.int .i64))[k]? = some (.int .i64 (ns.getD k 0)) := by rw [List.getElem?_map, List.getD, List.getElem?_eq_getElem hlt]; rfl
  have e2 := take_succ_getD ns k 0 hlt
  have e0 : ns[k] = ns.getD k 0 := by rw [List.getD, List.getElem?_eq_getElem hlt]; rfl
  have hli := itoa_len (ns.getD k 0) hnk.1 hnk.2
  have hi := itoa_ok (ns.getD k 0) (by omega) (by omega)
  have hnum := hnl k hk
  generalize ns.getD k 0 = n at *
  have h2 := write_bst (g := g) (j := j + k) (old := old ++ numsT (ns.take k)) hμ hb hr hne (32 :: Lib.itoa n) (by simp only [List.length_append, List.length_cons]; omega)
  iterate 7 first
   | refine ⟨fun _ => ?_, fun h => by simp at h <;> omega⟩
   | refine ⟨by simp [vb, e, e0, hlt] <;> omega, by simp [vb, e, e0, hlt] <;> omega, ?_⟩
   | (refine evH [(15, { val := some (.pv (.int .i64 n)) })] ?_; iterate 2 (try simp only [hcell, bcell, mem2_get, mem2_last, mem2_set0, mem2_set1, mem_last, mem_set, mem_len, go_sem]))
  refine aw_regT (T := [(84, fun _ => some (.str (Lib.itoa n)))]) (H := [(20, { val := some (.pv (.tup [.int .i64 (32 :: Lib.itoa n).length, .val .nilIface])), mem := some (bst μ b g r (old ++ numsT (ns.take k) ++ 32 :: Lib.itoa n) (j + k + 1)) })]) (by rfl) ?_
  simp only [evOpsTail, go_sem, hcell, bcell]
  refine ⟨by simp [VCs, maxI]; omega, ⟨h2, hi, trivial⟩, ?_⟩
  refine evA ?_
  simp only [hcell, bcell, mem2_get, mem2_last, mem2_set0, mem2_set1, mem_last, mem_set, mem_len, go_sem]
  try simp only [hcell, bcell, mem2_get, mem2_last, mem2_set0, mem2_set1, mem_last, mem_set, mem_len, go_sem]
  refine ⟨(by simp [vb] <;> omega), (by simp [vb] <;> omega), ?_⟩
  exact ⟨hlt, trivial, by (repeat' (first | exact trivial | refine And.intro (by first | rfl | (simp [get, Nat.beq]; done) | (simp [get, Nat.beq]; omega) | (dsimp only [get]; congr 1 <;> first | rfl | omega | (simp; done) | (simp; omega))) ?_)), [], by rw [e2, numsT_snoc, List.append_nil, List.append_assoc, Nat.add_assoc j k 1]⟩
 ·obtain rfl : k = ns.length := by omega
  rw [List.take_length]
  have h3 := write_bst (g := g) (j := j + ns.length) (old := old ++ numsT ns) hμ hb hr hne [10] (by have := hnl _ (Nat.le_refl _); rw [List.take_length] at this; simp only [List.length_append, List.length_cons, List.length_nil]; omega)
  iterate 5 first
   | refine ⟨fun h => by simp at h <;> omega, fun _ => ?_⟩
   | refine ⟨by simp [vb] <;> omega, by simp [vb] <;> omega, ?_⟩
   | (refine evA ?_; iterate 2 (try simp only [hcell, bcell, mem2_get, mem2_last, mem2_set0, mem2_set1, mem_last, mem_set, mem_len, go_sem]))
  refine evH [(23, { val := some (.pv (.tup [.int .i64 1, .val .nilIface])), mem := some (bst μ b g r (old ++ numsT ns ++ [10]) (j + ns.length + 1)) })] ?_
  simp only [hcell, bcell, mem2_get, mem2_last, mem2_set0, mem2_set1, mem_last, mem_set, mem_len, go_sem]
  try simp only [hcell, bcell, mem2_get, mem2_last, mem2_set0, mem2_set1, mem_last, mem_set, mem_len, go_sem]
  refine ⟨(by simp [vb] <;> omega), ?_, ?_⟩
  ·exact ⟨h3, trivial⟩
  exact ⟨⟨trivial, trivial⟩, [], by simp [Nat.add_assoc]⟩
set_option maxHeartbeats 4000000 in
theorem lineM {μ : AM} (hμ : okMem μ μ.length = true) {b g r j c : Nat} {old : List UInt8} (hb : b < μ.length) (hr : r < μ.length) (hne : r ≠ b) (hcb : c ≠ b) (hcr : c ≠ r) (hc : μ[c]? = some (bcell b g)) (w : List UInt8) (ns : List Int) (hn : ns.length ≤ 1000) (hns : ∀ n ∈ ns, -10000000000 ≤ n ∧ n ≤ 10000000000) (hw : w.length ≤ 100) (ho : old.length ≤ 10000000000) :
  RefOK ctx 82 [.pv (.str w), .pv (.sl ns.length (ns.map (.int .i64))), .ptr c 0 0] (bst μ b g r old j) (.pv (.tup [])) (bst μ b g r (old ++ lineT w ns) (j + (ns.length + 2))) := by
 have hcell : ∀ o i, (bst μ b g r o i)[c]? = some (bcell b g) := fun o i => (bst_o hcb hcr).trans hc
 refine ref_body' (C := ctx) (Fn.of fn82 rfl) rfl (by rw [bst_len, bst_len]; omega) rfl (by rw [bst_len]; exact bst_ok hμ hb hr) ?_
 rw [bst_len]
 unfold c82
 have h1 := write_bst (g := g) (j := j) (old := old) hμ hb hr hne w (by omega)
 refine evH [(9, { val := some (.pv (.tup [.int .i64 w.length, .val .nilIface])), mem := some (bst μ b g r (old ++ w) (j + 1)) })] ?_
 simp only [hcell, bcell, mem2_get, mem2_last, mem2_set0, mem2_set1, mem_last, mem_set, mem_len, go_sem]
 try simp only [hcell, bcell, mem2_get, mem2_last, mem2_set0, mem2_set1, mem_last, mem_set, mem_len, go_sem]
 refine ⟨(by simp [vb] <;> omega), ?_, ?_⟩
 ·exact ⟨h1, trivial⟩
 have := line_rest hμ (m := μ.length) (b := b) (g := g) (r := r) (j := j + 1) (c := c) (old := old ++ w) (Nat.le_refl _) hb hr hne hcb hcr hc ns hn hns (by rw [List.length_append]; omega) (f := [(9, .pv (.tup [.int .i64 w.length, .val .nilIface])), (8, .pv (.str w)), (7, .ptr b g 0), (0, .pv (.str w)), (1, .pv (.sl ns.length (ns.map (.int .i64)))), (2, .ptr c 0 0)]) (by (repeat' (first | exact trivial | refine And.intro (by first | rfl | (simp [get, Nat.beq]; done) | (simp [get, Nat.beq]; omega) | (dsimp only [get]; congr 1 <;> first | rfl | omega | (simp; done) | (simp; omega))) ?_)))
 rw [List.append_assoc old w, List.append_assoc old, show j + 1 + (ns.length + 1) = j + (ns.length + 2) by omega] at this
 exact this
set_option maxHeartbeats 4000000 in
theorem lineF {μ : AM} (hμ : okMem μ μ.length = true) {b g c : Nat} (hk : μ[b]? = some (bldB (.pv (.val (.pointer none))) (.pv .nilsl) g)) (hcb : c ≠ b) (hc : μ[c]? = some (bcell b g)) (w : List UInt8) (ns : List Int) (hn : ns.length ≤ 1000) (hns : ∀ n ∈ ns, -10000000000 ≤ n ∧ n ≤ 10000000000) (hw0 : 1 ≤ w.length) (hw : w.length ≤ 100) :
  RefOK ctx 82 [.pv (.str w), .pv (.sl ns.length (ns.map (.int .i64))), .ptr c 0 0] μ (.pv (.tup [])) (bst (μ ++ [rowB [] 0]) b g μ.length (lineT w ns) (ns.length + 1)) := by
 have hb : b < μ.length := (List.getElem?_eq_some_iff.mp hk).1
 have hcl : c < μ.length := (List.getElem?_eq_some_iff.mp hc).1
 have hl : (μ ++ [rowB [] 0]).length = μ.length + 1 := by simp
 have hok : okMem (μ ++ [rowB [] 0]) (μ ++ [rowB [] 0]).length = true := by rw [hl]; exact okMem_add (okMem_more hμ (by omega)) rfl
 have hc1 : (μ ++ [rowB [] 0])[c]? = some (bcell b g) := by rw [List.getElem?_append_left hcl]; exact hc
 have h1 := write_first hμ hk w hw0 (by omega)
 have e : μ.set b (bldB (.ptr b g 0) (.ref μ.length 0 0 w.length) g) ++ [rowB w 0] = bst (μ ++ [rowB [] 0]) b g μ.length w 0 := by
  unfold bst
  rw [mem_set, List.set_append_left _ _ hb]
 rw [e] at h1
 refine ref_body' (C := ctx) (Fn.of fn82 rfl) rfl (by rw [bst_len, hl]; omega) rfl (by rw [bst_len]; exact bst_ok hok (by omega) (by omega)) ?_
 unfold c82
 refine evH [(9, { val := some (.pv (.tup [.int .i64 w.length, .val .nilIface])), mem := some (bst (μ ++ [rowB [] 0]) b g μ.length w 0) })] ?_
 simp only [hc, bcell, mem2_get, mem2_last, mem2_set0, mem2_set1, mem_last, mem_set, mem_len, go_sem]
 try simp only [hc, bcell, mem2_get, mem2_last, mem2_set0, mem2_set1, mem_last, mem_set, mem_len, go_sem]
 refine ⟨(by simp [vb] <;> omega), ?_, ?_⟩
 ·exact ⟨h1, trivial⟩
 have := line_rest hok (m := μ.length) (b := b) (g := g) (r := μ.length) (j := 0) (c := c) (old := w) (by omega) (by omega) (by omega) (by omega) hcb (by omega) hc1 ns hn hns (by omega) (f := [(9, .pv (.tup [.int .i64 w.length, .val .nilIface])), (8, .pv (.str w)), (7, .ptr b g 0), (0, .pv (.str w)), (1, .pv (.sl ns.length (ns.map (.int .i64)))), (2, .ptr c 0 0)]) (by (repeat' (first | exact trivial | refine And.intro (by first | rfl | (simp [get, Nat.beq]; done) | (simp [get, Nat.beq]; omega) | (dsimp only [get]; congr 1 <;> first | rfl | omega | (simp; done) | (simp; omega))) ?_)))
 rw [Nat.zero_add] at this
 exact this
theorem RefOK.weak {C : Ctx} {g : FuncId} {al al' : List AV} {μ μ' : AM} {r : AV} (h : RefOK C g al μ r μ') (hw : PW CW al' al) : RefOK C g al' μ r μ' :=
 ⟨h.1, fun w0 S γ w vs hW hp => h.2 w0 S γ w vs hW ⟨hw.len.symm.trans hp.len, fun i a v ha hv => by
  have hi : i < al'.length := by rw [hw.len]; exact (List.getElem?_eq_some_iff.mp ha).1
  exact hw.at_ i _ a (List.getElem?_eq_getElem hi) ha w S γ v (hp.at_ i _ v (List.getElem?_eq_getElem hi) hv)⟩⟩
end Pur
end Go.Proofs.YtaleoeblooeglaaGreatDoor
namespace Go.Proofs.YtaleoeblooeglaaGreatDoor
namespace Rf
def tailW (k : Int) : Nat := if k = 1 then 4 else if k = 2 then 3 else 2
def writesN : Tree → Nat
 | .node k s c a l => 4 * s.length + tailW k + (l.attach.map fun x => writesN x.1).sum
decreasing_by
 have := List.sizeOf_lt_of_mem x.2
 simp
 omega
theorem writesN_node (k : Int) (s : List RStep) (c a : Int) (l : List Tree) : writesN (.node k s c a l) = 4 * s.length + tailW k + (l.map writesN).sum := by
 rw [writesN, attach_map]
def kidsT (l : List Tree) : List UInt8 := (l.map textN).flatten
theorem kidsT_snoc (l : List Tree) (t : Tree) : kidsT (l ++ [t]) = kidsT l ++ textN t := by simp [kidsT]
def kidsW (l : List Tree) : Nat := (l.map writesN).sum
theorem kidsW_snoc (l : List Tree) (t : Tree) : kidsW (l ++ [t]) = kidsW l + writesN t := by simp [kidsW]
def stepsT (s : List RStep) : List UInt8 := (s.map rstT).flatten
theorem stepsT_snoc (s : List RStep) (x : RStep) : stepsT (s ++ [x]) = stepsT s ++ rstT x := by simp [stepsT]
theorem rstT_line (x : RStep) : rstT x = if x.kind = 1 then lineT [103, 114, 97, 112, 104] [x.index, x.cell] else lineT [114, 111, 119] [x.index, x.cell] := by
 unfold rstT lineT
 split <;> simp
theorem tailT_line (k c a : Int) (n : Nat) : tailT k c a n = if k = 1 then lineT [115, 112, 108, 105, 116] [c, a] else if k = 2 then lineT [99, 97, 115, 101, 115] [(n : Int)] else lineT [99, 108, 111, 115, 101, 100] [] := by
 unfold tailT lineT
 split
 ·simp
 ·split <;> simp
end Rf
namespace Pur
open Go.RowKit
attribute [local go_sem] evOps evOp evOpV evRun evK argF List.map hintAt stripped get put tmpsOf tmpOf tmpO tmpL tmpP conds ev cond_true cond_false Nat.beq Nat.ble Nat.add quiet After thenR blockR IfD List.append_eq List.nil_append List.cons_append evInt exactI_a exactI_b exactI_c exactI_d exactI_e exactI_f evBin evStr evBool evUn guardC calm quiet.isCallK evPick List.getElem?_cons_zero List.getElem?_cons_succ fromCells fromPVs cellsOf List.all oneCell List.length_cons List.length_nil mkAgg plains List.drop List.take List.getD Option.getD_some bo1 bo2 ba1 ba2 bn1 bn2 kk_i64 kk_u8 kk_i32 kk_u64 setAt List.set Nat.reduceAdd Nat.reduceMul evCall safeCall refsOf refsIn scalarA scalar scalarL thawL mapAll thawArg thawRef after freeze RetD RetE evResult evRess evRes1 thaw_pv mkTup nilOf_a nilOf_b nilOf_bb nilOf_c nilOf_d nilOf_e nilOf_f nilOf_g nilOf_h nilOf_i nilOf_j nilOf_k nilOf_l nilOf_m eqLeaf_a eqLeaf_b eqLeaf_c eqOffs evMM bytesOf evOpsF AfterF footOf footRefs notIn indepF footAt freeOk still evParts fillA zeros intOfA boundA srcOf List.isEmpty appNil_0 appNil_1 appNil_2 Int.reduceToNat Nat.mul_one Nat.reduceSub evC evOpsT evOpsTF autoH tabHint look hintD strip guarded RetPD RetRD mpLen keysOk leafKA leafK bitI nilOf_n nilOf_o Bool.or_false Bool.or_true Bool.and_true Bool.and_false Nat.blt renF renM renB renV idxOf solF solM solA solV thawRef ev1
open Rf
theorem bst_app {μ : AM} {b g r j : Nat} {o : List UInt8} (hb : b < μ.length) (hr : r < μ.length) (tl : AM) : bst μ b g r o j ++ tl = bst (μ ++ tl) b g r o j := by
 unfold bst
 rw [List.set_append_left _ _ hr, List.set_append_left _ _ (by simpa using hb)]
def c50 : ACode := (⟨_, by conv => (lhs; reduce; try simp only [lt1, Int.cast_ofNat_Int, Int.reduceNegSucc, UInt8.reduceOfNat])⟩ : {x // codeOf Tryz.prog 50 (fun _ => false) = some x}).1
theorem fn50 : fnOf Tryz.prog 50 (fun _ => false) = some (c50, [], 67, true) := by kernel_rfl
def c50s : ACode := (⟨_, by conv => (lhs; reduce; try simp only [lt1, Int.cast_ofNat_Int, Int.reduceNegSucc, UInt8.reduceOfNat])⟩ : {x // (codeOf Tryz.prog 50 (fun _ => false)).map (fun y => y.sub [1, 1, 0, 1, 0, 0]) = some x}).1
def c50t : ACode := (⟨_, by conv => (lhs; reduce; try simp only [lt1, Int.cast_ofNat_Int, Int.reduceNegSucc, UInt8.reduceOfNat])⟩ : {x // (codeOf Tryz.prog 50 (fun _ => false)).map (fun y => y.sub [1, 1, 1]) = some x}).1
def c50k : ACode := (⟨_, by conv => (lhs; reduce; try simp only [lt1, Int.cast_ofNat_Int, Int.reduceNegSucc, UInt8.reduceOfNat])⟩ : {x // (codeOf Tryz.prog 50 (fun _ => false)).map (fun y => y.sub [1, 1, 1, 1]) = some x}).1
structure WrSt (μ : AM) (b g r : Nat) (t : Tree) : Prop where
 ok : okMem μ μ.length = true
 hb : b < μ.length
 hr : r < μ.length
 ne : r ≠ b
 hf : formedB t = true
 hw : wt t ≤ 1000000
def wrM (μ : AM) (b g : Nat) (t : Tree) : AM := μ ++ [bcell b g, treeB t]
section
variable {μ : AM} {b g r : Nat} {t : Tree}
theorem wrM_len : (wrM μ b g t).length = μ.length + 2 := by simp [wrM]
theorem wrM_c (h : WrSt μ b g r t) (o : List UInt8) (i : Nat) : (bst (wrM μ b g t) b g r o i)[μ.length]? = some (bcell b g) := by
 rw [bst_o (by have := h.hb; omega) (by have := h.hr; omega), wrM, List.getElem?_append_right (Nat.le_refl _), Nat.sub_self]
 rfl
theorem wrM_t (h : WrSt μ b g r t) (o : List UInt8) (i : Nat) : (bst (wrM μ b g t) b g r o i)[μ.length + 1]? = some (treeB t) := by
 rw [bst_o (by have := h.hb; omega) (by have := h.hr; omega), wrM, List.getElem?_append_right (by omega), show μ.length + 1 - μ.length = 1 by omega]
 rfl
theorem wrM_ok (h : WrSt μ b g r t) : okMem (wrM μ b g t) (wrM μ b g t).length = true := by
 rw [wrM_len]
 have h1 := okMem_more h.ok (m' := μ.length + 2) (by omega)
 have h2 := okMem_add (k := bcell b g) h1 (by have := h.hb; simp only [bcell, List.all_cons, List.all_nil, Bool.and_true, bnd]; exact Nat.blt_eq.mpr (by omega))
 have h3 := okMem_add (k := treeB t) h2 rfl
 simpa [wrM] using h3
theorem bst_get_lt {x : Blk} {o : List UInt8} {i q : Nat} (hq : q < (wrM μ b g t).length) : (bst (wrM μ b g t) b g r o i ++ [x])[q]? = (bst (wrM μ b g t) b g r o i)[q]? := List.getElem?_append_left (by rw [bst_len]; exact hq)
end
def stB (x : RStep) : Blk := ⟨[.pv (.int .i64 x.kind), .pv (.int .i64 x.index), .pv (.int .i64 x.cell)], 0, 3, 66, false⟩
def wrF (n : Nat) (s : List RStep) (k : Nat) : AF := [(2, .ptr n 0 0), (3, .ptr (n + 1) 0 0), (4, .fn 82 [.ptr n 0 0]), (11, .pv (.sl s.length (s.flatMap rstepC))), (12, .pv (.int .i64 s.length)), (13, .pv (.int .i64 k))]
theorem line_wr {μ : AM} {b g r : Nat} {t : Tree} (h : WrSt μ b g r t) (tl : AM) (htl : okMem (wrM μ b g t ++ tl) (wrM μ b g t ++ tl).length = true) (w : List UInt8) (ns : List Int) (o : List UInt8) (j : Nat) (hn : ns.length ≤ 1000) (hns : ∀ n ∈ ns, -10000000000 ≤ n ∧ n ≤ 10000000000) (hw : w.length ≤ 100) (ho : o.length ≤ 10000000000) :
  RefOK ctx 82 [.pv (.str w), .pv (.sl ns.length (ns.map (.int .i64))), .ptr μ.length 0 0] (bst (wrM μ b g t) b g r o j ++ tl) (.pv (.tup [])) (bst (wrM μ b g t) b g r (o ++ lineT w ns) (j + (ns.length + 2)) ++ tl) := by
 have hl := wrM_len (μ := μ) (b := b) (g := g) (t := t)
 have hb := h.hb
 have hr := h.hr
 have e : ∀ o j, bst (wrM μ b g t) b g r o j ++ tl = bst (wrM μ b g t ++ tl) b g r o j := fun o j => bst_app (by omega) (by omega) tl
 rw [e, e]
 refine lineM htl (by rw [List.length_append]; omega) (by rw [List.length_append]; omega) h.ne (by omega) (by omega) ?_ w ns hn hns hw ho
 rw [List.getElem?_append_left (by omega)]
 simp [wrM]
set_option maxHeartbeats 4000000 in
theorem write_step {μ : AM} {b g r : Nat} {kd c a : Int} {s : List RStep} {ks : List Tree} (h : WrSt μ b g r (.node kd s c a ks)) {m : Nat} {R : Exit → AF → AM → Prop} {o : List UInt8} {j k : Nat} (hlt : k < s.length) (ho : o.length ≤ 1000000000) :
  Aw ctx (fun _ => false) 67 m c50s (thenR (fun f' μ' => Sub (wrF μ.length s (k + 1)) f' ∧ ∃ junk, μ' = bst (wrM μ b g (.node kd s c a ks)) b g r (o ++ rstT (s.getD k zs)) (j + 4) ++ junk) R) (wrF μ.length s k) (bst (wrM μ b g (.node kd s c a ks)) b g r o j) := by
 have hf := h.hf
 rw [formedB_node] at hf
 simp only [Bool.and_eq_true] at hf
 have hxo : rstepOk (s.getD k zs) = true := List.all_eq_true.mp hf.1.1 _ (getD_mem hlt)
 have hw := h.hw
 rw [wt_node] at hw
 have e := fm_take rstepC_len s k zs hlt
 have hle := rsteps_len s
 generalize s.getD k zs = x at *
 obtain ⟨b1, b2⟩ := rstep_bounds hxo
 have hkind : x.kind = 0 ∨ x.kind = 1 := by
  simp [rstepOk, insideB] at hxo
  omega
 have hok3 : okMem (wrM μ b g (.node kd s c a ks) ++ [stB x]) (wrM μ b g (.node kd s c a ks) ++ [stB x]).length = true := by
  rw [List.length_append, List.length_singleton]
  exact okMem_add (okMem_more (wrM_ok h) (by omega)) rfl
 have hc := wrM_c h
 have hlen : ∀ o i, (bst (wrM μ b g (.node kd s c a ks)) b g r o i).length = μ.length + 2 := fun o i => by rw [bst_len, wrM_len]
 unfold c50s wrF
 obtain ⟨xk, xi, xc⟩ := x
 simp only at b1 b2 hkind
 have hb2 : ∀ n ∈ [xi, xc], -10000000000 ≤ n ∧ n ≤ 10000000000 := by
  intro n hn
  simp only [List.mem_cons, List.not_mem_nil, or_false] at hn
  rcases hn with rfl | rfl <;> omega
 have h6 := line_wr h [stB ⟨xk, xi, xc⟩] hok3 [114, 111, 119] [xi, xc] o j (by simp) hb2 (by decide) (by omega)
 have h7 := line_wr h [stB ⟨xk, xi, xc⟩] hok3 [103, 114, 97, 112, 104] [xi, xc] o j (by simp) hb2 (by decide) (by omega)
 rw [rstT_line]
 simp only
 rcases hkind with rfl | rfl
 ·iterate 9 first
   | refine ⟨fun _ => ?_, fun h => by simp at h <;> omega⟩
   | refine ⟨by simp [vb, e, hle, hlt, rstepC] <;> omega, by simp [vb, e, hle, hlt, rstepC] <;> omega, ?_⟩
   | (refine evH [(16, { val := some (.pv (.agg (rstepC ⟨0, xi, xc⟩))) })] ?_; iterate 2 (try simp only [bcell, rstepC, mem2_get, mem2_last, mem2_set0, mem2_set1, mem_last, mem_set, mem_len, go_sem]))
  refine evH [(26, { val := some (.pv (.tup [])), mem := some (bst (wrM μ b g (.node kd s c a ks)) b g r (o ++ lineT [114, 111, 119] [xi, xc]) (j + 4) ++ [stB ⟨0, xi, xc⟩]) })] ?_
  simp only [bcell, rstepC, mem2_get, mem2_last, mem2_set0, mem2_set1, mem_last, mem_set, mem_len, go_sem]
  refine ⟨fun _ => ?_, fun h => by simp at h <;> omega⟩
  refine evH [(26, { val := some (.pv (.tup [])), mem := some (bst (wrM μ b g (.node kd s c a ks)) b g r (o ++ lineT [114, 111, 119] [xi, xc]) (j + 4) ++ [stB ⟨0, xi, xc⟩]) })] ?_
  simp only [bcell, rstepC, mem2_get, mem2_last, mem2_set0, mem2_set1, mem_last, mem_set, mem_len, go_sem]
  try simp only [bcell, rstepC, mem2_get, mem2_last, mem2_set0, mem2_set1, mem_last, mem_set, mem_len, go_sem]
  refine ⟨(by simp [vb, e, hle, hlt] <;> omega), ?_, ?_⟩
  ·exact ⟨h6, trivial⟩
  refine evA ?_
  simp only [bcell, rstepC, mem2_get, mem2_last, mem2_set0, mem2_set1, mem_last, mem_set, mem_len, go_sem]
  try simp only [bcell, rstepC, mem2_get, mem2_last, mem2_set0, mem2_set1, mem_last, mem_set, mem_len, go_sem]
  refine ⟨(by simp [vb, e, hle, hlt] <;> omega), (by simp [vb, e, hle, hlt] <;> omega), ?_⟩
  exact ⟨by (repeat' (first | exact trivial | refine And.intro (by first | rfl | (simp [get, Nat.beq]; done) | (simp [get, Nat.beq]; omega) | (dsimp only [get]; congr 1 <;> first | rfl | omega | (simp; done) | (simp; omega))) ?_)), _, rfl⟩
 ·iterate 9 first
   | refine ⟨fun _ => ?_, fun h => by simp at h <;> omega⟩
   | refine ⟨by simp [vb, e, hle, hlt, rstepC] <;> omega, by simp [vb, e, hle, hlt, rstepC] <;> omega, ?_⟩
   | (refine evH [(16, { val := some (.pv (.agg (rstepC ⟨1, xi, xc⟩))) })] ?_; iterate 2 (try simp only [bcell, rstepC, mem2_get, mem2_last, mem2_set0, mem2_set1, mem_last, mem_set, mem_len, go_sem]))
  refine evH [(33, { val := some (.pv (.tup [])), mem := some (bst (wrM μ b g (.node kd s c a ks)) b g r (o ++ lineT [103, 114, 97, 112, 104] [xi, xc]) (j + 4) ++ [stB ⟨1, xi, xc⟩]) })] ?_
  simp only [bcell, rstepC, mem2_get, mem2_last, mem2_set0, mem2_set1, mem_last, mem_set, mem_len, go_sem]
  refine ⟨fun h => by simp at h <;> omega, fun _ => ?_⟩
  refine evH [(33, { val := some (.pv (.tup [])), mem := some (bst (wrM μ b g (.node kd s c a ks)) b g r (o ++ lineT [103, 114, 97, 112, 104] [xi, xc]) (j + 4) ++ [stB ⟨1, xi, xc⟩]) })] ?_
  simp only [bcell, rstepC, mem2_get, mem2_last, mem2_set0, mem2_set1, mem_last, mem_set, mem_len, go_sem]
  try simp only [bcell, rstepC, mem2_get, mem2_last, mem2_set0, mem2_set1, mem_last, mem_set, mem_len, go_sem]
  refine ⟨(by simp [vb, e, hle, hlt] <;> omega), ?_, ?_⟩
  ·exact ⟨h7, trivial⟩
  refine evA ?_
  simp only [bcell, rstepC, mem2_get, mem2_last, mem2_set0, mem2_set1, mem_last, mem_set, mem_len, go_sem]
  try simp only [bcell, rstepC, mem2_get, mem2_last, mem2_set0, mem2_set1, mem_last, mem_set, mem_len, go_sem]
  refine ⟨(by simp [vb, e, hle, hlt] <;> omega), (by simp [vb, e, hle, hlt] <;> omega), ?_⟩
  exact ⟨by (repeat' (first | exact trivial | refine And.intro (by first | rfl | (simp [get, Nat.beq]; done) | (simp [get, Nat.beq]; omega) | (dsimp only [get]; congr 1 <;> first | rfl | omega | (simp; done) | (simp; omega))) ?_)), _, rfl⟩
theorem okMem_tr {μ : AM} (h : okMem μ μ.length = true) (t : Tree) : okMem (μ ++ [treeB t]) (μ ++ [treeB t]).length = true := by
 rw [List.length_append, List.length_singleton]
 exact okMem_add (okMem_more h (by omega)) rfl
def WriteOK (x : Tree) : Prop := ∀ (μ : AM) (b g r : Nat) (o : List UInt8) (j : Nat), WrSt μ b g r x → o.length + 60 * wt x ≤ 1000000000 →
 RefOK ctx 50 [.ptr b g 0, .pv (treeP x)] (bst μ b g r o j) (.pv (.tup [])) (bst μ b g r (o ++ textN x) (j + writesN x))
theorem wrM_app {μ : AM} {b g r : Nat} {t : Tree} (h : WrSt μ b g r t) (o : List UInt8) (j : Nat) : bst (wrM μ b g t) b g r o j = bst μ b g r o j ++ [bcell b g, treeB t] := (bst_app h.hb h.hr _).symm
set_option maxHeartbeats 4000000 in
theorem write_kids {μ : AM} {b g r : Nat} {kd c a : Int} {s : List RStep} {ks : List Tree} (h : WrSt μ b g r (.node kd s c a ks)) {m : Nat} (hm : m ≤ μ.length) (ih : ∀ x ∈ ks, WriteOK x) {o : List UInt8} {j : Nat} (ho : o.length + 60 * wts ks ≤ 1000000000) {f : AF} (hf : Sub [(2, .ptr μ.length 0 0), (3, .ptr (μ.length + 1) 0 0)] f) :
  Aw ctx (fun _ => false) 67 m c50k (RetRD [] (.pv (.tup [])) (bst μ b g r (o ++ kidsT ks) (j + kidsW ks))) f (bst (wrM μ b g (.node kd s c a ks)) b g r o j) := by
 have hft := h.hf
 rw [formedB_node] at hft
 simp only [Bool.and_eq_true] at hft
 have hw := h.hw
 rw [wt_node] at hw
 have hwl := wts_len ks
 have hb := h.hb
 have hr := h.hr
 have hc := wrM_c h
 have ht := wrM_t h
 have hL := wrM_len (μ := μ) (b := b) (g := g) (t := .node kd s c a ks)
 have htx : ∀ l : List Tree, (∀ x ∈ l, x ∈ ks) → (kidsT l).length ≤ 60 * wts l := fun l hl => kidsT_len l fun x hx => textN_len x (List.all_eq_true.mp hft.2 _ (hl x hx)) (by have := wt_mem (hl x hx); omega)
 refine aw_frame _ hf ?_
 unfold c50k
 refine evA ?_
 simp only [ht, treeB, Tree.kind, Tree.steps, Tree.cell, Tree.pos, Tree.kids, kidsP, mem2_get, mem2_last, mem2_set0, mem2_set1, mem_last, mem_set, mem_len, go_sem]
 try simp only [ht, treeB, Tree.kind, Tree.steps, Tree.cell, Tree.pos, Tree.kids, kidsP, mem2_get, mem2_last, mem2_set0, mem2_set1, mem_last, mem_set, mem_len, go_sem]
 refine ⟨(by simp [vb] <;> omega), (by simp [vb] <;> omega), ?_⟩
 refine aw_block ?_
 refine aw_forJ ks.length (fun _ => True) (fun k => [(2, .ptr μ.length 0 0), (57, .pv (.sl ks.length (ks.flatMap treeC))), (58, .pv (.int .i64 ks.length)), (59, .pv (.int .i64 k))]) (fun k => bst (wrM μ b g (.node kd s c a ks)) b g r (o ++ kidsT (ks.take k)) (j + kidsW (ks.take k))) trivial (by (repeat' (first | exact trivial | refine And.intro (by first | rfl | (simp [get, Nat.beq]; done) | (simp [get, Nat.beq]; omega) | (dsimp only [get]; congr 1 <;> first | rfl | omega | (simp; done) | (simp; omega))) ?_))) ⟨[], by simp [kidsT, kidsW]⟩ (fun k => ⟨by rw [bst_len, hL]; omega, by simp only [okFrame, List.all_cons, List.all_nil, bnd, bst_len, hL, Bool.and_true]; exact Nat.blt_eq.mpr (by omega), by rw [bst_len]; exact bst_ok (wrM_ok h) (by omega) (by omega)⟩) fun k hk _ => ?_
 by_cases hlt : k < ks.length
 ·have e := kid_take ks k hlt
  have hle := kids_len ks
  have hmem := getD_mem (d := zt) hlt
  have hx := ih _ hmem
  have hfx := List.all_eq_true.mp hft.2 _ hmem
  have hwx := wt_mem hmem
  have e2 := take_succ_getD ks k zt hlt
  have htk := htx (ks.take k) fun x hx => List.mem_of_mem_take hx
  have hws : wts (ks.take k) + wt (ks.getD k zt) ≤ wts ks := by
   have h1 := wts_take ks (k + 1)
   rw [e2, wts_append] at h1
   simpa [wts] using h1
  generalize ks.getD k zt = x at *
  have hok3 := okMem_tr (wrM_ok h) x
  have hcall := hx (wrM μ b g (.node kd s c a ks) ++ [treeB x]) b g r (o ++ kidsT (ks.take k)) (j + kidsW (ks.take k)) ⟨hok3, by rw [List.length_append]; omega, by rw [List.length_append]; omega, h.ne, hfx, by omega⟩ (by rw [List.length_append]; omega)
  rw [← bst_app (by omega) (by omega), ← bst_app (by omega) (by omega)] at hcall
  obtain ⟨xk, xs, xc, xa, xl⟩ := x
  simp only [Tree.kind, Tree.steps, Tree.cell, Tree.pos, Tree.kids] at e
  iterate 7 first
   | refine ⟨fun _ => ?_, fun h => by simp at h <;> omega⟩
   | refine ⟨by simp [vb, e, hle, hlt, rstepsP, kidsP] <;> omega, by simp [vb, e, hle, hlt, rstepsP, kidsP] <;> omega, ?_⟩
   | (refine evH [(62, { val := some (.pv (.agg [.int .i64 xk, rstepsP xs, .int .i64 xc, .int .i64 xa, kidsP xl])) })] ?_; iterate 2 (try simp only [ht, treeB, rstepsP, kidsP, mem2_get, mem2_last, mem2_set0, mem2_set1, mem_last, mem_set, mem_len, go_sem]))
  have hc2 : ∀ (o : List UInt8) (i : Nat) (y : Blk), (bst (wrM μ b g (.node kd s c a ks)) b g r o i ++ [y])[μ.length]? = some (bcell b g) := fun o i y => (bst_get_lt (by omega)).trans (hc o i)
  refine evH [(65, { val := some (.pv (.tup [])), mem := some (bst (wrM μ b g (.node kd s c a ks)) b g r (o ++ kidsT (ks.take k) ++ textN (.node xk xs xc xa xl)) (j + kidsW (ks.take k) + writesN (.node xk xs xc xa xl)) ++ [treeB (.node xk xs xc xa xl)]) })] ?_
  simp only [hc2, bcell, mem2_get, mem2_last, mem2_set0, mem2_set1, mem_last, mem_set, mem_len, go_sem]
  try simp only [hc2, bcell, mem2_get, mem2_last, mem2_set0, mem2_set1, mem_last, mem_set, mem_len, go_sem]
  refine ⟨(by simp [vb] <;> omega), ?_, ?_⟩
  ·exact ⟨hcall, trivial⟩
  refine evA ?_
  simp only [ht, mem2_get, mem2_last, mem2_set0, mem2_set1, mem_last, mem_set, mem_len, go_sem]
  try simp only [ht, mem2_get, mem2_last, mem2_set0, mem2_set1, mem_last, mem_set, mem_len, go_sem]
  refine ⟨(by simp [vb, hlt] <;> omega), (by simp [vb, hlt] <;> omega), ?_⟩
  exact ⟨hlt, trivial, by (repeat' (first | exact trivial | refine And.intro (by first | rfl | (simp [get, Nat.beq]; done) | (simp [get, Nat.beq]; omega) | (dsimp only [get]; congr 1 <;> first | rfl | omega | (simp; done) | (simp; omega))) ?_)), _, by rw [e2, kidsT_snoc, kidsW_snoc, List.append_assoc o, Nat.add_assoc j]⟩
 ·obtain rfl : k = ks.length := by omega
  rw [List.take_length]
  iterate 5 first
   | refine ⟨fun h => by simp at h <;> omega, fun _ => ?_⟩
   | refine ⟨by simp [vb, hlt] <;> omega, by simp [vb, hlt] <;> omega, ?_⟩
   | (refine evA ?_; iterate 2 (try simp only [ht, mem2_get, mem2_last, mem2_set0, mem2_set1, mem_last, mem_set, mem_len, go_sem]))
  exact ⟨⟨trivial, trivial⟩, _, wrM_app h _ _⟩
theorem tail_kinds {k c a : Int} {n : Nat} (h : Rf.tailOk k c a n = true) : (k = 0 ∧ n = 0) ∨ k = 1 ∨ (k = 2 ∧ n ≤ 1024) := by
 unfold Rf.tailOk at h
 split at h
 ·simp at h; omega
 ·split at h
  ·omega
  ·split at h
   ·simp at h; omega
   ·cases h
set_option maxHeartbeats 4000000 in
theorem write_tail {μ : AM} {b g r : Nat} {kd c a : Int} {s : List RStep} {ks : List Tree} (h : WrSt μ b g r (.node kd s c a ks)) {m : Nat} (hm : m ≤ μ.length) (ih : ∀ x ∈ ks, WriteOK x) {o : List UInt8} {j : Nat} (ho : o.length + 60 + 60 * wts ks ≤ 1000000000) {f : AF} (hf : Sub [(2, .ptr μ.length 0 0), (3, .ptr (μ.length + 1) 0 0), (4, .fn 82 [.ptr μ.length 0 0])] f) :
  Aw ctx (fun _ => false) 67 m c50t (RetRD [] (.pv (.tup [])) (bst μ b g r (o ++ tailT kd c a ks.length ++ kidsT ks) (j + tailW kd + kidsW ks))) f (bst (wrM μ b g (.node kd s c a ks)) b g r o j) := by
 have hft := h.hf
 rw [formedB_node] at hft
 simp only [Bool.and_eq_true] at hft
 have hw := h.hw
 rw [wt_node] at hw
 have hwl := wts_len ks
 have hc := wrM_c h
 have ht := wrM_t h
 obtain ⟨b1, b2⟩ := tail_bounds hft.1.2
 have htl := tailT_len hft.1.2 (by omega)
 have hkk := fun f hf => write_kids h (m := m) hm ih (o := o ++ tailT kd c a ks.length) (j := j + tailW kd) (by rw [List.length_append]; omega) (f := f) hf
 have hln := fun w ns hn hns hw => line_wr h [] (by rw [List.append_nil]; exact wrM_ok h) w ns o j hn hns hw (by omega)
 simp only [List.append_nil] at hln
 refine aw_frame _ hf ?_
 rw [tailT_line] at hkk ⊢
 unfold c50t
 rcases tail_kinds hft.1.2 with ⟨rfl, h0⟩ | rfl | ⟨rfl, h2⟩
 ·have h1 := (hln [99, 108, 111, 115, 101, 100] [] (by simp) (by simp) (by decide)).weak (al' := [.pv (.str [99, 108, 111, 115, 101, 100]), .pv .nilsl, .ptr μ.length 0 0]) ⟨rfl, fun i x y hx hy => by
   match i, hx, hy with
   | 0, hx, hy => injection hx with hx; injection hy with hy; subst hx hy; exact .refl _
   | 1, hx, hy => injection hx with hx; injection hy with hy; subst hx hy; exact CW.nil
   | 2, hx, hy => injection hx with hx; injection hy with hy; subst hx hy; exact .refl _
   | _ + 3, hx, _ => simp at hx⟩
  refine evA ?_
  simp only [ht, treeB, Tree.kind, Tree.steps, Tree.cell, Tree.pos, Tree.kids, mem2_get, mem2_last, mem2_set0, mem2_set1, mem_last, mem_set, mem_len, go_sem]
  try simp only [ht, treeB, Tree.kind, Tree.steps, Tree.cell, Tree.pos, Tree.kids, mem2_get, mem2_last, mem2_set0, mem2_set1, mem_last, mem_set, mem_len, go_sem]
  refine ⟨(by simp [vb] <;> omega), (by simp [vb] <;> omega), ?_⟩
  refine evA ?_
  simp only [ht, treeB, Tree.kind, Tree.steps, Tree.cell, Tree.pos, Tree.kids, mem2_get, mem2_last, mem2_set0, mem2_set1, mem_last, mem_set, mem_len, go_sem]
  try simp only [ht, treeB, Tree.kind, Tree.steps, Tree.cell, Tree.pos, Tree.kids, mem2_get, mem2_last, mem2_set0, mem2_set1, mem_last, mem_set, mem_len, go_sem]
  refine ⟨(by simp [vb] <;> omega), (by simp [vb] <;> omega), ?_⟩
  refine evH [(46, { val := some (.pv (.tup [])), mem := some (bst (wrM μ b g (.node 0 s c a ks)) b g r (o ++ lineT [99, 108, 111, 115, 101, 100] []) (j + 2)) })] ?_
  simp only [ht, treeB, Tree.kind, Tree.steps, Tree.cell, Tree.pos, Tree.kids, mem2_get, mem2_last, mem2_set0, mem2_set1, mem_last, mem_set, mem_len, go_sem]
  refine ⟨fun _ => ?_, fun h => by simp at h <;> omega⟩
  refine evH [(46, { val := some (.pv (.tup [])), mem := some (bst (wrM μ b g (.node 0 s c a ks)) b g r (o ++ lineT [99, 108, 111, 115, 101, 100] []) (j + 2)) })] ?_
  simp only [ht, treeB, Tree.kind, Tree.steps, Tree.cell, Tree.pos, Tree.kids, mem2_get, mem2_last, mem2_set0, mem2_set1, mem_last, mem_set, mem_len, go_sem]
  try simp only [ht, treeB, Tree.kind, Tree.steps, Tree.cell, Tree.pos, Tree.kids, mem2_get, mem2_last, mem2_set0, mem2_set1, mem_last, mem_set, mem_len, go_sem]
  refine ⟨(by simp [vb] <;> omega), ?_, ?_⟩
  ·exact ⟨h1, trivial⟩
  exact hkk _ (by (repeat' (first | exact trivial | refine And.intro (by first | rfl | (simp [get, Nat.beq]; done) | (simp [get, Nat.beq]; omega) | (dsimp only [get]; congr 1 <;> first | rfl | omega | (simp; done) | (simp; omega))) ?_)))
 ·have h1 := hln [115, 112, 108, 105, 116] [c, a] (by simp) (by intro n hn; simp only [List.mem_cons, List.not_mem_nil, or_false] at hn; rcases hn with rfl | rfl <;> omega) (by decide)
  refine evA ?_
  simp only [ht, treeB, Tree.kind, Tree.steps, Tree.cell, Tree.pos, Tree.kids, mem2_get, mem2_last, mem2_set0, mem2_set1, mem_last, mem_set, mem_len, go_sem]
  try simp only [ht, treeB, Tree.kind, Tree.steps, Tree.cell, Tree.pos, Tree.kids, mem2_get, mem2_last, mem2_set0, mem2_set1, mem_last, mem_set, mem_len, go_sem]
  refine ⟨(by simp [vb] <;> omega), (by simp [vb] <;> omega), ?_⟩
  refine evA ?_
  simp only [ht, treeB, Tree.kind, Tree.steps, Tree.cell, Tree.pos, Tree.kids, mem2_get, mem2_last, mem2_set0, mem2_set1, mem_last, mem_set, mem_len, go_sem]
  try simp only [ht, treeB, Tree.kind, Tree.steps, Tree.cell, Tree.pos, Tree.kids, mem2_get, mem2_last, mem2_set0, mem2_set1, mem_last, mem_set, mem_len, go_sem]
  refine ⟨(by simp [vb] <;> omega), (by simp [vb] <;> omega), ?_⟩
  refine evA ?_
  simp only [ht, treeB, Tree.kind, Tree.steps, Tree.cell, Tree.pos, Tree.kids, mem2_get, mem2_last, mem2_set0, mem2_set1, mem_last, mem_set, mem_len, go_sem]
  refine ⟨fun h => by simp at h <;> omega, fun _ => ?_⟩
  refine evA ?_
  simp only [ht, treeB, Tree.kind, Tree.steps, Tree.cell, Tree.pos, Tree.kids, mem2_get, mem2_last, mem2_set0, mem2_set1, mem_last, mem_set, mem_len, go_sem]
  try simp only [ht, treeB, Tree.kind, Tree.steps, Tree.cell, Tree.pos, Tree.kids, mem2_get, mem2_last, mem2_set0, mem2_set1, mem_last, mem_set, mem_len, go_sem]
  refine ⟨(by simp [vb] <;> omega), (by simp [vb] <;> omega), ?_⟩
  refine evH [(55, { val := some (.pv (.tup [])), mem := some (bst (wrM μ b g (.node 1 s c a ks)) b g r (o ++ lineT [115, 112, 108, 105, 116] [c, a]) (j + 4)) })] ?_
  simp only [ht, treeB, Tree.kind, Tree.steps, Tree.cell, Tree.pos, Tree.kids, mem2_get, mem2_last, mem2_set0, mem2_set1, mem_last, mem_set, mem_len, go_sem]
  refine ⟨fun _ => ?_, fun h => by simp at h <;> omega⟩
  refine evH [(55, { val := some (.pv (.tup [])), mem := some (bst (wrM μ b g (.node 1 s c a ks)) b g r (o ++ lineT [115, 112, 108, 105, 116] [c, a]) (j + 4)) })] ?_
  simp only [ht, treeB, Tree.kind, Tree.steps, Tree.cell, Tree.pos, Tree.kids, mem2_get, mem2_last, mem2_set0, mem2_set1, mem_last, mem_set, mem_len, go_sem]
  try simp only [ht, treeB, Tree.kind, Tree.steps, Tree.cell, Tree.pos, Tree.kids, mem2_get, mem2_last, mem2_set0, mem2_set1, mem_last, mem_set, mem_len, go_sem]
  refine ⟨(by simp [vb] <;> omega), ?_, ?_⟩
  ·exact ⟨h1, trivial⟩
  exact hkk _ (by (repeat' (first | exact trivial | refine And.intro (by first | rfl | (simp [get, Nat.beq]; done) | (simp [get, Nat.beq]; omega) | (dsimp only [get]; congr 1 <;> first | rfl | omega | (simp; done) | (simp; omega))) ?_)))
 ·have h1 := hln [99, 97, 115, 101, 115] [(ks.length : Int)] (by simp) (by intro n hn; simp only [List.mem_cons, List.not_mem_nil, or_false] at hn; subst hn; omega) (by decide)
  refine evA ?_
  simp only [ht, treeB, Tree.kind, Tree.steps, Tree.cell, Tree.pos, Tree.kids, kidsP, mem2_get, mem2_last, mem2_set0, mem2_set1, mem_last, mem_set, mem_len, go_sem]
  try simp only [ht, treeB, Tree.kind, Tree.steps, Tree.cell, Tree.pos, Tree.kids, kidsP, mem2_get, mem2_last, mem2_set0, mem2_set1, mem_last, mem_set, mem_len, go_sem]
  refine ⟨(by simp [vb] <;> omega), (by simp [vb] <;> omega), ?_⟩
  refine evA ?_
  simp only [ht, treeB, Tree.kind, Tree.steps, Tree.cell, Tree.pos, Tree.kids, kidsP, mem2_get, mem2_last, mem2_set0, mem2_set1, mem_last, mem_set, mem_len, go_sem]
  try simp only [ht, treeB, Tree.kind, Tree.steps, Tree.cell, Tree.pos, Tree.kids, kidsP, mem2_get, mem2_last, mem2_set0, mem2_set1, mem_last, mem_set, mem_len, go_sem]
  refine ⟨(by simp [vb] <;> omega), (by simp [vb] <;> omega), ?_⟩
  refine evA ?_
  simp only [ht, treeB, Tree.kind, Tree.steps, Tree.cell, Tree.pos, Tree.kids, kidsP, mem2_get, mem2_last, mem2_set0, mem2_set1, mem_last, mem_set, mem_len, go_sem]
  refine ⟨fun h => by simp at h <;> omega, fun _ => ?_⟩
  refine evA ?_
  simp only [ht, treeB, Tree.kind, Tree.steps, Tree.cell, Tree.pos, Tree.kids, kidsP, mem2_get, mem2_last, mem2_set0, mem2_set1, mem_last, mem_set, mem_len, go_sem]
  try simp only [ht, treeB, Tree.kind, Tree.steps, Tree.cell, Tree.pos, Tree.kids, kidsP, mem2_get, mem2_last, mem2_set0, mem2_set1, mem_last, mem_set, mem_len, go_sem]
  refine ⟨(by simp [vb] <;> omega), (by simp [vb] <;> omega), ?_⟩
  refine evH [(42, { val := some (.pv (.tup [])), mem := some (bst (wrM μ b g (.node 2 s c a ks)) b g r (o ++ lineT [99, 97, 115, 101, 115] [(ks.length : Int)]) (j + 3)) })] ?_
  simp only [ht, treeB, Tree.kind, Tree.steps, Tree.cell, Tree.pos, Tree.kids, kidsP, mem2_get, mem2_last, mem2_set0, mem2_set1, mem_last, mem_set, mem_len, go_sem]
  refine ⟨fun h => by simp at h <;> omega, fun _ => ?_⟩
  refine evH [(42, { val := some (.pv (.tup [])), mem := some (bst (wrM μ b g (.node 2 s c a ks)) b g r (o ++ lineT [99, 97, 115, 101, 115] [(ks.length : Int)]) (j + 3)) })] ?_
  simp only [ht, treeB, Tree.kind, Tree.steps, Tree.cell, Tree.pos, Tree.kids, kidsP, mem2_get, mem2_last, mem2_set0, mem2_set1, mem_last, mem_set, mem_len, go_sem]
  try simp only [ht, treeB, Tree.kind, Tree.steps, Tree.cell, Tree.pos, Tree.kids, kidsP, mem2_get, mem2_last, mem2_set0, mem2_set1, mem_last, mem_set, mem_len, go_sem]
  refine ⟨(by simp [vb] <;> omega), ?_, ?_⟩
  ·exact ⟨h1, trivial⟩
  exact hkk _ (by (repeat' (first | exact trivial | refine And.intro (by first | rfl | (simp [get, Nat.beq]; done) | (simp [get, Nat.beq]; omega) | (dsimp only [get]; congr 1 <;> first | rfl | omega | (simp; done) | (simp; omega))) ?_)))
end Pur
end Go.Proofs.YtaleoeblooeglaaGreatDoor
namespace Go.Proofs.YtaleoeblooeglaaGreatDoor
namespace Pur
open Go.RowKit
attribute [local go_sem] evOps evOp evOpV evRun evK argF List.map hintAt stripped get put tmpsOf tmpOf tmpO tmpL tmpP conds ev cond_true cond_false Nat.beq Nat.ble Nat.add quiet After thenR blockR IfD List.append_eq List.nil_append List.cons_append evInt exactI_a exactI_b exactI_c exactI_d exactI_e exactI_f evBin evStr evBool evUn guardC calm quiet.isCallK evPick List.getElem?_cons_zero List.getElem?_cons_succ fromCells fromPVs cellsOf List.all oneCell List.length_cons List.length_nil mkAgg plains List.drop List.take List.getD Option.getD_some bo1 bo2 ba1 ba2 bn1 bn2 kk_i64 kk_u8 kk_i32 kk_u64 setAt List.set Nat.reduceAdd Nat.reduceMul evCall safeCall refsOf refsIn scalarA scalar scalarL thawL mapAll thawArg thawRef after freeze RetD RetE evResult evRess evRes1 thaw_pv mkTup nilOf_a nilOf_b nilOf_bb nilOf_c nilOf_d nilOf_e nilOf_f nilOf_g nilOf_h nilOf_i nilOf_j nilOf_k nilOf_l nilOf_m eqLeaf_a eqLeaf_b eqLeaf_c eqOffs evMM bytesOf evOpsF AfterF footOf footRefs notIn indepF footAt freeOk still evParts fillA zeros intOfA boundA srcOf List.isEmpty appNil_0 appNil_1 appNil_2 Int.reduceToNat Nat.mul_one Nat.reduceSub evC evOpsT evOpsTF autoH tabHint look hintD strip guarded RetPD RetRD mpLen keysOk leafKA leafK bitI nilOf_n nilOf_o Bool.or_false Bool.or_true Bool.and_true Bool.and_false Nat.blt renF renM renB renV idxOf solF solM solA solV thawRef ev1
section
open Rf
def c27 : ACode := (⟨_, by conv => (lhs; reduce; try simp only [lt1, Int.cast_ofNat_Int, Int.reduceNegSucc, UInt8.reduceOfNat])⟩ : {x // codeOf Tryz.prog 27 (fun _ => false) = some x}).1
theorem fn27 : fnOf Tryz.prog 27 (fun _ => false) = some (c27, [.t 2, .t 3], 14, true) := by kernel_rfl
theorem valid_formed {t : Tree} (h : validB t = true) : formedB t = true ∧ wt t ≤ 65536 := by
 simp only [validB, Bool.and_eq_true, decide_eq_true_eq] at h
 exact ⟨h.2, h.1.2⟩
def formatN (t : Tree) : List UInt8 × Int := if validB t then (if (textN t).length > 65536 then ([], 8) else (textN t, 0)) else ([], 1)
theorem refFormat_ok (t : Tree) (hw : wt t ≤ 1000000000) : PureOK ctx 27 [treeP t] (.tup [.str (formatN t).1, .int .i64 (formatN t).2]) := by
  have hv := refValidT_ok t hw
  unfold formatN
  cases hb : validB t with
  | false =>
    rw [hb] at hv
    unfold treeP at hv
    refine pure_body' (C := ctx) (Fn.of fn27 rfl) rfl ?_
    unfold c27
    repeat' (first
      | ((with_reducible first | show VCs _ | show All _); (try dsimp only [go_sem]); first | (simp [vb, hv] <;> omega) | (simp only [vb, and_true, true_implies]; (repeat' (first | (with_reducible assumption) | (with_reducible apply And.intro) | intro _ | ((fail_if_success (with_reducible show (_ : Int) ≤ _)); assumption))) <;> first | omega | (simp only [ab, hv]; done) | (simp [hv] <;> omega)))
      | exact (rfl : some _ = _)
      | (fail_if_success refine awL ?_
         refine evT [(14, fun _ => some (.bool false))] ?_
         repeat1' dsimp only [c27, treeP, go_sem]
         first
         | refine aw4 ?_ ?_ rfl ?_
         | apply aw3
         | apply aw2
         | (refine awB (fun hc => ?_) fun hc => ?_ <;> first | (cases hc; done) | (exfalso; simp [hv] at hc <;> omega) | (try simp only [bn] at hc; try contradiction))
         | skip))
  | true =>
    rw [hb] at hv
    obtain ⟨h1, h2⟩ := valid_formed hb
    have ht := text_ok t h1 (by omega)
    generalize textN t = T at *
    unfold treeP at hv ht
    by_cases hl : T.length > 65536
    · rw [if_pos rfl, if_pos hl]
      refine pure_body' (C := ctx) (Fn.of fn27 rfl) rfl ?_
      unfold c27
      repeat' (first
        | ((with_reducible first | show VCs _ | show All _); (try dsimp only [go_sem]); first | (simp [vb, hv, ht, hl] <;> omega) | (simp only [vb, and_true, true_implies]; (repeat' (first | (with_reducible assumption) | (with_reducible apply And.intro) | intro _ | ((fail_if_success (with_reducible show (_ : Int) ≤ _)); assumption))) <;> first | omega | (simp only [ab, hv, ht, hl]; done) | (simp [hv, ht, hl] <;> omega)))
        | exact (rfl : some _ = _)
        | (fail_if_success refine awL ?_
           refine evT [(14, fun _ => some (.bool true)), (53, fun _ => some (.str T))] ?_
           repeat1' dsimp only [c27, treeP, go_sem]
           first
           | refine aw4 ?_ ?_ rfl ?_
           | apply aw3
           | apply aw2
           | (refine awB (fun hc => ?_) fun hc => ?_ <;> first | (cases hc; done) | (exfalso; simp [hv, ht, hl] at hc <;> omega) | (try simp only [bn] at hc; try contradiction))
           | skip))
    · rw [if_pos rfl, if_neg hl]
      refine pure_body' (C := ctx) (Fn.of fn27 rfl) rfl ?_
      unfold c27
      repeat' (first
        | ((with_reducible first | show VCs _ | show All _); (try dsimp only [go_sem]); first | (simp [vb, hv, ht, hl] <;> omega) | (simp only [vb, and_true, true_implies]; (repeat' (first | (with_reducible assumption) | (with_reducible apply And.intro) | intro _ | ((fail_if_success (with_reducible show (_ : Int) ≤ _)); assumption))) <;> first | omega | (simp only [ab, hv, ht, hl]; done) | (simp [hv, ht, hl] <;> omega)))
        | exact (rfl : some _ = _)
        | (fail_if_success refine awL ?_
           refine evT [(14, fun _ => some (.bool true)), (53, fun _ => some (.str T))] ?_
           repeat1' dsimp only [c27, treeP, go_sem]
           first
           | refine aw4 ?_ ?_ rfl ?_
           | apply aw3
           | apply aw2
           | (refine awB (fun hc => ?_) fun hc => ?_ <;> first | (cases hc; done) | (exfalso; simp [hv, ht, hl] at hc <;> omega) | (try simp only [bn] at hc; try contradiction))
           | skip))
end
section
open Rf
structure FamS (σ : Type) where
 E : σ → World → Prop
 hE : ∀ k (w w' : World), E k w → Below w.heap.size w w' → E k w'
 Fo : Nat → Prop
noncomputable def fam {σ : Type} (X : FamS σ) : Fam σ := ⟨Tryz.prog, by kernel_rfl, [], X.E, X.hE, X.Fo⟩
mutual
def vis {σ : Type} (st : σ → Int → Tree → Bool × σ) (k : σ) (lev : Int) : Tree → Bool × σ
 | .node kd s c a l => match st k lev (.node kd s c a l) with
  | (false, k1) => (false, k1)
  | (true, k1) => visK st k1 (lev + 1) l
def visK {σ : Type} (st : σ → Int → Tree → Bool × σ) (k : σ) (lev : Int) : List Tree → Bool × σ
 | [] => (true, k)
 | t :: r => match vis st k lev t with
  | (false, k1) => (false, k1)
  | (true, k1) => visK st k1 lev r
end
mutual
theorem vis_G {σ : Type} {st : σ → Int → Tree → Bool × σ} {G : σ → Prop} (hG : ∀ k lev t, G k → (st k lev t).1 = true → G (st k lev t).2) : ∀ (t : Tree) (k : σ) (lev : Int), G k → (vis st k lev t).1 = true → G (vis st k lev t).2
 | .node kd s c a l, k, lev, hk, h => by
  have h1 := hG k lev (.node kd s c a l) hk
  rw [vis] at h ⊢
  generalize st k lev (.node kd s c a l) = q at *
  obtain ⟨b, k1⟩ := q
  cases b with
  | false => cases h
  | true => exact visK_G hG l k1 (lev + 1) (h1 rfl) h
theorem visK_G {σ : Type} {st : σ → Int → Tree → Bool × σ} {G : σ → Prop} (hG : ∀ k lev t, G k → (st k lev t).1 = true → G (st k lev t).2) : ∀ (l : List Tree) (k : σ) (lev : Int), G k → (visK st k lev l).1 = true → G (visK st k lev l).2
 | [], k, lev, hk, h => by rw [visK]; exact hk
 | t :: r, k, lev, hk, h => by
  have h1 := vis_G hG t k lev hk
  rw [visK] at h ⊢
  generalize vis st k lev t = q at *
  obtain ⟨b, k1⟩ := q
  cases b with
  | false => cases h
  | true => exact visK_G hG r k1 lev (h1 rfl) h
end
def c68 : ACode := (⟨_, by conv => (lhs; reduce; try simp only [lt1, Int.cast_ofNat_Int, Int.reduceNegSucc, UInt8.reduceOfNat])⟩ : {x // codeOf Tryz.prog 68 (fun _ => false) = some x}).1
theorem fn68 : fnOf Tryz.prog 68 (fun _ => false) = some (c68, [.t 6], 28, true) := by kernel_rfl
theorem get_below {μ : AM} {b : Nat} {k : Blk} (h : μ[b]? = some k) (x : Blk) : (μ ++ [x])[b]? = some k := by
 have := (List.getElem?_eq_some_iff.mp h).1
 rw [List.getElem?_append_left this]
 exact h
theorem bnd_moreV : ∀ (d : Nat) (v : AV) (m m' : Nat), m ≤ m' → bnd d m v = true → bnd d m' v = true := by
 intro d
 induction d with
 | zero =>
  intro v m m' hmm h
  cases v <;> simp only [bnd] at h ⊢ <;> first | exact h | (have := Nat.blt_eq.mp h; exact Nat.blt_eq.mpr (by omega))
 | succ d ih =>
  intro v m m' hmm h
  cases v <;> simp only [bnd] at h ⊢ <;> first
   | exact h
   | (have := Nat.blt_eq.mp h; exact Nat.blt_eq.mpr (by omega))
   | (rw [List.all_eq_true] at h ⊢; exact fun x hx => ih x m m' hmm (h x hx))
   | exact ih _ m m' hmm h
theorem okMem_addV {μ : AM} {k : Blk} (h : okMem μ μ.length = true) (hk : k.cells.all (bnd 3 (μ.length + 1)) = true) : okMem (μ ++ [k]) (μ ++ [k]).length = true := by
 unfold okMem at h ⊢
 rw [List.all_eq_true] at h ⊢
 intro q hq
 rw [List.length_append, List.length_singleton]
 rcases List.mem_append.mp hq with hq | hq
 ·have := h q hq
  rw [List.all_eq_true] at this ⊢
  exact fun v hv => bnd_moreV 3 v _ _ (by omega) (this v hv)
 ·rw [List.mem_singleton.mp hq]
  exact hk
theorem okMem_tree {μ : AM} (h : okMem μ μ.length = true) (t : Tree) : okMem (μ ++ [treeB t]) (μ ++ [treeB t]).length = true :=
 okMem_addV h rfl
theorem awY_skip {σ : Type} {F : Fam σ} {own : Nat → Bool} {n m : Nat} {R : σ → Exit → AF → AM → Prop} {k : σ} {f : AF} {μ : AM} (h : R k .normal f μ) : AwY F own n m .skip R k f μ := awY_lift (evA h)
theorem awY_exit {σ : Type} {F : Fam σ} {own : Nat → Bool} {n m id : Nat} {R : σ → Exit → AF → AM → Prop} {k : σ} {f : AF} {μ : AM} (h : R k (.exit id) f μ) : AwY F own n m (.exit id) R k f μ := awY_lift (aw_exit h)
variable {σ : Type} {X : FamS σ}
set_option maxHeartbeats 4000000 in
theorem visit_ok (l b1 b2 : Nat) (e1 e2 : TypeId) (st : σ → Int → Tree → Bool × σ) (G : σ → Prop) (hG : ∀ k lev t, G k → (st k lev t).1 = true → G (st k lev t).2)
    (hY : ∀ (k : σ) (lev : Int) (t : Tree) (μ : AM), G k → okMem μ μ.length = true → wt t ≤ 1000000000 → -1000000000 ≤ lev → lev ≤ 3000000000 → YdOK (fam X) l [.pv (.int .i64 lev), .pv (treeP t)] k μ (.pv (.bool (st k lev t).1)) (st k lev t).2 μ) :
    ∀ (t : Tree), wt t ≤ 1000000000 → ∀ (k : σ) (lev : Int) (μ : AM), G k → okMem μ μ.length = true → -1000000000 ≤ lev → lev + wt t ≤ 2000000000 →
      μ[b1]? = some ⟨[.pv (.val (.func (.yield l) #[] #[]))], 0, 1, e1, false⟩ → μ[b2]? = some ⟨[.fn 68 [.ptr b1 0 0, .ptr b2 0 0]], 0, 1, e2, false⟩ →
      YOK (fam X) 68 [.pv (.int .i64 lev), .pv (treeP t), .ptr b1 0 0, .ptr b2 0 0] k μ (.pv (.bool (vis st k lev t).1)) (vis st k lev t).2 μ := by
  refine Tree.ind fun kd s c a ks ih hw k lev μ hk hμ hl0 hl1 h1 h2 => ?_
  refine y_body (F := fam X) (k := k) (Fn.of (C := (fam X).C k) fn68 rfl) rfl (Nat.le_refl _) rfl hμ ?_
  unfold c68
  refine awY_seq (awY_lift ?_)
  refine evA ?_
  simp only [thenY, treeP, Tree.kind, Tree.steps, Tree.cell, Tree.pos, Tree.kids, mem2_get, mem2_last, mem2_set0, mem2_set1, mem_last, mem_set, mem_len, go_sem]
  try simp only [thenY, treeP, Tree.kind, Tree.steps, Tree.cell, Tree.pos, Tree.kids, mem2_get, mem2_last, mem2_set0, mem2_set1, mem_last, mem_set, mem_len, go_sem]
  refine ⟨(by simp [vb] <;> omega), (by simp [vb] <;> omega), ?_⟩
  refine awY_seq (awY_seq ?_)
  refine awY_mid 3 [] [] ?_
  simp only [MidAt, List.take_succ_cons, List.take_zero, List.drop_succ_cons, List.drop_zero, List.getElem?_cons_succ, List.getElem?_cons_zero, go_sem, mem_last, get_below h1, get_below h2, panT, thenY]
  have hT := okMem_tree hμ (.node kd s c a ks)
  refine ⟨by simp [VCs], trivial, trivial, .pv (.bool (st k lev (.node kd s c a ks)).1), (st k lev (.node kd s c a ks)).2, μ ++ [treeB (.node kd s c a ks)], .inr ⟨.t 9, [.t 10, .t 11], l, rfl, rfl, hY k lev _ _ hk hT hw (by omega) (by omega)⟩, ?_⟩
  have hvis : vis st k lev (.node kd s c a ks) = match st k lev (.node kd s c a ks) with
    | (false, k1) => (false, k1)
    | (true, k1) => visK st k1 (lev + 1) ks := by rw [vis]
  rw [hvis]
  have hk1 := hG k lev (.node kd s c a ks) hk
  generalize st k lev (.node kd s c a ks) = q at *
  obtain ⟨b, k1⟩ := q
  simp only [go_sem, thenY]
  cases b with
  | false =>
    refine ⟨by simp [VCs], trivial, ?_⟩
    refine awY_cond (t := true) rfl ?_
    rw [cond_true]
    refine awY_lift ?_
    repeat' (first
      | ((with_reducible first | show VCs _ | show All _); simp [vb] <;> omega)
      | exact (rfl : some _ = _)
      | (fail_if_success refine awL ?_
         refine evA ?_
         repeat1' dsimp only [c68, thenY, RetY, go_sem]
         first
         | refine aw4 ?_ ?_ rfl ?_
         | apply aw3
         | apply aw2
         | (refine awB (fun hc => ?_) fun hc => ?_ <;> first | (cases hc; done) | (exfalso; simp at hc <;> omega) | (try simp only [bn] at hc; try contradiction))
         | skip))
    exact ⟨rfl, [], _, rfl, trivial, rfl⟩
  | true =>
    refine ⟨by simp [VCs], trivial, ?_⟩
    refine awY_cond (t := false) rfl ?_
    rw [cond_false]
    refine awY_lift ?_
    refine evA ?_
    simp only [go_sem, thenY]
    refine awY_seq (awY_seq (awY_lift ?_))
    refine evA ?_
    simp only [thenY, treeB, Tree.kind, Tree.steps, Tree.cell, Tree.pos, Tree.kids, kidsP, mem2_get, mem2_last, mem2_set0, mem2_set1, mem_last, mem_set, mem_len, go_sem]
    try simp only [thenY, treeB, Tree.kind, Tree.steps, Tree.cell, Tree.pos, Tree.kids, kidsP, mem2_get, mem2_last, mem2_set0, mem2_set1, mem_last, mem_set, mem_len, go_sem]
    refine ⟨(by simp [vb] <;> omega), (by simp [vb] <;> omega), ?_⟩
    generalize hr : visK st k1 (lev + 1) ks = r
    rw [wt_node] at hw hl1
    refine awY_block ?_
    refine awY_loop (fun j k' f' μ' => ∃ i, i ≤ ks.length ∧ j = ks.length - i ∧ visK st k' (lev + 1) (ks.drop i) = r ∧ Sub [(0, .pv (.int .i64 lev)), (3, .ptr b2 0 0), (15, .pv (.sl ks.length (ks.flatMap treeC))), (16, .pv (.int .i64 ks.length)), (17, .pv (.int .i64 i))] f' ∧ ∃ junk, μ' = μ ++ junk ∧ okMem (μ ++ junk) (μ ++ junk).length = true ∧ G k') ?_ ks.length ⟨0, Nat.zero_le _, rfl, by rw [List.drop_zero]; exact hr, by (repeat' (first | exact trivial | refine And.intro (by first | rfl | (simp [get, Nat.beq]; done) | (simp [get, Nat.beq]; omega) | (dsimp only [get]; congr 1 <;> first | rfl | omega | (simp; done) | (simp; omega))) ?_)), _, rfl, hT, hk1 rfl⟩
    rintro j k' f' μ' ⟨i, hi, rfl, hv, hf, junk, rfl, hok, hkk⟩
    refine awY_frame _ hf ?_
    clear hf f'
    have g1 : (μ ++ junk)[b1]? = some ⟨[.pv (.val (.func (.yield l) #[] #[]))], 0, 1, e1, false⟩ := by rw [List.getElem?_append_left (List.getElem?_eq_some_iff.mp h1).1]; exact h1
    have g2 : (μ ++ junk)[b2]? = some ⟨[.fn 68 [.ptr b1 0 0, .ptr b2 0 0]], 0, 1, e2, false⟩ := by rw [List.getElem?_append_left (List.getElem?_eq_some_iff.mp h2).1]; exact h2
    by_cases hlt : i < ks.length
    · have e := kid_take ks i hlt
      have hle := kids_len ks
      have hkl := wts_len ks
      have hwx := wt_mem (getD_mem (d := zt) hlt)
      have hd : ks.drop i = ks.getD i zt :: ks.drop (i + 1) := by rw [List.drop_eq_getElem_cons hlt, List.getD, List.getElem?_eq_getElem hlt]; rfl
      rw [hd, visK] at hv
      have hx := ih _ (getD_mem (d := zt) hlt) (by omega) k' (lev + 1)
      generalize ks.getD i zt = x at *
      have hT2 := okMem_tree hok x
      have hx := hx _ hkk hT2 (by omega) (by omega) (get_below g1 _) (get_below g2 _)
      obtain ⟨xk, xs, xc, xa, xl⟩ := x
      simp only [Tree.kind, Tree.steps, Tree.cell, Tree.pos, Tree.kids] at e
      simp only [treeP, treeB, Tree.kind, Tree.steps, Tree.cell, Tree.pos, Tree.kids] at hx hT2
      refine awY_seq (awY_lift ?_)
      refine evA ?_
      simp only [thenY, mem2_get, mem2_last, mem2_set0, mem2_set1, mem_last, mem_set, mem_len, go_sem]
      try simp only [thenY, mem2_get, mem2_last, mem2_set0, mem2_set1, mem_last, mem_set, mem_len, go_sem]
      refine ⟨(by simp [vb, hlt] <;> omega), (by simp [vb, hlt] <;> omega), ?_⟩
      refine awY_seq (awY_cond (t := decide ((i : Int) < ks.length)) rfl ?_)
      rw [decide_eq_true (by omega : (i : Int) < ks.length), cond_true]
      refine awY_skip ?_
      refine awY_seq (awY_block ?_)
      refine awY_seq (awY_lift ?_)
      refine evH [(20, { val := some (.pv (.agg [.int .i64 xk, rstepsP xs, .int .i64 xc, .int .i64 xa, kidsP xl])) })] ?_
      simp only [thenY, mem2_get, mem2_last, mem2_set0, mem2_set1, mem_last, mem_set, mem_len, go_sem]
      try simp only [thenY, mem2_get, mem2_last, mem2_set0, mem2_set1, mem_last, mem_set, mem_len, go_sem]
      refine ⟨(by simp [vb, e, hle, hlt] <;> omega), (by simp [vb, e, hle, hlt] <;> omega), ?_⟩
      refine awY_seq ?_
      refine awY_mid 4 [] [] ?_
      simp only [MidAt, List.take_succ_cons, List.take_zero, List.drop_succ_cons, List.drop_zero, List.getElem?_cons_succ, List.getElem?_cons_zero, go_sem, mem_last, panT, thenY, get_below g1, get_below g2]
      refine ⟨by simp [VCs, minI, maxI]; omega, trivial, trivial, _, _, _, .inl ⟨_, _, rfl, hx⟩, ?_⟩
      clear hx
      have hk2 := vis_G hG (.node xk xs xc xa xl) k' (lev + 1) hkk
      generalize vis st k' (lev + 1) (.node xk xs xc xa xl) = q at *
      obtain ⟨b, k2⟩ := q
      simp only [go_sem, thenY]
      cases b with
      | false =>
        refine ⟨by simp [VCs], trivial, ?_⟩
        refine awY_cond (t := true) rfl ?_
        rw [cond_true]
        refine awY_lift ?_
        subst hv
        repeat' (first
          | ((with_reducible first | show VCs _ | show All _); simp [vb] <;> omega)
          | exact (rfl : some _ = _)
          | (fail_if_success refine awL ?_
             refine evA ?_
             repeat1' dsimp only [c68, thenY, blockY, RetY, go_sem]
             first
             | refine aw4 ?_ ?_ rfl ?_
             | apply aw3
             | apply aw2
             | (refine awB (fun hc => ?_) fun hc => ?_ <;> first | (cases hc; done) | (exfalso; simp at hc <;> omega) | (try simp only [bn] at hc; try contradiction))
             | skip))
        exact ⟨rfl, [], _, rfl, trivial, by rw [List.append_assoc]⟩
      | true =>
        refine ⟨by simp [VCs], trivial, ?_⟩
        refine awY_cond (t := false) rfl ?_
        rw [cond_false]
        refine awY_skip ?_
        simp only [thenY, blockY]
        refine awY_lift ?_
        refine evA ?_
        simp only [thenY, blockY, mem2_get, mem2_last, mem2_set0, mem2_set1, mem_last, mem_set, mem_len, go_sem]
        try simp only [thenY, blockY, mem2_get, mem2_last, mem2_set0, mem2_set1, mem_last, mem_set, mem_len, go_sem]
        refine ⟨(by simp [vb, hlt] <;> omega), (by simp [vb, hlt] <;> omega), ?_⟩
        exact ⟨_, by omega, i + 1, by omega, rfl, hv, by (repeat' (first | exact trivial | refine And.intro (by first | rfl | (simp [get, Nat.beq]; done) | (simp [get, Nat.beq]; omega) | (dsimp only [get]; congr 1 <;> first | rfl | omega | (simp; done) | (simp; omega))) ?_)), _, by rw [List.append_assoc], by rw [← List.append_assoc]; exact hT2, hk2 rfl⟩
    · obtain rfl : i = ks.length := by omega
      refine awY_seq (awY_lift ?_)
      refine evA ?_
      simp only [thenY, mem2_get, mem2_last, mem2_set0, mem2_set1, mem_last, mem_set, mem_len, go_sem]
      try simp only [thenY, mem2_get, mem2_last, mem2_set0, mem2_set1, mem_last, mem_set, mem_len, go_sem]
      refine ⟨(by simp [vb, hlt] <;> omega), (by simp [vb, hlt] <;> omega), ?_⟩
      refine awY_seq (awY_cond (t := decide ((ks.length : Int) < ks.length)) rfl ?_)
      rw [decide_eq_false (by omega : ¬ (ks.length : Int) < ks.length), cond_false]
      refine awY_exit ?_
      simp only [thenY, blockY, Nat.beq_refl, cond_true]
      refine awY_lift ?_
      rw [List.drop_length, visK] at hv
      subst hv
      repeat' (first
        | ((with_reducible first | show VCs _ | show All _); simp [vb] <;> omega)
        | exact (rfl : some _ = _)
        | (fail_if_success refine awL ?_
           refine evA ?_
           repeat1' dsimp only [c68, thenY, blockY, RetY, go_sem]
           first
           | refine aw4 ?_ ?_ rfl ?_
           | apply aw3
           | apply aw2
           | (refine awB (fun hc => ?_) fun hc => ?_ <;> first | (cases hc; done) | (exfalso; simp at hc <;> omega) | (try simp only [bn] at hc; try contradiction))
           | skip))
      exact ⟨rfl, [], _, rfl, trivial, rfl⟩
end
section
open Rf
def c67 : ACode := (⟨_, by conv => (lhs; reduce; try simp only [lt1, Int.cast_ofNat_Int, Int.reduceNegSucc, UInt8.reduceOfNat])⟩ : {x // codeOf Tryz.prog 67 (fun _ => false) = some x}).1
theorem fn67 : fnOf Tryz.prog 67 (fun _ => false) = some (c67, [], 8, true) := by kernel_rfl
def c38 : ACode := (⟨_, by conv => (lhs; reduce; try simp only [lt1, Int.cast_ofNat_Int, Int.reduceNegSucc, UInt8.reduceOfNat])⟩ : {x // codeOf Tryz.prog 38 (fun _ => false) = some x}).1
theorem fn38 : fnOf Tryz.prog 38 (fun _ => false) = some (c38, [.t 2], 4, true) := by kernel_rfl
theorem nodes_ok (t : Tree) (μ : AM) (hμ : okMem μ μ.length = true) : RefOK ctx 38 [.pv (treeP t)] μ (.fn 67 [.ptr μ.length 0 0]) (μ ++ [treeB t]) := by
  refine ref_body' (C := ctx) (Fn.of fn38 rfl) rfl (by simp) (by simp [bnd, Nat.blt]) (okMem_tree hμ t) ?_
  unfold c38
  refine evA ?_
  simp only [treeP, treeB, mem2_get, mem2_last, mem2_set0, mem2_set1, mem_last, mem_set, mem_len, go_sem]
  try simp only [treeP, treeB, mem2_get, mem2_last, mem2_set0, mem2_set1, mem_last, mem_set, mem_len, go_sem]
  refine ⟨(by simp [vb] <;> omega), (by simp [vb] <;> omega), ?_⟩
  refine evA ?_
  simp only [treeP, treeB, mem2_get, mem2_last, mem2_set0, mem2_set1, mem_last, mem_set, mem_len, go_sem]
  try simp only [treeP, treeB, mem2_get, mem2_last, mem2_set0, mem2_set1, mem_last, mem_set, mem_len, go_sem]
  refine ⟨(by simp [vb] <;> omega), (by simp [vb] <;> omega), ?_⟩
  repeat' (first
    | ((with_reducible first | show VCs _ | show All _); simp [vb] <;> omega)
    | exact (rfl : some _ = _)
    | (fail_if_success refine awL ?_
       refine evA ?_
       repeat1' dsimp only [c38, go_sem]
       first
       | refine aw4 ?_ ?_ rfl ?_
       | apply aw3
       | apply aw2
       | (refine awB (fun hc => ?_) fun hc => ?_ <;> first | (cases hc; done) | (exfalso; simp at hc <;> omega) | (try simp only [bn] at hc; try contradiction))
       | skip))
  exact ⟨⟨trivial, rfl⟩, [], (List.append_nil _).symm⟩
variable {σ : Type} {X : FamS σ}
theorem nodes1_ok (l : Nat) (st : σ → Int → Tree → Bool × σ) (G : σ → Prop) (hG : ∀ k lev t, G k → (st k lev t).1 = true → G (st k lev t).2)
  (hY : ∀ (k : σ) (lev : Int) (t : Tree) (μ : AM), G k → okMem μ μ.length = true → wt t ≤ 1000000000 → -1000000000 ≤ lev → lev ≤ 3000000000 → YdOK (fam X) l [.pv (.int .i64 lev), .pv (treeP t)] k μ (.pv (.bool (st k lev t).1)) (st k lev t).2 μ)
  (t : Tree) (hw : wt t ≤ 1000000000) (k : σ) (hk : G k) :
  YOK (fam X) 67 [.pv (.val (.func (.yield l) #[] #[])), .iptr [.int .i64 t.kind, rstepsP t.steps, .int .i64 t.cell, .int .i64 t.pos, kidsP t.kids] 0] k [] (.pv (.tup [])) (vis st k 1 t).2 [] := by
 refine y_body (F := fam X) (k := k) (Fn.of (C := (fam X).C k) fn67 rfl) rfl (Nat.le_refl _) rfl rfl ?_
 unfold c67
 refine awY_seq (awY_lift ?_)
 refine evA ?_
 dsimp only [thenY, go_sem]
 try dsimp only [thenY, go_sem]
 refine ⟨(by simp [vb] <;> omega), (by simp [vb] <;> omega), ?_⟩
 refine awY_seq (awY_lift ?_)
 refine evA ?_
 dsimp only [thenY, go_sem]
 try dsimp only [thenY, go_sem]
 refine ⟨(by simp [vb] <;> omega), (by simp [vb] <;> omega), ?_⟩
 refine awY_seq (awY_lift ?_)
 refine evA ?_
 dsimp only [thenY, go_sem]
 try dsimp only [thenY, go_sem]
 refine ⟨(by simp [vb] <;> omega), (by simp [vb] <;> omega), ?_⟩
 refine awY_mid 2 [] [] ?_
 simp only [MidAt, List.take_succ_cons, List.take_zero, List.drop_succ_cons, List.drop_zero, List.getElem?_cons_succ, List.getElem?_cons_zero, go_sem, panT, thenY]
 refine ⟨by simp [VCs], trivial, trivial, _, _, _, .inl ⟨_, _, rfl, visit_ok l 0 1 _ _ st G hG hY t hw k 1 _ hk rfl (by omega) (by omega) rfl rfl⟩, ?_⟩
 generalize vis st k 1 t = q
 obtain ⟨b, k2⟩ := q
 simp only [go_sem, thenY, RetY]
 refine ⟨by simp [VCs], trivial, ?_⟩
 exact ⟨trivial, [], _, rfl, trivial, rfl⟩
end
end Pur
end Go.Proofs.YtaleoeblooeglaaGreatDoor
namespace Go.Proofs.YtaleoeblooeglaaGreatDoor
namespace Pur
open Go.RowKit
section
open Rf
def c15 : ACode := (⟨_, by conv => (lhs; reduce; try simp only [lt1, Int.cast_ofNat_Int, Int.reduceNegSucc, UInt8.reduceOfNat])⟩ : {x // codeOf Tryz.prog 15 (fun _ => false) = some x}).1
theorem fn15 : fnOf Tryz.prog 15 (fun _ => false) = some (c15, [.t 2], 16, true) := by kernel_rfl
def c17 : ACode := (⟨_, by conv => (lhs; reduce; try simp only [lt1, Int.cast_ofNat_Int, Int.reduceNegSucc, UInt8.reduceOfNat])⟩ : {x // codeOf Tryz.prog 17 (fun _ => false) = some x}).1
theorem fn17 : fnOf Tryz.prog 17 (fun _ => false) = some (c17, [.t 2], 13, true) := by kernel_rfl
def c13 : ACode := (⟨_, by conv => (lhs; reduce; try simp only [lt1, Int.cast_ofNat_Int, Int.reduceNegSucc, UInt8.reduceOfNat])⟩ : {x // codeOf Tryz.prog 13 (fun _ => false) = some x}).1
theorem fn13 : fnOf Tryz.prog 13 (fun _ => false) = some (c13, [.cell 2 1 false], 27, true) := by kernel_rfl
end
end Pur
end Go.Proofs.YtaleoeblooeglaaGreatDoor
namespace Go.Proofs.YtaleoeblooeglaaGreatDoor
namespace Pur
open Go.RowKit
attribute [local go_sem] evOps evOp evOpV evRun evK argF List.map hintAt stripped get put tmpsOf tmpOf tmpO tmpL tmpP conds ev cond_true cond_false Nat.beq Nat.ble Nat.add quiet After thenR blockR IfD List.append_eq List.nil_append List.cons_append evInt exactI_a exactI_b exactI_c exactI_d exactI_e exactI_f evBin evStr evBool evUn guardC calm quiet.isCallK evPick List.getElem?_cons_zero List.getElem?_cons_succ fromCells fromPVs cellsOf List.all oneCell List.length_cons List.length_nil mkAgg plains List.drop List.take List.getD Option.getD_some bo1 bo2 ba1 ba2 bn1 bn2 kk_i64 kk_u8 kk_i32 kk_u64 setAt List.set Nat.reduceAdd Nat.reduceMul evCall safeCall refsOf refsIn scalarA scalar scalarL thawL mapAll thawArg thawRef after freeze RetD RetE evResult evRess evRes1 thaw_pv mkTup nilOf_a nilOf_b nilOf_bb nilOf_c nilOf_d nilOf_e nilOf_f nilOf_g nilOf_h nilOf_i nilOf_j nilOf_k nilOf_l nilOf_m eqLeaf_a eqLeaf_b eqLeaf_c eqOffs evMM bytesOf evOpsF AfterF footOf footRefs notIn indepF footAt freeOk still evParts fillA zeros intOfA boundA srcOf List.isEmpty appNil_0 appNil_1 appNil_2 Int.reduceToNat Nat.mul_one Nat.reduceSub evC evOpsT evOpsTF autoH tabHint look hintD strip guarded RetPD RetRD mpLen keysOk leafKA leafK bitI nilOf_n nilOf_o Bool.or_false Bool.or_true Bool.and_true Bool.and_false Nat.blt renF renM renB renV idxOf solF solM solA solV thawRef ev1
section
open Rf
def c39 : ACode := (⟨_, by conv => (lhs; reduce; try simp only [lt1, Int.cast_ofNat_Int, Int.reduceNegSucc, UInt8.reduceOfNat])⟩ : {x // codeOf Tryz.prog 39 (fun _ => false) = some x}).1
theorem fn39 : fnOf Tryz.prog 39 (fun _ => false) = some (c39, [.t 2], 112, true) := by kernel_rfl
def nodeB (t : Tree) : Bool := t.steps.all rstepOk && tailOk t.kind t.cell t.pos t.kids.length
set_option maxHeartbeats 8000000 in
theorem node_ok (t : Tree) (hw : wt t ≤ 1000000000) : PureOK ctx 39 [treeP t] (.bool (nodeB t)) := by
  obtain ⟨kd, s, c, a, l⟩ := t
  rw [wt_node] at hw
  have hl := wts_len l
  unfold nodeB
  simp only [Tree.kind, Tree.steps, Tree.cell, Tree.pos, Tree.kids]
  refine pure_body' (C := ctx) (Fn.of fn39 rfl) rfl ?_
  unfold c39
  repeat' (first
    | ((with_reducible first | show VCs _ | show All _); simp [vb] <;> omega)
    | exact (rfl : some _ = _)
    | (fail_if_success refine awL ?_
       refine evA ?_
       repeat1' dsimp only [c39, treeP, Tree.kind, Tree.steps, Tree.cell, Tree.pos, Tree.kids, rstepsP, kidsP, go_sem]
       first
       | refine aw4 ?_ ?_ rfl ?_
       | apply aw3
       | apply aw2
       | (refine awB (fun hc => ?_) fun hc => ?_ <;> first | (cases hc; done) | (exfalso; simp at hc <;> omega) | (try simp only [bn] at hc; try contradiction))
       | skip))
  refine aw_forJ s.length (fun k => (s.take k).all rstepOk = true) (fun k => [(1, .ptr 0 0 0), (7, .pv (rstepsP s)), (8, .pv (.int .i64 s.length)), (9, .pv (.int .i64 k))]) (fun _ => [treeB (.node kd s c a l)]) rfl (by (repeat' (first | exact trivial | refine And.intro (by first | rfl | (simp [get, Nat.beq]; done) | (simp [get, Nat.beq]; omega) | (dsimp only [get]; congr 1 <;> first | rfl | omega | (simp; done) | (simp; omega))) ?_))) ⟨[], rfl⟩ (fun _ => ⟨Nat.zero_le _, rfl, rfl⟩) fun k hk hP => ?_
  by_cases hlt : k < s.length
  · have e := fm_take rstepC_len s k zs hlt
    have hle := rsteps_len s
    have h1 := all_step rstepOk s k zs hlt
    have h2 := all_no rstepOk s k zs hlt
    rw [h1, hP, Bool.true_and]
    clear h1
    generalize s.getD k zs = x at *
    repeat' (first
      | ((with_reducible show VCs _); first | exact True.intro | (simp only [vb, lb]; omega) | (simp only [vb, lb, e, hle, hlt, rstepC]; and_intros <;> first | omega | (simp <;> omega)) | (simp [vb, e, hle, hlt, rstepC] <;> omega))
      | ((with_reducible show All _); first | exact True.intro | ((try dsimp only [go_sem]); first | (simp [vb, e, hle, hlt, rstepC] <;> omega) | (simp only [vb, and_true, true_implies]; (repeat' (first | (with_reducible assumption) | (with_reducible apply And.intro) | intro _ | ((fail_if_success (with_reducible show (_ : Int) ≤ _)); assumption))) <;> first | omega | rfl | (simp only [ab, e, hle, hlt, rstepC]; done) | (simp [Nat.mul_one, e, hle, hlt, rstepC] <;> omega) | (simp_all; done))))
      | exact (rfl : some _ = _)
      | (fail_if_success refine awL ?_
         refine evH [(12, { val := some (.pv (.agg [.int .i64 x.kind, .int .i64 x.index, .int .i64 x.cell])) })] ?_
         repeat1' dsimp only [c39, treeB, Tree.kind, Tree.steps, Tree.cell, Tree.pos, Tree.kids, rstepsP, kidsP, go_sem]
         first
         | refine aw4 ?_ ?_ rfl ?_
         | apply aw3
         | apply aw2
         | (refine awB (fun hc => ?_) fun hc => ?_ <;> first | (cases hc; done) | (exfalso; first | (simp at hc <;> omega) | (simp [e, hle, hlt, rstepC] at hc; done)) | (try simp only [bn] at hc; try contradiction))
         | skip))
    all_goals first
      | (rw [h2 (by
          cases h : rstepOk x with
          | false => rfl
          | true =>
            exfalso
            simp only [rstepOk, insideB, Bool.and_eq_true, decide_eq_true_eq] at h
            split at h <;> omega), Bool.false_and]; done)
      | (refine ⟨hlt, ?_, by (repeat' (first | exact trivial | refine And.intro (by first | rfl | (simp [get, Nat.beq]; done) | (simp [get, Nat.beq]; omega) | (dsimp only [get]; congr 1 <;> first | rfl | omega | (simp; done) | (simp; omega))) ?_)), _, rfl⟩
         simp only [rstepOk, insideB, Bool.and_eq_true, decide_eq_true_eq]
         split <;> omega)
  · obtain rfl : k = s.length := by omega
    rw [List.take_length] at hP
    repeat' (first
      | ((with_reducible show VCs _); first | exact True.intro | (simp only [vb, lb]; omega) | (simp only [vb, lb, hlt]; and_intros <;> first | omega | (simp <;> omega)) | (simp [vb, hlt] <;> omega))
      | ((with_reducible show All _); first | exact True.intro | ((try dsimp only [go_sem]); first | (simp [vb, hlt] <;> omega) | (simp only [vb, and_true, true_implies]; (repeat' (first | (with_reducible assumption) | (with_reducible apply And.intro) | intro _ | ((fail_if_success (with_reducible show (_ : Int) ≤ _)); assumption))) <;> first | omega | rfl | (simp only [ab, hlt]; done) | (simp [Nat.mul_one, hlt] <;> omega) | (simp_all; done))))
      | exact (rfl : some _ = _)
      | (fail_if_success refine awL ?_
         refine evA ?_
         repeat1' dsimp only [c39, treeB, Tree.kind, Tree.steps, Tree.cell, Tree.pos, Tree.kids, rstepsP, kidsP, go_sem]
         first
         | refine aw4 ?_ ?_ rfl ?_
         | apply aw3
         | apply aw2
         | (refine awB (fun hc => ?_) fun hc => ?_ <;> first | (cases hc; done) | (exfalso; first | (simp at hc <;> omega) | (simp [hlt] at hc; done)) | (try simp only [bn] at hc; try contradiction))
         | skip))
    all_goals
      refine congrArg some (congrArg PV.bool ?_)
      rw [hP, Bool.true_and, Bool.eq_iff_iff]
      simp only [cond_and, tailOk, insideB]
      (repeat' split) <;> simp only [Bool.and_eq_true, decide_eq_true_eq, beq_iff_eq, Bool.false_eq_true] <;> omega
def c42 : ACode := (⟨_, by conv => (lhs; cbv; try simp only [lt1, Int.cast_ofNat_Int, Int.reduceNegSucc, UInt8.reduceOfNat])⟩ : {x // codeOf Tryz.prog 42 (fun _ => false) = some x}).1
theorem fn42 : fnOf Tryz.prog 42 (fun _ => false) = some (c42, [.t 4], 26, true) := by kernel_rfl
def c43 : ACode := (⟨_, by conv => (lhs; reduce; try simp only [lt1, Int.cast_ofNat_Int, Int.reduceNegSucc, UInt8.reduceOfNat])⟩ : {x // codeOf Tryz.prog 43 (fun _ => false) = some x}).1
theorem fn43 : fnOf Tryz.prog 43 (fun _ => false) = some (c43, [.t 6], 32, true) := by kernel_rfl
def c19 : ACode := (⟨_, by conv => (lhs; reduce; try simp only [lt1, Int.cast_ofNat_Int, Int.reduceNegSucc, UInt8.reduceOfNat])⟩ : {x // codeOf Tryz.prog 19 (fun _ => false) = some x}).1
theorem fn19 : fnOf Tryz.prog 19 (fun _ => false) = some (c19, [.t 4], 38, true) := by kernel_rfl
end
end Pur
end Go.Proofs.YtaleoeblooeglaaGreatDoor
namespace Go.Proofs.YtaleoeblooeglaaGreatDoor
namespace Rf
open Pur
def stS (k : Int) (_ : Int) (t : Tree) : Bool × Int := (true, IntKind.i64.wrap (k + t.steps.length))
def stD (k : Int) (lev : Int) (_ : Tree) : Bool × Int := (true, if k < lev then lev else k)
theorem wrap_in {n : Int} (h1 : 0 ≤ n) (h2 : n ≤ 4000000000) : IntKind.i64.wrap n = n := wrap64_id (by unfold minI; omega) (by unfold maxI; omega)
mutual
theorem vis_stS : ∀ (t : Tree) (k lev : Int), 0 ≤ k → k + wt t ≤ 3000000000 → vis stS k lev t = (true, k + stepsN t)
 | .node kd s c a l, k, lev, h0, h1 => by
  rw [wt_node] at h1
  rw [vis, stepsN_node]
  show (match stS k lev (.node kd s c a l) with | (false, k1) => (false, k1) | (true, k1) => visK stS k1 (lev + 1) l) = _
  have hs : stS k lev (.node kd s c a l) = (true, k + s.length) := by
   simp only [stS, Tree.steps]
   rw [wrap_in (by omega) (by omega)]
  rw [hs]
  show visK stS _ _ l = _
  rw [visK_stS l _ _ (by omega) (by push_cast at h1; omega)]
  simp only [Prod.mk.injEq, true_and]
  push_cast
  omega
theorem visK_stS : ∀ (l : List Tree) (k lev : Int), 0 ≤ k → k + wts l ≤ 3000000000 → visK stS k lev l = (true, k + stepsNs l)
 | [], k, lev, h0, h1 => by rw [visK]; simp [stepsNs]
 | t :: r, k, lev, h0, h1 => by
  rw [wts] at h1
  have := stepsN_wt t
  rw [visK, vis_stS t k lev h0 (by push_cast at h1; omega)]
  show visK stS _ _ r = _
  rw [visK_stS r _ _ (by omega) (by push_cast at h1; omega), stepsNs]
  simp only [Prod.mk.injEq, true_and]
  push_cast
  omega
end
mutual
theorem vis_stD : ∀ (t : Tree) (k lev : Int), lev - 1 ≤ k → vis stD k lev t = (true, if k < lev + depthN t - 1 then lev + depthN t - 1 else k)
 | .node kd s c a l, k, lev, h0 => by
  rw [vis, depthN_node]
  show visK stD (if k < lev then lev else k) (lev + 1) l = _
  rw [visK_stD l _ _ (by split <;> omega)]
  simp only [Prod.mk.injEq, true_and]
  (repeat' split) <;> omega
theorem visK_stD : ∀ (l : List Tree) (k lev : Int), lev - 1 ≤ k → visK stD k lev l = (true, if k < lev + depthNs l - 1 then lev + depthNs l - 1 else k)
 | [], k, lev, h0 => by
  rw [visK]
  simp only [depthNs, Prod.mk.injEq, true_and]
  (repeat' split) <;> omega
 | t :: r, k, lev, h0 => by
  rw [visK, vis_stD t k lev h0]
  show visK stD _ lev r = _
  rw [visK_stD r _ _ (by split <;> omega), depthNs]
  simp only [Prod.mk.injEq, true_and]
  rcases Nat.le_total (depthN t) (depthNs r) with h | h
  ·rw [Nat.max_eq_right h]
   (repeat' split) <;> omega
  ·rw [Nat.max_eq_left h]
   (repeat' split) <;> omega
end
def stV (k : Int × Bool) (lev : Int) (t : Tree) : Bool × Int × Bool :=
 let c := IntKind.i64.wrap (k.1 + (1 + t.steps.length))
 let bad := bif decide (lev > 4096) then true else bif decide (c > 65536) then true else !nodeB t
 (!bad, c, bad)
theorem bif_tt (a b : Bool) : (bif a then true else b) = (a || b) := by cases a <;> rfl
mutual
theorem vis_stV : ∀ (t : Tree) (c lev : Int), 0 ≤ c → c + wt t ≤ 3000000000 → (vis stV (c, false) lev t).2.2 = !(vis stV (c, false) lev t).1 ∧
  ((vis stV (c, false) lev t).1 = true ↔ (lev + depthN t ≤ 4097 ∧ c + wt t ≤ 65536 ∧ formedB t = true)) ∧ ((vis stV (c, false) lev t).1 = true → (vis stV (c, false) lev t).2 = (c + wt t, false))
 | .node kd s x a l, c, lev, h0, h1 => by
  rw [wt_node] at h1 ⊢
  rw [vis, depthN_node, formedB_node]
  have hs : stV (c, false) lev (.node kd s x a l) = (!(decide (lev > 4096) || (decide (c + (1 + s.length) > 65536) || !(s.all rstepOk && tailOk kd x a l.length))), c + (1 + s.length), decide (lev > 4096) || (decide (c + (1 + s.length) > 65536) || !(s.all rstepOk && tailOk kd x a l.length))) := by
   have hw : IntKind.i64.wrap (c + (1 + s.length)) = c + (1 + s.length) := wrap_in (by omega) (by push_cast at h1; omega)
   simp only [stV, nodeB, Tree.steps, Tree.kind, Tree.cell, Tree.pos, Tree.kids, bif_tt, hw]
  rw [hs]
  cases hb : decide (lev > 4096) || (decide (c + (1 + s.length) > 65536) || !(s.all rstepOk && tailOk kd x a l.length)) with
  | true =>
   refine ⟨rfl, ⟨(fun h => by cases h), fun ⟨g1, g2, g3⟩ => ?_⟩, (fun h => by cases h)⟩
   exfalso
   simp only [Bool.and_eq_true] at g3
   simp only [Bool.or_eq_true, decide_eq_true_eq, Bool.not_eq_true', Bool.and_eq_false_iff] at hb
   rw [g3.1.1, g3.1.2] at hb
   push_cast at g1 g2
   simp at hb
   omega
  | false =>
   simp only [Bool.or_eq_false_iff, decide_eq_false_iff_not, Bool.not_eq_false'] at hb
   obtain ⟨b1, b2, b3⟩ := hb
   obtain ⟨q1, q2, q3⟩ := visK_stV l (c + (1 + s.length)) (lev + 1) (by omega) (by push_cast at h1; omega) (by omega) (by omega)
   refine ⟨q1, q2.trans ?_, fun h => (q3 h).trans ?_⟩
   ·rw [b3, Bool.true_and]
    push_cast
    constructor
    ·rintro ⟨g1, g2, g3⟩; exact ⟨by omega, by omega, g3⟩
    ·rintro ⟨g1, g2, g3⟩; exact ⟨by omega, by omega, g3⟩
   ·push_cast
    rw [Prod.mk.injEq]
    exact ⟨by omega, rfl⟩
theorem visK_stV : ∀ (l : List Tree) (c lev : Int), 0 ≤ c → c + wts l ≤ 3000000000 → c ≤ 65536 → lev ≤ 4097 → (visK stV (c, false) lev l).2.2 = !(visK stV (c, false) lev l).1 ∧
  ((visK stV (c, false) lev l).1 = true ↔ (lev + depthNs l ≤ 4097 ∧ c + wts l ≤ 65536 ∧ l.all formedB = true)) ∧ ((visK stV (c, false) lev l).1 = true → (visK stV (c, false) lev l).2 = (c + wts l, false))
 | [], c, lev, h0, h1, h2, h3 => by
  rw [visK]
  refine ⟨rfl, ⟨fun _ => ⟨by simp [depthNs]; omega, by simp [wts]; omega, rfl⟩, fun _ => rfl⟩, fun _ => by simp [wts]⟩
 | t :: r, c, lev, h0, h1, h2, h3 => by
  rw [wts] at h1 ⊢
  rw [visK, depthNs, List.all_cons]
  obtain ⟨q1, q2, q3⟩ := vis_stV t c lev h0 (by push_cast at h1; omega)
  generalize vis stV (c, false) lev t = v at *
  obtain ⟨b, k1⟩ := v
  simp only at q1 q2 q3
  cases b with
  | false =>
   refine ⟨q1, ⟨(fun h => by cases h), fun ⟨g1, g2, g3⟩ => ?_⟩, (fun h => by cases h)⟩
   rw [Bool.and_eq_true] at g3
   have := Nat.le_max_left (depthN t) (depthNs r)
   exact absurd (q2.mpr ⟨by omega, by push_cast at g2; omega, g3.1⟩) (by simp)
  | true =>
   obtain ⟨g1, g2, g3⟩ := q2.mp rfl
   obtain rfl := q3 rfl
   obtain ⟨p1, p2, p3⟩ := visK_stV r (c + wt t) lev (by omega) (by push_cast at h1; omega) (by omega) h3
   refine ⟨p1, p2.trans ?_, fun h => (p3 h).trans ?_⟩
   ·rw [g3, Bool.true_and]
    push_cast
    constructor
    ·rintro ⟨e1, e2, e3⟩; exact ⟨by rcases Nat.le_total (depthN t) (depthNs r) with h | h <;> simp only [Nat.max_eq_right h, Nat.max_eq_left h] <;> omega, by omega, e3⟩
    ·rintro ⟨e1, e2, e3⟩; exact ⟨by have := Nat.le_max_right (depthN t) (depthNs r); omega, by omega, e3⟩
   ·push_cast
    rw [Prod.mk.injEq]
    exact ⟨by omega, rfl⟩
end
theorem valid_eq (t : Tree) (h : wt t ≤ 1000000000) : (vis stV (0, false) 1 t).2.2 = !validB t := by
 obtain ⟨q1, q2, -⟩ := vis_stV t 0 1 (by omega) (by omega)
 rw [q1]
 congr 1
 rw [Bool.eq_iff_iff, q2]
 simp only [validB, Bool.and_eq_true, decide_eq_true_eq]
 constructor
 ·rintro ⟨a, b, c⟩; exact ⟨⟨by omega, by omega⟩, c⟩
 ·rintro ⟨⟨a, b⟩, c⟩; exact ⟨by omega, by omega, c⟩
end Rf
namespace Pur
open Go.RowKit
attribute [local go_sem] evOps evOp evOpV evRun evK argF List.map hintAt stripped get put tmpsOf tmpOf tmpO tmpL tmpP conds ev cond_true cond_false Nat.beq Nat.ble Nat.add quiet After thenR blockR IfD List.append_eq List.nil_append List.cons_append evInt exactI_a exactI_b exactI_c exactI_d exactI_e exactI_f evBin evStr evBool evUn guardC calm quiet.isCallK evPick List.getElem?_cons_zero List.getElem?_cons_succ fromCells fromPVs cellsOf List.all oneCell List.length_cons List.length_nil mkAgg plains List.drop List.take List.getD Option.getD_some bo1 bo2 ba1 ba2 bn1 bn2 kk_i64 kk_u8 kk_i32 kk_u64 setAt List.set Nat.reduceAdd Nat.reduceMul evCall safeCall refsOf refsIn scalarA scalar scalarL thawL mapAll thawArg thawRef after freeze RetD RetE evResult evRess evRes1 thaw_pv mkTup nilOf_a nilOf_b nilOf_bb nilOf_c nilOf_d nilOf_e nilOf_f nilOf_g nilOf_h nilOf_i nilOf_j nilOf_k nilOf_l nilOf_m eqLeaf_a eqLeaf_b eqLeaf_c eqOffs evMM bytesOf evOpsF AfterF footOf footRefs notIn indepF footAt freeOk still evParts fillA zeros intOfA boundA srcOf List.isEmpty appNil_0 appNil_1 appNil_2 Int.reduceToNat Nat.mul_one Nat.reduceSub evC evOpsT evOpsTF autoH tabHint look hintD strip guarded RetPD RetRD mpLen keysOk leafKA leafK bitI nilOf_n nilOf_o Bool.or_false Bool.or_true Bool.and_true Bool.and_false Nat.blt renF renM renB renV idxOf solF solM solA solV thawRef ev1
open Rf
def cntB (k : Int) : Blk := ⟨[.pv (.int .i64 k)], 0, 1, 3, false⟩
theorem cnt_lit (k : Int) : ∀ b ∈ [cntB k], LitB b := by
 intro b hb
 rw [List.mem_singleton.mp hb]
 exact ⟨by simp [cntB, litV], rfl, rfl, by simp [cntB]⟩
set_option maxHeartbeats 2000000 in
theorem steps_ok (t : Tree) (hw : wt t ≤ 1000000000) : PureOK ctx 15 [treeP t] (.int .i64 (stepsN t)) := by
  refine pure_bodyM (C := ctx) (Fn.of fn15 rfl) rfl ?_
  unfold c15
  refine awM_seq (awM_lift fun D => ?_)
  refine evA ?_
  dsimp only [treeP, go_sem]
  try dsimp only [treeP, go_sem]
  refine ⟨(by simp [vb] <;> omega), (by simp [vb] <;> omega), ?_⟩
  refine awM_seq (awM_lift fun D => ?_)
  refine evA ?_
  dsimp only [treeP, go_sem]
  try dsimp only [treeP, go_sem]
  refine ⟨(by simp [vb] <;> omega), (by simp [vb] <;> omega), ?_⟩
  refine awM_seq (awM_seq (awM_lift fun D => ?_))
  have hn := (nodes_ok t [treeB t, cntB 0] rfl).atD D
  refine evH [(7, { val := some (.fn 67 [.ptr 2 0 0]), mem := some ([treeB t, cntB 0] ++ [treeB t]) })] ?_
  dsimp only [treeP, treeB, cntB, go_sem]
  try dsimp only [treeP, treeB, cntB, go_sem]
  refine ⟨(by simp [vb] <;> omega), ?_, ?_⟩
  · exact ⟨hn, trivial⟩
  refine awM_keep [1, 2] rfl ?_
  dsimp only [renF, renM, renB, renV, idxOf, go_sem]
  refine awM_block (awM_range (σ := Int) (q := 1) (bt := 1) (k0 := 0) (k' := stepsN t) (fo := fun k => [cntB k]) (stop := fun _ => false) (junk := [treeB t]) (kb := treeB t) (cells := [.int .i64 t.kind, rstepsP t.steps, .int .i64 t.cell, .int .i64 t.pos, kidsP t.kids]) (g0 := [(3, .ptr 0 0 0)]) (rv := .pv (.tup [])) rfl (by omega) rfl rfl rfl (by simp [treeB]) (by kernel_rfl) (fun _ => rfl) cnt_lit rfl rfl (by (repeat' (first | exact trivial | refine And.intro (by first | rfl | (simp [get, Nat.beq]; done) | (simp [get, Nat.beq]; omega) | (dsimp only [get]; congr 1 <;> first | rfl | omega | (simp; done) | (simp; omega))) ?_))) (by omega) (by omega) (by omega) ?_ (fun _ => ?_) (fun h => by cases h))
  · intro w0 w1 S γ l L hX hround
    have := nodes1_ok (X := ⟨_, hX.hE, _⟩) l stS (fun _ => True) (fun _ _ _ _ _ => trivial) (fun k lev u μ _ hμ hwu hl0 hl1 => hround (.int .i64 lev) (treeP u) k _ true μ rfl rfl ?_) t hw 0 trivial
    · rw [vis_stS t 0 1 (by omega) (by omega)] at this
      rw [Int.zero_add] at this
      exact this
    · refine awR_reg false [] ?_
      dsimp only [treeP, rstepsP, kidsP, cntB, thenR, go_sem]
      refine ⟨by simp [VCs], by simp [All], ?_⟩
      refine awR_block (awR_reg false [(4, { mode := 1 })] ?_)
      dsimp only [treeP, rstepsP, kidsP, cntB, thenR, go_sem]
      refine ⟨by simp [VCs], by simp [All], ?_⟩
      exact ⟨rfl, _, rfl⟩
  · refine awM_lift fun D => ?_
    repeat' (first
      | ((with_reducible first | show VCs _ | show All _); simp [vb] <;> omega)
      | exact (rfl : some _ = _)
      | (fail_if_success refine awL ?_
         refine evA ?_
         repeat1' dsimp only [c15, cntB, go_sem]
         first
         | refine aw4 ?_ ?_ rfl ?_
         | apply aw3
         | apply aw2
         | (refine awB (fun hc => ?_) fun hc => ?_ <;> first | (cases hc; done) | (exfalso; simp at hc <;> omega) | (try simp only [bn] at hc; try contradiction))
         | skip))
set_option maxHeartbeats 2000000 in
theorem depth_ok (t : Tree) (hw : wt t ≤ 1000000000) : PureOK ctx 17 [treeP t] (.int .i64 (depthN t)) := by
  refine pure_bodyM (C := ctx) (Fn.of fn17 rfl) rfl ?_
  unfold c17
  refine awM_seq (awM_lift fun D => ?_)
  refine evA ?_
  dsimp only [treeP, go_sem]
  try dsimp only [treeP, go_sem]
  refine ⟨(by simp [vb] <;> omega), (by simp [vb] <;> omega), ?_⟩
  refine awM_seq (awM_lift fun D => ?_)
  refine evA ?_
  dsimp only [treeP, go_sem]
  try dsimp only [treeP, go_sem]
  refine ⟨(by simp [vb] <;> omega), (by simp [vb] <;> omega), ?_⟩
  refine awM_seq (awM_seq (awM_lift fun D => ?_))
  have hn := (nodes_ok t [treeB t, cntB 0] rfl).atD D
  refine evH [(6, { val := some (.fn 67 [.ptr 2 0 0]), mem := some ([treeB t, cntB 0] ++ [treeB t]) })] ?_
  dsimp only [treeP, treeB, cntB, go_sem]
  try dsimp only [treeP, treeB, cntB, go_sem]
  refine ⟨(by simp [vb] <;> omega), ?_, ?_⟩
  · exact ⟨hn, trivial⟩
  refine awM_keep [1, 2] rfl ?_
  dsimp only [renF, renM, renB, renV, idxOf, go_sem]
  refine awM_block (awM_range (σ := Int) (q := 1) (bt := 1) (k0 := 0) (k' := depthN t) (fo := fun k => [cntB k]) (stop := fun _ => false) (junk := [treeB t]) (kb := treeB t) (cells := [.int .i64 t.kind, rstepsP t.steps, .int .i64 t.cell, .int .i64 t.pos, kidsP t.kids]) (g0 := [(3, .ptr 0 0 0)]) (rv := .pv (.tup [])) rfl (by omega) rfl rfl rfl (by simp [treeB]) (by kernel_rfl) (fun _ => rfl) cnt_lit rfl rfl (by (repeat' (first | exact trivial | refine And.intro (by first | rfl | (simp [get, Nat.beq]; done) | (simp [get, Nat.beq]; omega) | (dsimp only [get]; congr 1 <;> first | rfl | omega | (simp; done) | (simp; omega))) ?_))) (by omega) (by omega) (by omega) ?_ (fun _ => ?_) (fun h => by cases h))
  · intro w0 w1 S γ l L hX hround
    have := nodes1_ok (X := ⟨_, hX.hE, _⟩) l stD (fun _ => True) (fun _ _ _ _ _ => trivial) (fun k lev u μ _ hμ hwu hl0 hl1 => hround (.int .i64 lev) (treeP u) k _ true μ rfl rfl ?_) t hw 0 trivial
    · rw [vis_stD t 0 1 (by omega)] at this
      have e : (if (0 : Int) < 1 + depthN t - 1 then (1 : Int) + depthN t - 1 else 0) = depthN t := by split <;> omega
      rw [e] at this
      exact this
    · refine awR_reg false [] ?_
      dsimp only [treeP, rstepsP, kidsP, cntB, thenR, go_sem]
      refine ⟨by simp [VCs], by simp [All], ?_⟩
      refine awR_block (awR_reg false [] ?_)
      dsimp only [treeP, rstepsP, kidsP, cntB, thenR, go_sem]
      refine ⟨by simp [VCs], by simp [All], ?_⟩
      exact ⟨rfl, [], rfl⟩
  · refine awM_lift fun D => ?_
    repeat' (first
      | ((with_reducible first | show VCs _ | show All _); simp [vb] <;> omega)
      | exact (rfl : some _ = _)
      | (fail_if_success refine awL ?_
         refine evA ?_
         repeat1' dsimp only [c17, cntB, go_sem]
         first
         | refine aw4 ?_ ?_ rfl ?_
         | apply aw3
         | apply aw2
         | (refine awB (fun hc => ?_) fun hc => ?_ <;> first | (cases hc; done) | (exfalso; simp at hc <;> omega) | (try simp only [bn] at hc; try contradiction))
         | skip))
def valB (k : Int × Bool) : AM := [⟨[.pv (.bool false)], 0, 1, 4, false⟩, cntB k.1]
theorem val_lit (k : Int × Bool) : ∀ b ∈ valB k, LitB b := by
 intro b hb
 simp only [valB, List.mem_cons, List.not_mem_nil, or_false] at hb
 rcases hb with rfl | rfl
 ·exact ⟨by simp [litV], rfl, rfl, by simp⟩
 ·exact ⟨by simp [cntB, litV], rfl, rfl, by simp [cntB]⟩
set_option maxHeartbeats 4000000 in
theorem valid_ok (t : Tree) (hw : wt t ≤ 1000000000) : PureOK ctx 13 [treeP t] (.bool (validB t)) := by
  refine pure_bodyM (C := ctx) (Fn.of fn13 rfl) rfl ?_
  unfold c13
  refine awM_seq (awM_lift fun D => ?_)
  refine evA ?_
  dsimp only [treeP, go_sem]
  try dsimp only [treeP, go_sem]
  refine ⟨(by simp [vb] <;> omega), (by simp [vb] <;> omega), ?_⟩
  refine awM_seq (awM_lift fun D => ?_)
  refine evA ?_
  dsimp only [treeP, go_sem]
  try dsimp only [treeP, go_sem]
  refine ⟨(by simp [vb] <;> omega), (by simp [vb] <;> omega), ?_⟩
  refine awM_seq (awM_seq (awM_lift fun D => ?_))
  have hn := (nodes_ok t ([treeB t] ++ valB (0, false)) rfl).atD D
  refine evH [(7, { val := some (.fn 67 [.ptr 3 0 0]), mem := some (([treeB t] ++ valB (0, false)) ++ [treeB t]) })] ?_
  dsimp only [treeP, treeB, cntB, valB, go_sem]
  try dsimp only [treeP, treeB, cntB, valB, go_sem]
  refine ⟨(by simp [vb] <;> omega), ?_, ?_⟩
  · exact ⟨hn, trivial⟩
  refine awM_keep [1, 2, 3] rfl ?_
  dsimp only [renF, renM, renB, renV, idxOf, go_sem]
  have hve := valid_eq t hw
  refine awM_block (awM_range (σ := Int × Bool) (q := 2) (bt := 2) (k0 := (0, false)) (k' := (vis stV (0, false) 1 t).2) (fo := valB) (stop := fun k => k.2) (junk := [treeB t]) (kb := treeB t) (cells := [.int .i64 t.kind, rstepsP t.steps, .int .i64 t.cell, .int .i64 t.pos, kidsP t.kids]) (g0 := [(2, .ptr 0 0 0), (3, .ptr 1 0 0)]) (rv := .pv (.tup [])) rfl (by omega) rfl rfl rfl (by simp [treeB]) (by kernel_rfl) (fun _ => rfl) val_lit rfl rfl (by (repeat' (first | exact trivial | refine And.intro (by first | rfl | (simp [get, Nat.beq]; done) | (simp [get, Nat.beq]; omega) | (dsimp only [get]; congr 1 <;> first | rfl | omega | (simp; done) | (simp; omega))) ?_))) (by omega) (by omega) (by omega) ?_ (fun hst => ?_) (fun hst => ?_))
  · intro w0 w1 S γ l L hX hround
    refine nodes1_ok (X := ⟨_, hX.hE, _⟩) l stV (fun k => k.2 = false) (fun k lev u hk hst => ?_) (fun k lev u μ hk hμ hwu hl0 hl1 => hround (.int .i64 lev) (treeP u) k _ (stV k lev u).1 μ hk ?_ ?_) t hw (0, false) rfl
    · simp only [stV, Bool.not_eq_true'] at hst ⊢
      exact hst
    · simp only [stV, Bool.not_not]
    · refine awR_seq (awR_reg false [] ?_)
      dsimp only [treeP, rstepsP, kidsP, cntB, valB, thenR, go_sem]
      refine ⟨by simp [VCs], by simp [All], ?_⟩
      refine awR_reg false [] ?_
      dsimp only [treeP, rstepsP, kidsP, cntB, valB, thenR, go_sem]
      refine ⟨by simp [VCs], by simp [All], ?_⟩
      have hnode := node_ok u hwu
      refine awR_block (awR_seq (awR_reg false [(5, { mode := 1 })] ?_))
      dsimp only [treeP, rstepsP, kidsP, cntB, valB, thenR, go_sem]
      have hsl : u.steps.length ≤ 1000000000 := by
        obtain ⟨kd, s, c, a, ks⟩ := u
        rw [wt_node] at hwu
        simp only [Tree.steps]
        omega
      refine ⟨by simp [VCs, minI, maxI]; omega, by simp [All], ?_⟩
      have hst : stV k lev u = (!(bif decide (4096 < lev) then true else bif decide (65536 < IntKind.i64.wrap (k.1 + (1 + (u.steps.length : Int)))) then true else !nodeB u), IntKind.i64.wrap (k.1 + (1 + u.steps.length)), bif decide (4096 < lev) then true else bif decide (65536 < IntKind.i64.wrap (k.1 + (1 + (u.steps.length : Int)))) then true else !nodeB u) := rfl
      rw [hst]
      unfold treeP rstepsP kidsP at hnode
      refine awR_seq (awR_reg true [(8, { val := some (.pv (.bool (nodeB u))) })] ?_)
      dsimp only [treeP, rstepsP, kidsP, cntB, valB, thenR, go_sem]
      generalize decide (4096 < lev) = A
      generalize decide (65536 < IntKind.i64.wrap (k.1 + (1 + (u.steps.length : Int)))) = B
      generalize nodeB u = N at *
      refine ⟨by simp [VCs], by cases A <;> cases B <;> simp [All, VCs] <;> exact hnode, ?_⟩
      refine awR_cond rfl ?_
      cases A <;> cases B <;> cases N
      all_goals first
        | (refine awR_skip ?_
           exact ⟨rfl, _, rfl⟩)
        | (refine awR_seq (awR_reg false [] ?_)
           dsimp only [treeP, rstepsP, kidsP, cntB, valB, thenR, go_sem]
           refine ⟨by simp [VCs], by simp [All], ?_⟩
           refine awR_ret ?_
           exact ⟨rfl, _, rfl⟩)
  · rw [hve, Bool.not_eq_false'] at hst
    refine awM_lift fun D => ?_
    repeat' (first
      | ((with_reducible first | show VCs _ | show All _); simp [vb] <;> omega)
      | exact (rfl : some _ = _)
      | (fail_if_success refine awL ?_
         refine evA ?_
         repeat1' dsimp only [c13, cntB, valB, go_sem]
         first
         | refine aw4 ?_ ?_ rfl ?_
         | apply aw3
         | apply aw2
         | (refine awB (fun hc => ?_) fun hc => ?_ <;> first | (cases hc; done) | (exfalso; simp at hc <;> omega) | (try simp only [bn] at hc; try contradiction))
         | skip))
    rw [hst]
  · rw [hve, Bool.not_eq_true'] at hst
    rw [hst]
    dsimp only [blockR, thenR, valB, cntB, go_sem]
    exact ⟨by simp [VCs], rfl⟩
end Pur
end Go.Proofs.YtaleoeblooeglaaGreatDoor
namespace Go.Proofs.YtaleoeblooeglaaGreatDoor
namespace Pur
open Go.RowKit
attribute [local go_sem] evOps evOp evOpV evRun evK argF List.map hintAt stripped get put tmpsOf tmpOf tmpO tmpL tmpP conds ev cond_true cond_false Nat.beq Nat.ble Nat.add quiet After thenR blockR IfD List.append_eq List.nil_append List.cons_append evInt exactI_a exactI_b exactI_c exactI_d exactI_e exactI_f evBin evStr evBool evUn guardC calm quiet.isCallK evPick List.getElem?_cons_zero List.getElem?_cons_succ fromCells fromPVs cellsOf List.all oneCell List.length_cons List.length_nil mkAgg plains List.drop List.take List.getD Option.getD_some bo1 bo2 ba1 ba2 bn1 bn2 kk_i64 kk_u8 kk_i32 kk_u64 setAt List.set Nat.reduceAdd Nat.reduceMul evCall safeCall refsOf refsIn scalarA scalar scalarL thawL mapAll thawArg thawRef after freeze RetD RetE evResult evRess evRes1 thaw_pv mkTup nilOf_a nilOf_b nilOf_bb nilOf_c nilOf_d nilOf_e nilOf_f nilOf_g nilOf_h nilOf_i nilOf_j nilOf_k nilOf_l nilOf_m eqLeaf_a eqLeaf_b eqLeaf_c eqOffs evMM bytesOf evOpsF AfterF footOf footRefs notIn indepF footAt freeOk still evParts fillA zeros intOfA boundA srcOf List.isEmpty appNil_0 appNil_1 appNil_2 Int.reduceToNat Nat.mul_one Nat.reduceSub evC evOpsT evOpsTF autoH tabHint look hintD strip guarded RetPD RetRD mpLen keysOk leafKA leafK bitI nilOf_n nilOf_o Bool.or_false Bool.or_true Bool.and_true Bool.and_false Nat.blt renF renM renB renV idxOf solF solM solA solV thawRef ev1
section
open Rf
theorem stepsT_len' (s : List RStep) (h : s.all rstepOk = true) : ∀ k, k ≤ s.length → (stepsT (s.take k)).length ≤ 60 * k := by
 intro k
 induction k with
 | zero => intro _; simp [stepsT]
 | succ k ih =>
  intro hk
  rw [take_succ_getD s k zs (by omega), stepsT_snoc, List.length_append]
  have := rstT_len (List.all_eq_true.mp h _ (getD_mem (d := zs) (by omega : k < s.length)))
  have := ih (by omega)
  omega
set_option maxHeartbeats 4000000 in
theorem write_ok : ∀ t, WriteOK t := by
 refine Tree.ind fun kd s c a ks ih μ b g r o j h ho => ?_
 have hft := h.hf
 rw [formedB_node] at hft
 simp only [Bool.and_eq_true] at hft
 have hw := h.hw
 rw [wt_node] at hw ho
 have hb := h.hb
 have hr := h.hr
 have ht := wrM_t h
 have hL := wrM_len (μ := μ) (b := b) (g := g) (t := .node kd s c a ks)
 have hsl := stepsT_len' s hft.1.1
 refine ref_body' (C := ctx) (Fn.of fn50 rfl) rfl (by rw [bst_len, bst_len]; omega) rfl (by rw [bst_len]; exact bst_ok h.ok hb hr) ?_
 rw [bst_len, textN_node, writesN_node]
 unfold c50
 refine evA ?_
 simp only [treeP, Tree.kind, Tree.steps, Tree.cell, Tree.pos, Tree.kids, kidsP, rstepsP, mem2_get, mem2_last, mem2_set0, mem2_set1, mem_last, mem_set, mem_len, go_sem]
 try simp only [treeP, Tree.kind, Tree.steps, Tree.cell, Tree.pos, Tree.kids, kidsP, rstepsP, mem2_get, mem2_last, mem2_set0, mem2_set1, mem_last, mem_set, mem_len, go_sem]
 refine ⟨(by simp [vb] <;> omega), (by simp [vb] <;> omega), ?_⟩
 have e : bst μ b g r o j ++ [⟨[.ptr b g 0], 0, 1, 75, false⟩] ++ [⟨[.pv (.int .i64 kd), .pv (.sl s.length (s.flatMap rstepC)), .pv (.int .i64 c), .pv (.int .i64 a), .pv (.sl ks.length (ks.flatMap treeC))], 0, 5, 25, false⟩] = bst (wrM μ b g (.node kd s c a ks)) b g r o j := by
  rw [wrM_app h, List.append_assoc]
  rfl
 rw [e]
 simp only [List.length_append, List.length_cons, List.length_nil, bst_len]
 refine evA ?_
 simp only [ht, treeB, Tree.kind, Tree.steps, Tree.cell, Tree.pos, Tree.kids, kidsP, rstepsP, mem2_get, mem2_last, mem2_set0, mem2_set1, mem_last, mem_set, mem_len, go_sem]
 try simp only [ht, treeB, Tree.kind, Tree.steps, Tree.cell, Tree.pos, Tree.kids, kidsP, rstepsP, mem2_get, mem2_last, mem2_set0, mem2_set1, mem_last, mem_set, mem_len, go_sem]
 refine ⟨(by simp [vb] <;> omega), (by simp [vb] <;> omega), ?_⟩
 refine evA ?_
 simp only [ht, treeB, Tree.kind, Tree.steps, Tree.cell, Tree.pos, Tree.kids, kidsP, rstepsP, mem2_get, mem2_last, mem2_set0, mem2_set1, mem_last, mem_set, mem_len, go_sem]
 try simp only [ht, treeB, Tree.kind, Tree.steps, Tree.cell, Tree.pos, Tree.kids, kidsP, rstepsP, mem2_get, mem2_last, mem2_set0, mem2_set1, mem_last, mem_set, mem_len, go_sem]
 refine ⟨(by simp [vb] <;> omega), (by simp [vb] <;> omega), ?_⟩
 refine aw_block ?_
 refine aw_forJ s.length (fun _ => True) (wrF μ.length s) (fun k => bst (wrM μ b g (.node kd s c a ks)) b g r (o ++ stepsT (s.take k)) (j + 4 * k)) trivial (by unfold wrF; (repeat' (first | exact trivial | refine And.intro (by first | rfl | (simp [get, Nat.beq]; done) | (simp [get, Nat.beq]; omega) | (dsimp only [get]; congr 1 <;> first | rfl | omega | (simp; done) | (simp; omega))) ?_))) ⟨[], by simp [stepsT]⟩ (fun k => ⟨by rw [bst_len, hL]; omega, by simp only [wrF, okFrame, List.all_cons, List.all_nil, bnd, bst_len, hL, Bool.and_true, Bool.true_and, Bool.and_eq_true]; exact ⟨Nat.blt_eq.mpr (by omega), Nat.blt_eq.mpr (by omega), Nat.blt_eq.mpr (by omega)⟩, by rw [bst_len]; exact bst_ok (wrM_ok h) (by omega) (by omega)⟩) fun k hk _ => ?_
 have hsk := hsl k hk
 by_cases hlt : k < s.length
 ·have hs := write_step h (m := μ.length) (R := blockR 0 (thenR (fun f μ' => Aw ctx (fun _ => false) 67 μ.length c50t (RetRD [] (.pv (.tup [])) (bst μ b g r (o ++ ((s.map rstT).flatten ++ tailT kd c a ks.length ++ (ks.map textN).flatten)) (j + (4 * s.length + tailW kd + (ks.map writesN).sum)))) f μ') (RetRD [] (.pv (.tup [])) (bst μ b g r (o ++ ((s.map rstT).flatten ++ tailT kd c a ks.length ++ (ks.map textN).flatten)) (j + (4 * s.length + tailW kd + (ks.map writesN).sum)))))) (o := o ++ stepsT (s.take k)) (j := j + 4 * k) hlt (by rw [List.length_append]; omega)
  refine aw_mono hs fun e' f' μ' hh => ?_
  cases e' with
  | normal =>
   obtain ⟨h1, junk, h2⟩ := hh
   refine ⟨hlt, trivial, h1, junk, ?_⟩
   rw [h2, take_succ_getD s k zs hlt, stepsT_snoc, List.append_assoc o, show j + 4 * k + 4 = j + 4 * (k + 1) by omega]
  | _ => exact hh
 ·obtain rfl : k = s.length := by omega
  rw [List.take_length] at hsk ⊢
  have htl := fun f hf => write_tail h (m := μ.length) (Nat.le_refl _) ih (o := o ++ stepsT s) (j := j + 4 * s.length) (by rw [List.length_append]; omega) (f := f) hf
  unfold wrF
  iterate 5 first
   | refine ⟨fun h => by simp at h <;> omega, fun _ => ?_⟩
   | refine ⟨by simp [vb] <;> omega, by simp [vb] <;> omega, ?_⟩
   | (refine evA ?_; iterate 2 (try simp only [ht, mem2_get, mem2_last, mem2_set0, mem2_set1, mem_last, mem_set, mem_len, go_sem]))
  have := htl [(14, .pv (.bool (decide ((s.length : Int) < s.length)))), (2, .ptr μ.length 0 0), (3, .ptr (μ.length + 1) 0 0), (4, .fn 82 [.ptr μ.length 0 0]), (11, .pv (.sl s.length (s.flatMap rstepC))), (12, .pv (.int .i64 s.length)), (13, .pv (.int .i64 s.length))] (by (repeat' (first | exact trivial | refine And.intro (by first | rfl | (simp [get, Nat.beq]; done) | (simp [get, Nat.beq]; omega) | (dsimp only [get]; congr 1 <;> first | rfl | omega | (simp; done) | (simp; omega))) ?_)))
  rw [show o ++ stepsT s ++ tailT kd c a ks.length ++ kidsT ks = o ++ ((s.map rstT).flatten ++ tailT kd c a ks.length ++ (ks.map textN).flatten) by simp [stepsT, kidsT], show j + 4 * s.length + tailW kd + kidsW ks = j + (4 * s.length + tailW kd + (ks.map writesN).sum) by simp [kidsW]; omega] at this
  exact this
theorem ren_row (keep : List Nat) (d : Nat) (l : List UInt8) : (byteA l).map (renV keep d) = byteA l := by
 unfold byteA
 rw [List.map_map]
 refine List.map_congr_left fun x _ => ?_
 cases d <;> rfl
def bldF : Blk := bldB (.pv (.val (.pointer none))) (.pv .nilsl) 0
def wf0 (s : List RStep) : Nat → AF
 | 0 => wrF 2 s 0
 | k + 1 => wrF 3 s (k + 1)
def wm0 (t : Tree) (s : List RStep) : Nat → AM
 | 0 => [treeB t, bldF, bcell 1 0, treeB t]
 | k + 1 => bst (wrM [treeB t, bldF, rowB [] 0] 1 0 t) 1 0 2 (stepsT (s.take (k + 1))) (4 * (k + 1) - 1)
set_option maxHeartbeats 4000000 in
theorem write_new (t : Tree) (hf : formedB t = true) (hw : wt t ≤ 1000000) : RefOK ctx 50 [.ptr 1 0 0, .pv (treeP t)] [treeB t, bldF] (.pv (.tup [])) (bst [treeB t, bldF, rowB [] 0] 1 0 2 (textN t) (writesN t - 1)) := by
 obtain ⟨kd, s, c, a, ks⟩ := t
 have h : WrSt [treeB (.node kd s c a ks), bldF, rowB [] 0] 1 0 2 (.node kd s c a ks) := ⟨rfl, by simp, by simp, by simp, hf, hw⟩
 have hft := hf
 rw [formedB_node] at hft
 simp only [Bool.and_eq_true] at hft
 rw [wt_node] at hw
 have hsl := stepsT_len' s hft.1.1
 have ih : ∀ x ∈ ks, WriteOK x := fun x _ => write_ok x
 refine ref_body' (C := ctx) (Fn.of fn50 rfl) rfl (by simp [bst_len]) rfl (by rw [bst_len]; exact bst_ok (by rfl) (by simp) (by simp)) ?_
 rw [textN_node, writesN_node]
 unfold c50
 refine evA ?_
 dsimp only [treeP, treeB, bldF, bldB, Tree.kind, Tree.steps, Tree.cell, Tree.pos, Tree.kids, kidsP, rstepsP, go_sem]
 try dsimp only [treeP, treeB, bldF, bldB, Tree.kind, Tree.steps, Tree.cell, Tree.pos, Tree.kids, kidsP, rstepsP, go_sem]
 refine ⟨(by simp [vb] <;> omega), (by simp [vb] <;> omega), ?_⟩
 refine evA ?_
 dsimp only [treeP, treeB, Tree.kind, Tree.steps, Tree.cell, Tree.pos, Tree.kids, kidsP, rstepsP, go_sem]
 try dsimp only [treeP, treeB, Tree.kind, Tree.steps, Tree.cell, Tree.pos, Tree.kids, kidsP, rstepsP, go_sem]
 refine ⟨(by simp [vb] <;> omega), (by simp [vb] <;> omega), ?_⟩
 refine evA ?_
 dsimp only [treeP, treeB, Tree.kind, Tree.steps, Tree.cell, Tree.pos, Tree.kids, kidsP, rstepsP, go_sem]
 try dsimp only [treeP, treeB, Tree.kind, Tree.steps, Tree.cell, Tree.pos, Tree.kids, kidsP, rstepsP, go_sem]
 refine ⟨(by simp [vb] <;> omega), (by simp [vb] <;> omega), ?_⟩
 refine aw_block ?_
 refine aw_loopJ (fun k => k ≤ s.length) (wf0 s) (wm0 (.node kd s c a ks) s) (fun k => s.length - k) 0 (Nat.zero_le _) (by unfold wf0 wrF; (repeat' (first | exact trivial | refine And.intro (by first | rfl | (simp [get, Nat.beq]; done) | (simp [get, Nat.beq]; omega) | (dsimp only [get]; congr 1 <;> first | rfl | omega | (simp; done) | (simp; omega))) ?_))) ⟨[], rfl⟩ (fun k hk => ?_) fun k hk => ?_
 ·cases k with
  | zero => exact ⟨by simp [wm0], rfl, rfl⟩
  | succ k => exact ⟨by simp [wm0, bst_len, wrM], by simp only [wm0, bst_len, wrM]; rfl, by simp only [wm0]; rw [bst_len]; exact bst_ok (wrM_ok h) (by simp [wrM]) (by simp [wrM])⟩
 have hsk := hsl k hk
 by_cases hlt : k < s.length
 ·cases k with
  | succ k =>
   have hs := write_step h (m := 2) (R := blockR 0 (thenR (fun f μ' => Aw ctx (fun _ => false) 67 2 c50t (RetRD [] (.pv (.tup [])) (bst [treeB (.node kd s c a ks), bldF, rowB [] 0] 1 0 2 ((s.map rstT).flatten ++ tailT kd c a ks.length ++ (ks.map textN).flatten) (4 * s.length + tailW kd + (ks.map writesN).sum - 1))) f μ') (RetRD [] (.pv (.tup [])) (bst [treeB (.node kd s c a ks), bldF, rowB [] 0] 1 0 2 ((s.map rstT).flatten ++ tailT kd c a ks.length ++ (ks.map textN).flatten) (4 * s.length + tailW kd + (ks.map writesN).sum - 1))))) (o := stepsT (s.take (k + 1))) (j := 4 * (k + 1) - 1) hlt (by omega)
   refine aw_mono hs fun e' f' μ' hh => ?_
   cases e' with
   | normal =>
    obtain ⟨h1, junk, h2⟩ := hh
    refine ⟨k + 1 + 1, by omega, by omega, h1, junk, ?_⟩
    rw [h2, wm0, take_succ_getD s (k + 1) zs hlt, stepsT_snoc, show 4 * (k + 1) - 1 + 4 = 4 * (k + 1 + 1) - 1 by omega]
   | _ => exact hh
  | zero =>
   have hxo : rstepOk (s.getD 0 zs) = true := List.all_eq_true.mp hft.1.1 _ (getD_mem hlt)
   have e := fm_take rstepC_len s 0 zs hlt
   rw [Nat.zero_mul, List.drop_zero] at e
   have hle := rsteps_len s
   have e1 := take_succ_getD s 0 zs hlt
   generalize s.getD 0 zs = x at *
   obtain ⟨b1, b2⟩ := rstep_bounds hxo
   have hkind : x.kind = 0 ∨ x.kind = 1 := by
    simp [rstepOk, insideB] at hxo
    omega
   obtain ⟨xk, xi, xc⟩ := x
   simp only at b1 b2 hkind
   have hb2 : ∀ n ∈ [xi, xc], -10000000000 ≤ n ∧ n ≤ 10000000000 := by
    intro n hn
    simp only [List.mem_cons, List.not_mem_nil, or_false] at hn
    rcases hn with rfl | rfl <;> omega
   have hl1 := fun w hw0 hw1 => lineF (μ := [treeB (.node kd s c a ks), bldF, bcell 1 0, treeB (.node kd s c a ks), stB ⟨xk, xi, xc⟩]) rfl (b := 1) (g := 0) (c := 2) rfl (by simp) rfl w [xi, xc] (by simp) hb2 hw0 hw1
   have hr := rstT_line ⟨xk, xi, xc⟩
   have e3 : stepsT (s.take 1) = rstT ⟨xk, xi, xc⟩ := by rw [e1]; simp [stepsT]
   have a1 : wf0 s 0 = [(2, .ptr 2 0 0), (3, .ptr 3 0 0), (4, .fn 82 [.ptr 2 0 0]), (11, .pv (.sl s.length (s.flatMap rstepC))), (12, .pv (.int .i64 s.length)), (13, .pv (.int .i64 0))] := rfl
   have a2 : wm0 (.node kd s c a ks) s 0 = [treeB (.node kd s c a ks), bldF, bcell 1 0, treeB (.node kd s c a ks)] := rfl
   rw [a1, a2]
   rcases hkind with rfl | rfl
   ·have h6 := hl1 [114, 111, 119] (by simp) (by simp)
    replace hr : rstT ⟨0, xi, xc⟩ = lineT [114, 111, 119] [xi, xc] := hr
    refine evA ?_
    dsimp only [go_sem]
    try dsimp only [go_sem]
    refine ⟨(by simp [vb] <;> omega), (by simp [vb] <;> omega), ?_⟩
    refine evA ?_
    dsimp only [go_sem]
    refine ⟨fun _ => ?_, fun h => by simp at h; subst h; simp at hlt⟩
    iterate 5 first
     | refine ⟨by simp [vb, e, hle, hlt, rstepC] <;> omega, by simp [vb, e, hle, hlt, rstepC] <;> omega, ?_⟩
     | (refine evH [(16, { val := some (.pv (.agg (rstepC ⟨0, xi, xc⟩))) })] ?_; iterate 2 (try dsimp only [bcell, rstepC, treeB, bldF, bldB, Tree.kind, Tree.steps, Tree.cell, Tree.pos, Tree.kids, go_sem]))
    refine evH [(26, { val := some (.pv (.tup [])), mem := some [treeB (.node kd s c a ks), bldB (.ptr 1 0 0) (.ref 5 3 0 (lineT [114, 111, 119] [xi, xc]).length) 0, bcell 1 0, treeB (.node kd s c a ks), stB ⟨0, xi, xc⟩, rowB (lineT [114, 111, 119] [xi, xc]) 3] })] ?_
    dsimp only [bcell, rstepC, go_sem]
    refine ⟨fun _ => ?_, fun h => by simp at h <;> omega⟩
    refine evH [(26, { val := some (.pv (.tup [])), mem := some [treeB (.node kd s c a ks), bldB (.ptr 1 0 0) (.ref 5 3 0 (lineT [114, 111, 119] [xi, xc]).length) 0, bcell 1 0, treeB (.node kd s c a ks), stB ⟨0, xi, xc⟩, rowB (lineT [114, 111, 119] [xi, xc]) 3] })] ?_
    dsimp only [bcell, rstepC, go_sem]
    try dsimp only [bcell, rstepC, go_sem]
    refine ⟨(by simp [vb] <;> omega), ?_, ?_⟩
    ·exact ⟨h6, trivial⟩
    refine aw_keep [0, 1, 5, 2, 3] rfl ?_
    dsimp only [renF, renM, renB, renV, idxOf, treeB, bldB, rowB, bcell, stB, go_sem]
    simp only [ren_row]
    refine evA ?_
    dsimp only [bcell, rstepC, go_sem]
    try dsimp only [bcell, rstepC, go_sem]
    refine ⟨(by simp [vb] <;> omega), (by simp [vb] <;> omega), ?_⟩
    exact ⟨1, by omega, by omega, by unfold wf0 wrF; (repeat' (first | exact trivial | refine And.intro (by first | rfl | (simp [get, Nat.beq]; done) | (simp [get, Nat.beq]; omega) | (dsimp only [get]; congr 1 <;> first | rfl | omega | (simp; done) | (simp; omega))) ?_)), [], by rw [wm0, Nat.zero_add, e3, hr]; rfl⟩
   ·have h6 := hl1 [103, 114, 97, 112, 104] (by simp) (by simp)
    replace hr : rstT ⟨1, xi, xc⟩ = lineT [103, 114, 97, 112, 104] [xi, xc] := hr
    refine evA ?_
    dsimp only [go_sem]
    try dsimp only [go_sem]
    refine ⟨(by simp [vb] <;> omega), (by simp [vb] <;> omega), ?_⟩
    refine evA ?_
    dsimp only [go_sem]
    refine ⟨fun _ => ?_, fun h => by simp at h; subst h; simp at hlt⟩
    iterate 5 first
     | refine ⟨by simp [vb, e, hle, hlt, rstepC] <;> omega, by simp [vb, e, hle, hlt, rstepC] <;> omega, ?_⟩
     | (refine evH [(16, { val := some (.pv (.agg (rstepC ⟨1, xi, xc⟩))) })] ?_; iterate 2 (try dsimp only [bcell, rstepC, treeB, bldF, bldB, Tree.kind, Tree.steps, Tree.cell, Tree.pos, Tree.kids, go_sem]))
    refine evH [(33, { val := some (.pv (.tup [])), mem := some [treeB (.node kd s c a ks), bldB (.ptr 1 0 0) (.ref 5 3 0 (lineT [103, 114, 97, 112, 104] [xi, xc]).length) 0, bcell 1 0, treeB (.node kd s c a ks), stB ⟨1, xi, xc⟩, rowB (lineT [103, 114, 97, 112, 104] [xi, xc]) 3] })] ?_
    dsimp only [bcell, rstepC, go_sem]
    refine ⟨fun h => by simp at h <;> omega, fun _ => ?_⟩
    refine evH [(33, { val := some (.pv (.tup [])), mem := some [treeB (.node kd s c a ks), bldB (.ptr 1 0 0) (.ref 5 3 0 (lineT [103, 114, 97, 112, 104] [xi, xc]).length) 0, bcell 1 0, treeB (.node kd s c a ks), stB ⟨1, xi, xc⟩, rowB (lineT [103, 114, 97, 112, 104] [xi, xc]) 3] })] ?_
    dsimp only [bcell, rstepC, go_sem]
    try dsimp only [bcell, rstepC, go_sem]
    refine ⟨(by simp [vb] <;> omega), ?_, ?_⟩
    ·exact ⟨h6, trivial⟩
    refine aw_keep [0, 1, 5, 2, 3] rfl ?_
    dsimp only [renF, renM, renB, renV, idxOf, treeB, bldB, rowB, bcell, stB, go_sem]
    simp only [ren_row]
    refine evA ?_
    dsimp only [bcell, rstepC, go_sem]
    try dsimp only [bcell, rstepC, go_sem]
    refine ⟨(by simp [vb] <;> omega), (by simp [vb] <;> omega), ?_⟩
    exact ⟨1, by omega, by omega, by unfold wf0 wrF; (repeat' (first | exact trivial | refine And.intro (by first | rfl | (simp [get, Nat.beq]; done) | (simp [get, Nat.beq]; omega) | (dsimp only [get]; congr 1 <;> first | rfl | omega | (simp; done) | (simp; omega))) ?_)), [], by rw [wm0, Nat.zero_add, e3, hr]; rfl⟩
 ·obtain rfl : k = s.length := by omega
  have hst : stepsT s = (s.map rstT).flatten := rfl
  have hkt : kidsT ks = (ks.map textN).flatten := rfl
  have hkw : kidsW ks = (ks.map writesN).sum := rfl
  rw [List.take_length] at hsk
  have htw : 2 ≤ tailW kd := by unfold tailW; split <;> (try split) <;> omega
  rw [← hst, ← hkt, ← hkw]
  cases s with
  | cons x s' =>
   have htl := fun f hf => write_tail h (m := 2) (by simp) ih (o := stepsT (x :: s')) (j := 4 * (x :: s').length - 1) (by omega) (f := f) hf
   have e4 : 4 * (x :: s').length - 1 + tailW kd + kidsW ks = 4 * (x :: s').length + tailW kd + kidsW ks - 1 := by simp only [List.length_cons]; omega
   rw [e4] at htl
   have e5 : wm0 (.node kd (x :: s') c a ks) (x :: s') (x :: s').length = bst (wrM [treeB (.node kd (x :: s') c a ks), bldF, rowB [] 0] 1 0 (.node kd (x :: s') c a ks)) 1 0 2 (stepsT (x :: s')) (4 * (x :: s').length - 1) := by
    simp only [List.length_cons, wm0]
    rw [show (x :: s').take (s'.length + 1) = x :: s' from List.take_length (l := x :: s')]
   rw [e5]
   have e6 : wf0 (x :: s') (x :: s').length = wrF 3 (x :: s') (x :: s').length := rfl
   rw [e6]
   unfold wrF
   generalize hM : bst (wrM [treeB (.node kd (x :: s') c a ks), bldF, rowB [] 0] 1 0 (.node kd (x :: s') c a ks)) 1 0 2 (stepsT (x :: s')) (4 * (x :: s').length - 1) = MM at *
   iterate 5 first
    | refine ⟨fun h => by simp at h <;> omega, fun _ => ?_⟩
    | refine ⟨by simp [vb] <;> omega, by simp [vb] <;> omega, ?_⟩
    | (refine evA ?_; iterate 2 (try dsimp only [go_sem]))
   exact htl _ (by (repeat' (first | exact trivial | refine And.intro (by first | rfl | (simp [get, Nat.beq]; done) | (simp [get, Nat.beq]; omega) | (dsimp only [get]; congr 1 <;> first | rfl | omega | (simp; done) | (simp; omega))) ?_)))
  | nil =>
   have a1 : wf0 [] 0 = [(2, .ptr 2 0 0), (3, .ptr 3 0 0), (4, .fn 82 [.ptr 2 0 0]), (11, .pv (.sl 0 [])), (12, .pv (.int .i64 0)), (13, .pv (.int .i64 0))] := rfl
   have a2 : wm0 (.node kd [] c a ks) [] 0 = [treeB (.node kd [] c a ks), bldF, bcell 1 0, treeB (.node kd [] c a ks)] := rfl
   rw [List.length_nil, a1, a2]
   have hb := tail_bounds hft.1.2
   obtain ⟨b1, b2⟩ := hb
   have hwl := wts_len ks
   have htl := tailT_len hft.1.2 (by omega)
   have hkk := fun f hf => write_kids h (m := 2) (by simp) ih (o := tailT kd c a ks.length) (j := tailW kd - 1) (by omega) (f := f) hf
   have hln := fun w ns hn hns hw0 hw => lineF (μ := [treeB (.node kd [] c a ks), bldF, bcell 1 0, treeB (.node kd [] c a ks)]) rfl (b := 1) (g := 0) (c := 2) rfl (by simp) rfl w ns hn hns hw0 hw
   have e4 : tailW kd - 1 + kidsW ks = 4 * 0 + tailW kd + kidsW ks - 1 := by omega
   rw [e4] at hkk
   rw [show stepsT [] = [] from rfl, List.nil_append]
   rw [tailT_line] at hkk ⊢
   rcases tail_kinds hft.1.2 with ⟨rfl, h0⟩ | rfl | ⟨rfl, h2⟩
   ·have h1 := (hln [99, 108, 111, 115, 101, 100] [] (by simp) (by simp) (by simp) (by simp)).weak (al' := [.pv (.str [99, 108, 111, 115, 101, 100]), .pv .nilsl, .ptr 2 0 0]) ⟨rfl, fun i x y hx hy => by
     match i, hx, hy with
     | 0, hx, hy => injection hx with hx; injection hy with hy; subst hx hy; exact .refl _
     | 1, hx, hy => injection hx with hx; injection hy with hy; subst hx hy; exact CW.nil
     | 2, hx, hy => injection hx with hx; injection hy with hy; subst hx hy; exact .refl _
     | _ + 3, hx, _ => simp at hx⟩
    iterate 9 first
     | refine ⟨fun h => by simp at h <;> omega, fun _ => ?_⟩
     | refine ⟨by simp [vb] <;> omega, by simp [vb] <;> omega, ?_⟩
     | (refine evA ?_; iterate 2 (try dsimp only [treeB, bldF, bldB, bcell, Tree.kind, Tree.steps, Tree.cell, Tree.pos, Tree.kids, go_sem]))
    refine evH [(46, { val := some (.pv (.tup [])), mem := some [treeB (.node 0 [] c a ks), bldB (.ptr 1 0 0) (.ref 4 1 0 (lineT [99, 108, 111, 115, 101, 100] []).length) 0, bcell 1 0, treeB (.node 0 [] c a ks), rowB (lineT [99, 108, 111, 115, 101, 100] []) 1] })] ?_
    dsimp only [treeB, bldF, bldB, bcell, Tree.kind, Tree.steps, Tree.cell, Tree.pos, Tree.kids, go_sem]
    refine ⟨fun _ => ?_, fun h => by simp at h <;> omega⟩
    refine evH [(46, { val := some (.pv (.tup [])), mem := some [treeB (.node 0 [] c a ks), bldB (.ptr 1 0 0) (.ref 4 1 0 (lineT [99, 108, 111, 115, 101, 100] []).length) 0, bcell 1 0, treeB (.node 0 [] c a ks), rowB (lineT [99, 108, 111, 115, 101, 100] []) 1] })] ?_
    dsimp only [treeB, bldF, bldB, bcell, Tree.kind, Tree.steps, Tree.cell, Tree.pos, Tree.kids, go_sem]
    try dsimp only [treeB, bldF, bldB, bcell, Tree.kind, Tree.steps, Tree.cell, Tree.pos, Tree.kids, go_sem]
    refine ⟨(by simp [vb] <;> omega), ?_, ?_⟩
    ·exact ⟨h1, trivial⟩
    refine aw_keep [0, 1, 4, 2, 3] rfl ?_
    dsimp only [renF, renM, renB, renV, idxOf, treeB, bldB, rowB, bcell, stB, go_sem]
    simp only [ren_row]
    exact hkk _ (by (repeat' (first | exact trivial | refine And.intro (by first | rfl | (simp [get, Nat.beq]; done) | (simp [get, Nat.beq]; omega) | (dsimp only [get]; congr 1 <;> first | rfl | omega | (simp; done) | (simp; omega))) ?_)))
   ·have h1 := hln [115, 112, 108, 105, 116] [c, a] (by simp) (by intro n hn; simp only [List.mem_cons, List.not_mem_nil, or_false] at hn; rcases hn with rfl | rfl <;> omega) (by simp) (by simp)
    iterate 9 first
     | refine ⟨fun h => by simp at h <;> omega, fun _ => ?_⟩
     | refine ⟨by simp [vb] <;> omega, by simp [vb] <;> omega, ?_⟩
     | (refine evA ?_; iterate 2 (try dsimp only [treeB, bldF, bldB, bcell, Tree.kind, Tree.steps, Tree.cell, Tree.pos, Tree.kids, go_sem]))
    refine evA ?_
    dsimp only [treeB, Tree.kind, Tree.steps, Tree.cell, Tree.pos, Tree.kids, go_sem]
    refine ⟨fun h => by simp at h <;> omega, fun _ => ?_⟩
    refine evA ?_
    dsimp only [treeB, Tree.kind, Tree.steps, Tree.cell, Tree.pos, Tree.kids, go_sem]
    try dsimp only [treeB, Tree.kind, Tree.steps, Tree.cell, Tree.pos, Tree.kids, go_sem]
    refine ⟨(by simp [vb] <;> omega), (by simp [vb] <;> omega), ?_⟩
    refine evH [(55, { val := some (.pv (.tup [])), mem := some [treeB (.node 1 [] c a ks), bldB (.ptr 1 0 0) (.ref 4 3 0 (lineT [115, 112, 108, 105, 116] [c, a]).length) 0, bcell 1 0, treeB (.node 1 [] c a ks), rowB (lineT [115, 112, 108, 105, 116] [c, a]) 3] })] ?_
    dsimp only [treeB, bldF, bldB, bcell, Tree.kind, Tree.steps, Tree.cell, Tree.pos, Tree.kids, go_sem]
    refine ⟨fun _ => ?_, fun h => by simp at h <;> omega⟩
    refine evH [(55, { val := some (.pv (.tup [])), mem := some [treeB (.node 1 [] c a ks), bldB (.ptr 1 0 0) (.ref 4 3 0 (lineT [115, 112, 108, 105, 116] [c, a]).length) 0, bcell 1 0, treeB (.node 1 [] c a ks), rowB (lineT [115, 112, 108, 105, 116] [c, a]) 3] })] ?_
    dsimp only [treeB, bldF, bldB, bcell, Tree.kind, Tree.steps, Tree.cell, Tree.pos, Tree.kids, go_sem]
    try dsimp only [treeB, bldF, bldB, bcell, Tree.kind, Tree.steps, Tree.cell, Tree.pos, Tree.kids, go_sem]
    refine ⟨(by simp [vb] <;> omega), ?_, ?_⟩
    ·exact ⟨h1, trivial⟩
    refine aw_keep [0, 1, 4, 2, 3] rfl ?_
    dsimp only [renF, renM, renB, renV, idxOf, treeB, bldB, rowB, bcell, stB, go_sem]
    simp only [ren_row]
    exact hkk _ (by (repeat' (first | exact trivial | refine And.intro (by first | rfl | (simp [get, Nat.beq]; done) | (simp [get, Nat.beq]; omega) | (dsimp only [get]; congr 1 <;> first | rfl | omega | (simp; done) | (simp; omega))) ?_)))
   ·have h1 := hln [99, 97, 115, 101, 115] [(ks.length : Int)] (by simp) (by intro n hn; simp only [List.mem_cons, List.not_mem_nil, or_false] at hn; subst hn; omega) (by simp) (by simp)
    iterate 9 first
     | refine ⟨fun h => by simp at h <;> omega, fun _ => ?_⟩
     | refine ⟨by simp [vb] <;> omega, by simp [vb] <;> omega, ?_⟩
     | (refine evA ?_; iterate 2 (try dsimp only [treeB, bldF, bldB, bcell, Tree.kind, Tree.steps, Tree.cell, Tree.pos, Tree.kids, kidsP, go_sem]))
    refine evA ?_
    dsimp only [treeB, Tree.kind, Tree.steps, Tree.cell, Tree.pos, Tree.kids, kidsP, go_sem]
    refine ⟨fun h => by simp at h <;> omega, fun _ => ?_⟩
    refine evA ?_
    dsimp only [treeB, Tree.kind, Tree.steps, Tree.cell, Tree.pos, Tree.kids, kidsP, go_sem]
    try dsimp only [treeB, Tree.kind, Tree.steps, Tree.cell, Tree.pos, Tree.kids, kidsP, go_sem]
    refine ⟨(by simp [vb] <;> omega), (by simp [vb] <;> omega), ?_⟩
    refine evH [(42, { val := some (.pv (.tup [])), mem := some [treeB (.node 2 [] c a ks), bldB (.ptr 1 0 0) (.ref 4 2 0 (lineT [99, 97, 115, 101, 115] [(ks.length : Int)]).length) 0, bcell 1 0, treeB (.node 2 [] c a ks), rowB (lineT [99, 97, 115, 101, 115] [(ks.length : Int)]) 2] })] ?_
    dsimp only [treeB, bldF, bldB, bcell, Tree.kind, Tree.steps, Tree.cell, Tree.pos, Tree.kids, kidsP, go_sem]
    refine ⟨fun h => by simp at h <;> omega, fun _ => ?_⟩
    refine evH [(42, { val := some (.pv (.tup [])), mem := some [treeB (.node 2 [] c a ks), bldB (.ptr 1 0 0) (.ref 4 2 0 (lineT [99, 97, 115, 101, 115] [(ks.length : Int)]).length) 0, bcell 1 0, treeB (.node 2 [] c a ks), rowB (lineT [99, 97, 115, 101, 115] [(ks.length : Int)]) 2] })] ?_
    dsimp only [treeB, bldF, bldB, bcell, Tree.kind, Tree.steps, Tree.cell, Tree.pos, Tree.kids, kidsP, go_sem]
    try dsimp only [treeB, bldF, bldB, bcell, Tree.kind, Tree.steps, Tree.cell, Tree.pos, Tree.kids, kidsP, go_sem]
    refine ⟨(by simp [vb] <;> omega), ?_, ?_⟩
    ·exact ⟨h1, trivial⟩
    refine aw_keep [0, 1, 4, 2, 3] rfl ?_
    dsimp only [renF, renM, renB, renV, idxOf, treeB, bldB, rowB, bcell, stB, go_sem]
    simp only [ren_row]
    exact hkk _ (by (repeat' (first | exact trivial | refine And.intro (by first | rfl | (simp [get, Nat.beq]; done) | (simp [get, Nat.beq]; omega) | (dsimp only [get]; congr 1 <;> first | rfl | omega | (simp; done) | (simp; omega))) ?_)))
theorem textN_ne (t : Tree) : textN t ≠ [] := by
 obtain ⟨k, s, c, a, l⟩ := t
 rw [textN_node]
 have : tailT k c a l.length ≠ [] := by
  unfold tailT
  split
  ·simp
  ·split <;> simp
 simp [this]
def c26 : ACode := (⟨_, by conv => (lhs; reduce; try simp only [lt1, Int.cast_ofNat_Int, Int.reduceNegSucc, UInt8.reduceOfNat])⟩ : {x // codeOf Tryz.prog 26 (fun _ => false) = some x}).1
theorem fn26 : fnOf Tryz.prog 26 (fun _ => false) = some (c26, [.t 2, .t 3], 13, true) := by kernel_rfl
set_option maxHeartbeats 4000000 in
theorem format_ok (t : Tree) (hw : wt t ≤ 1000000000) : PureOK ctx 26 [treeP t] (.tup [.str (formatN t).1, .int .i64 (formatN t).2]) := by
  have hv := valid_ok t hw
  unfold formatN
  refine pure_body' (C := ctx) (Fn.of fn26 rfl) rfl ?_
  unfold c26
  cases hb : validB t with
  | false =>
    rw [hb] at hv
    repeat' (first
      | ((with_reducible first | show VCs _ | show All _); simp [vb] <;> omega)
      | exact (rfl : some _ = _)
      | (fail_if_success refine awL ?_
         refine evT [(13, fun _ => some (.bool false))] ?_
         repeat1' dsimp only [c26, treeP, go_sem]
         first
         | refine aw4 ?_ ?_ rfl ?_
         | apply aw3
         | apply aw2
         | (refine awB (fun hc => ?_) fun hc => ?_ <;> first | (cases hc; done) | (exfalso; simp at hc <;> omega) | (try simp only [bn] at hc; try contradiction))
         | skip))
    exact ⟨hv, trivial⟩
  | true =>
    obtain ⟨hf, hw2⟩ := valid_formed hb
    have hwr := write_new t hf (by omega)
    have hne := textN_ne t
    rw [hb] at hv
    generalize textN t = T at *
    generalize hj : writesN t - 1 = j at *
    have hlen := blen_ok (μ := bst [treeB t, bldF, rowB [] 0] 1 0 2 T j) (by rw [bst_len]; exact bst_ok (by rfl) (by simp) (by simp)) (b := 1) (g := 0) (r := 2) (j := j) (n := T.length) (x := .ptr 1 0 0) rfl
    have hstr := bstring_ok (μ := bst [treeB t, bldF, rowB [] 0] 1 0 2 T j) (b := 1) (g := 0) (r := 2) (j := j) (x := .ptr 1 0 0) hne rfl rfl
    refine evT [(13, fun _ => some (.bool true))] ?_
    dsimp only [treeP, go_sem]
    try dsimp only [treeP, go_sem]
    refine ⟨(by simp [vb] <;> omega), (by simp [vb] <;> omega), ?_⟩
    refine evT [(13, fun _ => some (.bool true))] ?_
    dsimp only [treeP, go_sem]
    try dsimp only [treeP, go_sem]
    refine ⟨(by simp [vb] <;> omega), ?_, ?_⟩
    · exact ⟨hv, trivial⟩
    iterate 5 first
      | refine ⟨fun h => by simp at h <;> omega, fun _ => ?_⟩
      | refine ⟨by simp [vb] <;> omega, by simp [vb] <;> omega, ?_⟩
      | (refine evH [(9, { val := some (.pv (.tup [])), mem := some [treeB t, bldB (.ptr 1 0 0) (.ref 2 j 0 T.length) 0, rowB T j] })] ?_; iterate 2 (try dsimp only [treeB, go_sem]))
    refine evH [(9, { val := some (.pv (.tup [])), mem := some [treeB t, bldB (.ptr 1 0 0) (.ref 2 j 0 T.length) 0, rowB T j] })] ?_
    dsimp only [treeB, go_sem]
    try dsimp only [treeB, go_sem]
    refine ⟨(by simp [vb] <;> omega), ?_, ?_⟩
    · exact ⟨hwr, trivial⟩
    refine evH [(10, { val := some (.pv (.int .i64 T.length)), ro := true })] ?_
    dsimp only [treeB, go_sem]
    try dsimp only [treeB, go_sem]
    refine ⟨(by simp [vb] <;> omega), ?_, ?_⟩
    · exact ⟨hlen, trivial⟩
    refine evA ?_
    dsimp only [go_sem]
    refine ⟨fun hc => ?_, fun hc => ?_⟩
    · rw [if_pos rfl, if_pos (by simp at hc; omega)]
      refine evA ?_
      dsimp only [go_sem]
      try dsimp only [go_sem]
      refine ⟨(by simp [vb] <;> omega), (by simp [vb] <;> omega), ?_⟩
      refine evA ?_
      dsimp only [go_sem]
      exact ⟨trivial, rfl⟩
    · rw [if_pos rfl, if_neg (by simp at hc; omega)]
      refine evH [(12, { val := some (.pv (.str T)), mem := some ([treeB t, bldB (.ptr 1 0 0) (.ref 2 j 0 T.length) 0, rowB T j].set 2 { rowB T j with frozen := true }) })] ?_
      dsimp only [go_sem]
      refine evH [(12, { val := some (.pv (.str T)), mem := some ([treeB t, bldB (.ptr 1 0 0) (.ref 2 j 0 T.length) 0, rowB T j].set 2 { rowB T j with frozen := true }) })] ?_
      dsimp only [go_sem]
      try dsimp only [go_sem]
      refine ⟨(by simp [vb] <;> omega), ?_, ?_⟩
      · exact ⟨hstr, trivial⟩
      refine evA ?_
      dsimp only [go_sem]
      exact ⟨trivial, rfl⟩
end
end Pur
end Go.Proofs.YtaleoeblooeglaaGreatDoor
namespace Go.Proofs.YtaleoeblooeglaaGreatDoor
namespace Rf
def parseN (s : List UInt8) : Tree × Int :=
 if s.length > 65536 then (zt, 8) else match treeF ((spC 10 s).length + 1) 1 (spC 10 s) with
  | some (t, _) => if Pur.formatN t = (s, 0) then (t, 0) else (zt, 3)
  | none => (zt, 3)
theorem kidsG_wt {tf : List Ln → Option (Tree × List Ln)} (h : ∀ ls t r, tf ls = some (t, r) → wt t + r.length ≤ ls.length) : ∀ (n : Nat) (ls : List Ln) (ts : List Tree) (r : List Ln), kidsG tf n ls = some (ts, r) → wts ts + r.length ≤ ls.length
 | 0, ls, ts, r, e => by injection e with e; injection e with e1 e; subst e e1; simp [wts]
 | n + 1, ls, ts, r, e => by
  rw [kidsG] at e
  split at e
  ·rename_i t r1 h1
   split at e
   ·rename_i ts' r2 h2
    injection e with e
    injection e with e1 e
    subst e e1
    have := kidsG_wt h n r1 ts' r2 h2
    have := h _ _ _ h1
    rw [wts]
    omega
   ·cases e
  ·cases e
theorem nodeF_wt : ∀ (f : Nat) (lev : Int) (S : List RStep) (ls : List Ln) (t : Tree) (r : List Ln), nodeF f lev S ls = some (t, r) → wt t + r.length ≤ S.length + ls.length
 | 0, _, _, _, _, _, e => by cases e
 | f + 1, lev, S, ls, t, r, e => by
  have ih : ∀ (S : List RStep) (ls : List Ln) (t : Tree) (r : List Ln), nodeF f lev S ls = some (t, r) → wt t + r.length ≤ S.length + ls.length := fun S ls t r => nodeF_wt f lev S ls t r
  have ihk : ∀ (ls : List Ln) (t : Tree) (r : List Ln), (if lev + 1 ≤ 4096 then nodeF f (lev + 1) [] ls else none) = some (t, r) → wt t + r.length ≤ ls.length := fun ls t r h => by
   split at h
   ·simpa using nodeF_wt f (lev + 1) [] ls t r h
   ·cases h
  have one : ∀ (n : Nat) (x : Ln) (l : List Ln) (k c a : Int), (match kidsG (fun l => if lev + 1 ≤ 4096 then nodeF f (lev + 1) [] l else none) n l with | some (ks, r') => some (Tree.node k S c a ks, r') | none => none) = some (t, r) → wt t + r.length ≤ S.length + (x :: l).length := fun n x l k c a h => by
   split at h
   ·rename_i ks r' hk
    injection h with h
    injection h with h1 h
    subst h h1
    have := kidsG_wt ihk _ _ _ _ hk
    rw [wt_node, List.length_cons]
    omega
   ·cases h
  cases ls with
  | nil => cases e
  | cons x l =>
   rw [nodeF] at e
   split at e
   ·cases e
   ·rename_i w ns hl
    split at e
    ·have := ih _ _ _ _ e
     simp at this ⊢
     omega
    ·split at e
     ·have := ih _ _ _ _ e
      simp at this ⊢
      omega
     ·split at e
      ·injection e with e
       injection e with e1 e
       subst e e1
       rw [wt_node]
       simp [wts]
       omega
      ·split at e
       ·exact one _ _ _ _ _ _ e
       ·split at e
        ·exact one _ _ _ _ _ _ e
        ·cases e
end Rf
namespace Pur
open Go.RowKit
attribute [local go_sem] evOps evOp evOpV evRun evK argF List.map hintAt stripped get put tmpsOf tmpOf tmpO tmpL tmpP conds ev cond_true cond_false Nat.beq Nat.ble Nat.add quiet After thenR blockR IfD List.append_eq List.nil_append List.cons_append evInt exactI_a exactI_b exactI_c exactI_d exactI_e exactI_f evBin evStr evBool evUn guardC calm quiet.isCallK evPick List.getElem?_cons_zero List.getElem?_cons_succ fromCells fromPVs cellsOf List.all oneCell List.length_cons List.length_nil mkAgg plains List.drop List.take List.getD Option.getD_some bo1 bo2 ba1 ba2 bn1 bn2 kk_i64 kk_u8 kk_i32 kk_u64 setAt List.set Nat.reduceAdd Nat.reduceMul evCall safeCall refsOf refsIn scalarA scalar scalarL thawL mapAll thawArg thawRef after freeze RetD RetE evResult evRess evRes1 thaw_pv mkTup nilOf_a nilOf_b nilOf_bb nilOf_c nilOf_d nilOf_e nilOf_f nilOf_g nilOf_h nilOf_i nilOf_j nilOf_k nilOf_l nilOf_m eqLeaf_a eqLeaf_b eqLeaf_c eqOffs evMM bytesOf evOpsF AfterF footOf footRefs notIn indepF footAt freeOk still evParts fillA zeros intOfA boundA srcOf List.isEmpty appNil_0 appNil_1 appNil_2 Int.reduceToNat Nat.mul_one Nat.reduceSub evC evOpsT evOpsTF autoH tabHint look hintD strip guarded RetPD RetRD mpLen keysOk leafKA leafK bitI nilOf_n nilOf_o Bool.or_false Bool.or_true Bool.and_true Bool.and_false Nat.blt renF renM renB renV idxOf solF solM solA solV thawRef ev1
open Rf
noncomputable def L28 (path : List Nat) : Code := subC (bodyOf Tryz.prog 28) path
def c28a : ACode := (⟨_, by conv => (lhs; reduce; try simp only [lt1, Int.cast_ofNat_Int, Int.reduceNegSucc, UInt8.reduceOfNat])⟩ : {x // comp Tryz.prog no 35 (L28 [0]) = some x}).1
def c28b : ACode := (⟨_, by conv => (lhs; reduce; try simp only [lt1, Int.cast_ofNat_Int, Int.reduceNegSucc, UInt8.reduceOfNat])⟩ : {x // comp Tryz.prog no 35 (L28 [1, 0]) = some x}).1
def c28d : ACode := (⟨_, by conv => (lhs; reduce; try simp only [lt1, Int.cast_ofNat_Int, Int.reduceNegSucc, UInt8.reduceOfNat])⟩ : {x // comp Tryz.prog no 35 (L28 [1, 1, 1]) = some x}).1
theorem comp28a : comp Tryz.prog no 35 (L28 [0]) = some c28a := by kernel_rfl
theorem comp28b : comp Tryz.prog no 35 (L28 [1, 0]) = some c28b := by kernel_rfl
theorem comp28d : comp Tryz.prog no 35 (L28 [1, 1, 1]) = some c28d := by kernel_rfl
theorem PureOK.atD {C : Ctx} {g : FuncId} {ps : List PV} {r : PV} (h : PureOK C g ps r) (D : List Deferred) : PureOK { C with D := D } g ps r := h
theorem PanOK.atD {C : Ctx} {g : FuncId} {al : List AV} {μ : AM} {c : List PanicEntry} {Q : AM → Prop} (h : PanOK C g al μ c Q) (D : List Deferred) : PanOK { C with D := D } g al μ c Q :=
 ⟨h.1, fun w0 S γ w vs hW hp => (h.2 w0 S γ w vs ⟨hW.mem, hW.below, hW.live, hW.env⟩ hp).mono fun e w' ⟨S', γ', μ', h1, h2, h3, h4⟩ => ⟨S', γ', μ', h1, h2, ⟨h3.mem, h3.below, h3.live, h3.env⟩, h4⟩⟩
def slots : AF := [(2, .ptr 0 0 0), (3, .ptr 1 0 0)]
def mainR (s : List UInt8) : Exit → AF → AM → Prop := fun e f μ => match e with
 | .ret => Sub slots f ∧ (parseN s).2 = 0 ∧ ∃ junk, μ = [treeB (parseN s).1, errB 0] ++ junk
 | .panic c => c = wrongE ∧ parseN s = (zt, 3) ∧ Sub slots f ∧ ∃ a b c d e n junk, μ = [tcB a b c d e, errB n] ++ junk
 | _ => False
theorem main_aw (D : List Deferred) (s : List UInt8) (hs : s.length ≤ 65536) : Aw { ctx with D := D } no 35 2 c28d (mainR s) [(0, .pv (.str s)), (2, .ptr 0 0 0), (3, .ptr 1 0 0)] [zeroTB, errB 0] := by
 have hsp := PureOK.atD (split_ok 10 s (by omega)) D
 obtain ⟨hb1, hb2⟩ := spC_bound 10 s
 have hct := tree_ct ((spC 10 s).length + 1) 1 (spC 10 s) [] (by omega) (by omega) (by omega) (by omega) fun x hx => by have := hb2 x hx; omega
 have hwt := fun t r h => nodeF_wt ((spC 10 s).length + 1) 1 [] (spC 10 s) t r h
 have hP : parseN s = match treeF ((spC 10 s).length + 1) 1 (spC 10 s) with
  | some (t, _) => if formatN t = (s, 0) then (t, 0) else (zt, 3)
  | none => (zt, 3) := by unfold parseN; rw [if_neg (by omega)]
 unfold c28d
 refine evT [(55, fun _ => some (wordsL (spC 10 s)))] ?_
 dsimp only [zeroTB, errB, wordsL, go_sem]
 try dsimp only [zeroTB, errB, wordsL, go_sem]
 refine ⟨(by simp [vb] <;> omega), ?_, ?_⟩
 ·exact ⟨hsp, trivial⟩
 generalize hls : spC 10 s = ls at *
 cases ht : treeF (ls.length + 1) 1 ls with
 | none =>
  rw [ht] at hct hP
  simp only at hP
  have hp := (PanOK.frame hct [2] [zeroTB, errB 0, readerB ls] (by simp) (by simp) ⟨rfl, trivial⟩ rfl (by simp [bnd, Nat.blt]) (by rintro _ ⟨r, rfl⟩; simp)).atD D
  refine aw_seq ?_
  refine aw_pan 3 true [] ?_
  simp only [PanAt, List.take_succ_cons, List.take_zero, List.getElem?_cons_succ, List.getElem?_cons_zero, go_sem, panT]
  refine ⟨by simp [VCs], by simp [VCs, All], wrongE, _, hp, ?_⟩
  rintro μ1 ⟨_, ⟨r, rfl⟩, rfl⟩
  exact ⟨rfl, hP, by (repeat' (first | exact trivial | refine And.intro (by first | rfl | (simp [get, Nat.beq, slots]; done) | (simp [get, Nat.beq, slots]; omega) | (dsimp only [get]; congr 1 <;> first | rfl | omega | (simp; done) | (simp; omega))) ?_)), _, _, _, _, _, _, [readerB r], rfl⟩
 | some p =>
  obtain ⟨t, r⟩ := p
  rw [ht] at hct hP
  simp only at hP
  have hw : wt t ≤ 1000000000 := by
   have : nodeF (ls.length + 1) 1 [] ls = some (t, r) := by
    rw [treeF, if_pos (by omega)] at ht
    exact ht
   have := hwt t r this
   simp at this
   omega
  have hp := (RefOK.frame hct [2] [zeroTB, errB 0, readerB ls] (by simp) (by simp) ⟨rfl, trivial⟩ rfl (by simp [bnd, Nat.blt]) (by simp)).atD D
  have hfo := (format_ok t hw).atD D
  generalize hF : formatN t = F at *
  obtain ⟨F, n⟩ := F
  simp only at hfo
  refine evH [(19, { val := some (.pv (treeP t)), mem := some [zeroTB, errB 0, readerB r] })] ?_
  dsimp only [zeroTB, errB, treeP, go_sem]
  try dsimp only [zeroTB, errB, treeP, go_sem]
  refine ⟨(by simp [vb] <;> omega), ?_, ?_⟩
  ·exact ⟨hp, trivial⟩
  refine evT [(26, fun _ => some (.tup [.str F, .int .i64 n]))] ?_
  dsimp only [zeroTB, errB, treeP, go_sem]
  try dsimp only [zeroTB, errB, treeP, go_sem]
  refine ⟨(by simp [vb] <;> omega), ?_, ?_⟩
  ·exact ⟨hfo, trivial⟩
  refine evA ?_
  dsimp only [go_sem]
  try dsimp only [go_sem]
  refine ⟨(by simp [vb] <;> omega), (by simp [vb] <;> omega), ?_⟩
  refine evA ?_
  dsimp only [go_sem]
  refine ⟨fun hc => ?_, fun hc => ?_⟩
  ·have hne : ¬ ((F, n) = (s, (0 : Int))) := by
    rintro h
    injection h with h1 h2
    subst h1 h2
    simp at hc
   rw [if_neg hne] at hP
   refine aw_pan 2 true [] ?_
   simp only [PanAt, List.take_succ_cons, List.take_zero, List.getElem?_cons_succ, List.getElem?_cons_zero, go_sem, panT]
   exact ⟨trivial, trivial, rfl, hP, by (repeat' (first | exact trivial | refine And.intro (by first | rfl | (simp [get, Nat.beq, slots]; done) | (simp [get, Nat.beq, slots]; omega) | (dsimp only [get]; congr 1 <;> first | rfl | omega | (simp; done) | (simp; omega))) ?_)), _, _, _, _, _, _, [readerB r], rfl⟩
  ·have hq : (F, n) = (s, (0 : Int)) := by
    by_cases hn : n = 0
    ·subst hn
     simp at hc
     rw [hc]
    ·simp [hn] at hc
   rw [if_pos hq] at hP
   refine evA ?_
   dsimp only [go_sem]
   refine evA ?_
   dsimp only [go_sem]
   try dsimp only [go_sem]
   refine ⟨(by simp [vb] <;> omega), (by simp [vb] <;> omega), ?_⟩
   refine evA ?_
   dsimp only [go_sem]
   refine ⟨by (repeat' (first | exact trivial | refine And.intro (by first | rfl | (simp [get, Nat.beq, slots]; done) | (simp [get, Nat.beq, slots]; omega) | (dsimp only [get]; congr 1 <;> first | rfl | omega | (simp; done) | (simp; omega))) ?_)), by rw [hP], [readerB r], ?_⟩
   rw [hP]
   rfl
theorem head_aw (s : List UInt8) : Aw ctx no 35 0 c28a (fun e f μ => e = .normal ∧ Sub ((0, .pv (.str s)) :: slots) f ∧ μ = [zeroTB, errB 0]) [(0, .pv (.str s))] [] := by
 unfold c28a
 refine evA ?_
 dsimp only [go_sem]
 try dsimp only [go_sem]
 refine ⟨(by simp [vb] <;> omega), (by simp [vb] <;> omega), ?_⟩
 exact ⟨rfl, by (repeat' (first | exact trivial | refine And.intro (by first | rfl | (simp [get, Nat.beq, slots]; done) | (simp [get, Nat.beq, slots]; omega) | (dsimp only [get]; congr 1 <;> first | rfl | omega | (simp; done) | (simp; omega))) ?_)), rfl⟩
theorem len_aw (s : List UInt8) (hs : s.length ≤ 4000000000) : Aw ctx no 35 2 c28b (fun e f μ => (e = .normal ∧ s.length ≤ 65536 ∧ Sub ((0, .pv (.str s)) :: slots) f ∧ μ = [zeroTB, errB 0]) ∨ (e = .ret ∧ 65536 < s.length ∧ Sub slots f ∧ μ = [zeroTB, errB 8])) ((0, .pv (.str s)) :: slots) [zeroTB, errB 0] := by
 unfold c28b slots
 refine evA ?_
 dsimp only [zeroTB, errB, go_sem]
 try dsimp only [zeroTB, errB, go_sem]
 refine ⟨(by simp [vb] <;> omega), (by simp [vb] <;> omega), ?_⟩
 refine evA ?_
 dsimp only [zeroTB, errB, go_sem]
 refine ⟨fun hc => ?_, fun hc => ?_⟩
 ·simp at hc
  refine evA ?_
  dsimp only [zeroTB, errB, go_sem]
  try dsimp only [zeroTB, errB, go_sem]
  refine ⟨(by simp [vb] <;> omega), (by simp [vb] <;> omega), ?_⟩
  refine evA ?_
  dsimp only [zeroTB, errB, go_sem]
  exact .inr ⟨rfl, by omega, by (repeat' (first | exact trivial | refine And.intro (by first | rfl | (simp [get, Nat.beq, slots]; done) | (simp [get, Nat.beq, slots]; omega) | (dsimp only [get]; congr 1 <;> first | rfl | omega | (simp; done) | (simp; omega))) ?_)), rfl⟩
 ·simp at hc
  refine evA ?_
  dsimp only [zeroTB, errB, go_sem]
  exact .inl ⟨rfl, by omega, by (repeat' (first | exact trivial | refine And.intro (by first | rfl | (simp [get, Nat.beq, slots]; done) | (simp [get, Nat.beq, slots]; omega) | (dsimp only [get]; congr 1 <;> first | rfl | omega | (simp; done) | (simp; omega))) ?_)), rfl⟩
theorem ExtM.lower {m : Nat} {w w' : World} {S S' : Nat → Prop} {γ γ' : Gh} (h : ExtM m w S γ w' S' γ') : ExtM 0 w S γ w' S' γ' := ⟨h.stay, fun b e hb => absurd hb (by omega), h.more, h.cbs, h.size, h.frame⟩
theorem ExtM.low {w w' : World} {S S' : Nat → Prop} {γ γ' γ'' : Gh} (h : ExtM 0 w S γ w' S' γ') (hs : ∀ b e, γ'' b = some e → γ' b = some e) : ExtM 0 w S γ w' S' γ'' := ⟨h.stay, fun b e hb => absurd hb (by omega), h.more, fun b e hb => h.cbs b e (hs b e hb), h.size, h.frame⟩
theorem zero_weak (tl : AM) : MW (zeroTB :: tl) (treeB zt :: tl) :=
 PW.cons ⟨PW.cons (CW.refl _) (PW.cons CW.nil (PW.cons (CW.refl _) (PW.cons (CW.refl _) (PW.cons CW.nil PW.nil)))), rfl, rfl, rfl, rfl⟩ (MW.refl tl)
theorem parse_end {w w' : World} {S S' : Nat → Prop} {γ' : Gh} {a' : Act} {μ : AM} {f : AF} (t : Tree) (n : Int) (hE : ExtM 0 w S (fun _ => none) w' S' γ') (hW : Wd ctx w S' γ' μ w') (hF : FR [] 35 w' S' γ' f a') (hs : Sub slots f) (hm : ∃ junk, μ = [treeB t, errB n] ++ junk) :
  ∃ u, (results Tryz.f28 a'.tmps).run Tryz.prog w' = .ok u w' ∧ ∃ v, Ending.returned u = .returned v ∧ Below w.heap.size w w' ∧ Is w' (fun g => S g ∨ (w.heap.size ≤ g ∧ g < w'.heap.size)) (.tup [treeP t, .int .i64 n]) v := by
 obtain ⟨h2, h3, -⟩ := hs
 obtain ⟨junk, rfl⟩ := hm
 have he : RetE (.pv (.tup [treeP t, .int .i64 n])) (evResult f ([treeB t, errB n] ++ junk) [.cell 2 5 true, .cell 3 1 false]) := by
  simp only [RetE, evResult, go_sem, h2, h3, treeB, errB, List.cons_append, List.nil_append]
  exact ⟨by simp [VCs], rfl⟩
 unfold RetE at he
 split at he
 ·rename_i vc v e1
  obtain ⟨e2, rfl⟩ := he
  obtain ⟨u, hu, hv⟩ := run_result (fn := Tryz.f28) hW (hF : FR ctx.D 35 w' S' γ' f a') (by kernel_rfl) e1 e2
  refine ⟨u, hu, u, rfl, hW.below, (thaw_is hW depth (p := .tup [treeP t, .int .i64 n]) rfl hv).stay ⟨fun g hg => ?_, fun _ _ => rfl⟩⟩
  rcases hg with hg | ⟨b, e, he, rfl⟩
  ·rcases hE.more g hg with h | ⟨b, e, h, -⟩ | h
   ·exact .inl h
   ·cases h
   ·exact .inr ⟨h, hW.live g hg⟩
  ·rcases hE.cbs b e he with ⟨b0, e0, h, -⟩ | h
   ·cases h
   ·exact .inr ⟨h, hW.cb_lt he⟩
 ·exact he.elim
set_option maxHeartbeats 1000000 in
theorem parse_ok (s : List UInt8) (hs : s.length ≤ 4000000000) : PureOK ctx 28 [.str s] (.tup [treeP (parseN s).1, .int .i64 (parseN s).2]) := by
 refine ⟨by kernel_rfl, fun w S us hE hS hp => ?_⟩
 have hW : Wd ctx w S (fun _ => none) [] w := ⟨⟨fun b k hk => by simp at hk, fun b k hk => by simp at hk, fun _ _ => rfl, fun b b' e e' h => by cases h⟩, Below.refl _ _, hS, hE⟩
 have hpv : PW (VR w S (fun _ => none)) ([PV.str s].map .pv) us := PW.map_pv hp
 have hus : us.length ≤ 35 := by rw [← hp.len]; simp
 refine calls_of_wp_defers Tryz.func28 rfl (wp_seq ?_)
 refine wp_mono (head_aw s _ comp28a w S (fun _ => none) w _ hW (entry_fr (fn := Tryz.f28) hpv hus)) fun e1 a1 w1 hh => ?_
 obtain ⟨S1, γ1, f1, μ1, x1, x2, x3, rfl, hs1, rfl⟩ := hh
 refine wp_seq ?_
 refine wp_mono (aw_frame _ hs1 (len_aw s hs) _ comp28b w S1 γ1 w1 a1 x2 x3) fun e2 a2 w2 hh => ?_
 obtain ⟨S2, γ2, f2, μ2, y1, y2, y3, hy⟩ := hh
 rcases hy with ⟨rfl, hlen, hs2, rfl⟩ | ⟨rfl, hlen, hs2, rfl⟩
 ·show Code.wp Tryz.prog _ _ _ _
  have hmf : ∀ (fn : Go.Fn) (first cap : Array Value) (w : World), (Instr.makeFunc fn first cap).run Tryz.prog w = .ok (.func fn first cap) w := fun _ _ _ _ => rfl
  obtain ⟨tm, df⟩ := a2
  have hsz : tm.size = 35 := y3.size
  obtain rfl : df = [] := y3.defers
  iterate 9 (go_step <;> try go_simp)
  obtain ⟨h0, h2, h3, -⟩ := hs2
  have v0 := y3.val 0
  have v2 := y3.val 2
  have v3 := y3.val 3
  rw [h0] at v0
  rw [h2] at v2
  rw [h3] at v3
  have hE12 := x1.trans y1.lower
  have hc54 : callable ctx.P 54 = true := by kernel_rfl
  generalize hD : ([{ target := Target.fn (Go.Fn.func 54) #[tm[2], tm[3]], args := #[] }] : List Deferred) = D
  refine wp_mono (main_aw D s hlen _ comp28d w S2 γ2 w2 _ ⟨y2.mem, y2.below, y2.live, y2.env⟩ ⟨by simp [hsz], rfl, fun t => ?_⟩) fun e3 a3 w3 hh => ?_
  ·match t with
   | 0 => simpa [Act.eval, get, Nat.beq] using v0
   | 1 => exact .any _
   | 2 => simpa [Act.eval, get, Nat.beq] using v2
   | 3 => simpa [Act.eval, get, Nat.beq] using v3
   | t + 4 => exact .any _
  obtain ⟨S3, γ3, f3, μ3, z1, z2, z3, z4⟩ := hh
  have w2' : VR w2 S2 γ2 (.ptr 0 0 0) tm[2] := by simpa [Act.eval, hsz] using v2
  have w3' : VR w2 S2 γ2 (.ptr 1 0 0) tm[3] := by simpa [Act.eval, hsz] using v3
  have hE3 : Ext w2 S2 γ2 w3 S3 γ3 := ⟨z1.stay, fun b e hb => z1.gh b e (Nat.lt_of_not_le fun h => by rw [y2.mem.none b (by simpa using h)] at hb; cases hb) hb, z1.more, z1.cbs, z1.size, z1.frame⟩
  cases e3 with
  | ret =>
   obtain ⟨k1, k2, k3⟩ := z4
   show Leaves _ _ _ _ a3.defers _ _
   rw [show a3.defers = D from z3.defers, ← hD]
   refine leaves_cons (f := 54) (args := #[tm[2], tm[3]]) (by simp) (by simp [go_sem]; exact run_callFunc hc54 _) ?_
   refine (catch_idle _ _ w3).mono ?_
   rintro e u' w'' ⟨rfl, rfl, rfl⟩
   have := parse_end (a' := { a3 with defers := [] }) (parseN s).1 0 (hE12.trans z1.lower) ⟨z2.mem, z2.below, z2.live, z2.env⟩ ⟨z3.size, rfl, z3.val⟩ k1 k3
   rw [k2]
   exact this
  | panic c =>
   obtain ⟨rfl, k1, k2, a, b, c, d, e, n, junk, rfl⟩ := z4
   show Leaves _ _ _ _ a3.defers _ _
   rw [show a3.defers = D from z3.defers, ← hD]
   refine leaves_cons (f := 54) (args := #[tm[2], tm[3]]) (by simp [wrongE]) (by simp [go_sem]; exact run_callFunc hc54 _) ?_
   have hγ : ∀ b, b < 2 → lowGh γ3 2 b = γ3 b := fun b h => by simp [lowGh, h]
   have hW3 : Wd ctx w S3 γ3 ([tcB a b c d e, errB n] ++ junk) w3 := ⟨z2.mem, z2.below, z2.live, z2.env⟩
   refine (catch_wrong _ _ a b c d e n (hW3.drop (by rfl)) (bnd_vr hγ 3 rfl (w2'.ext hE3)) (bnd_vr hγ 3 rfl (w3'.ext hE3))).mono ?_
   rintro e u' w4 ⟨rfl, rfl, S4, γ4, junk4, j1, j2⟩
   have := parse_end (a' := { a3 with defers := [] }) (f := slots) zt 3 (((hE12.trans z1.lower).low fun b e h => ?_).trans (j1.toM 0)) (j2.weak (zero_weak _)) ⟨z3.size, rfl, fun t => ?_⟩ (by (repeat' (first | exact trivial | refine And.intro (by first | rfl | (simp [get, Nat.beq, slots]; done) | (simp [get, Nat.beq, slots]; omega) | (dsimp only [get]; congr 1 <;> first | rfl | omega | (simp; done) | (simp; omega))) ?_))) ⟨_, rfl⟩
   ·rw [k1]
    exact this
   ·unfold lowGh at h
    split at h
    ·exact h
    ·cases h
   ·obtain ⟨q2, q3, -⟩ := k2
    have u2 := z3.val 2
    have u3 := z3.val 3
    rw [q2] at u2
    rw [q3] at u3
    match t with
    | 0 => exact .any _
    | 1 => exact .any _
    | 2 => exact (bnd_vr hγ 3 rfl u2).ext j1
    | 3 => exact (bnd_vr hγ 3 rfl u3).ext j1
    | t + 4 => exact .any _
  | _ => exact z4.elim
 ·show Leaves _ _ _ _ _ _ _
  rw [show a2.defers = [] from y3.defers]
  obtain ⟨u, hu, hR⟩ := parse_end (w := w) (S := S) (a' := { a2 with defers := [] }) zt 8 (x1.trans (ExtM.lower y1)) (y2.weak (zero_weak _)) ⟨y3.size, rfl, y3.val⟩ hs2 ⟨[], rfl⟩
  refine ⟨u, hu, ?_⟩
  have e : parseN s = (zt, 8) := by unfold parseN; rw [if_pos (by omega)]
  rw [e]
  exact hR
end Pur
end Go.Proofs.YtaleoeblooeglaaGreatDoor
namespace Go.Proofs.YtaleoeblooeglaaGreatDoor
namespace Rf
theorem decFrom_cat : ∀ (l : List UInt8) (acc : Nat) (r : List UInt8), Lib.decFrom acc (l ++ r) = match Lib.decFrom acc l with | some m => Lib.decFrom m r | none => none
 | [], acc, r => by simp [Lib.decFrom]
 | c :: l, acc, r => by
  simp only [List.cons_append, Lib.decFrom]
  cases Lib.digitVal c with
  | none => rfl
  | some d => exact decFrom_cat l _ r
theorem dig_val (d : Nat) (hd : d < 10) : Lib.digitVal (UInt8.ofNat (48 + d)) = some d := by
 have : (UInt8.ofNat (48 + d)).toNat = 48 + d := UInt8.toNat_ofNat_of_lt' (by have : UInt8.size = 256 := rfl; omega)
 rw [Lib.digitVal, this, if_pos (by omega)]
 congr 1
 omega
theorem dec_digits : ∀ u : Nat, Lib.decFrom 0 (Lib.decDigits u) = some u := by
 intro u
 induction u using Nat.strongRecOn with
 | _ u ih =>
  rw [Lib.decDigits]
  split
  ·rename_i h
   simp only [Lib.decFrom, dig_val u h]
   simp
  ·rename_i h
   rw [decFrom_cat, ih (u / 10) (by omega)]
   simp only [Lib.decFrom, dig_val (u % 10) (by omega)]
   congr 1
   omega
theorem head_digits (u : Nat) : (Lib.decDigits u).head? ≠ some 45 ∧ Lib.decDigits u ≠ [] := by
 have hne : Lib.decDigits u ≠ [] := fun h => by
  have := Lib.decDigits_length u
  rw [h] at this
  have := Lib.nDigits_pos u
  simp at *
  omega
 refine ⟨fun h => ?_, hne⟩
 have h0 : (Lib.decDigits u)[0]? = some 45 := by rw [← List.head?_eq_getElem?]; exact h
 obtain ⟨d, hd⟩ := Lib.digit_of_decFrom _ 0 u (dec_digits u) 0 45 h0
 simp [Lib.digitVal] at hd
theorem decFrom_ge : ∀ (l : List UInt8) (acc m : Nat), Lib.decFrom acc l = some m → acc ≤ m
 | [], acc, m, h => by simp [Lib.decFrom] at h; omega
 | c :: r, acc, m, h => by
  simp only [Lib.decFrom] at h
  split at h
  ·have := decFrom_ge r _ m h
   omega
  ·cases h
theorem parse_dec : ∀ (l : List UInt8) (acc m : Nat), Lib.decFrom acc l = some m → m < 1000000000000000000 → Lib.parseUint10 acc l = .ok m
 | [], acc, m, h, _ => by simp [Lib.decFrom] at h; rw [Lib.parseUint10, h]
 | c :: r, acc, m, h, hm => by
  simp only [Lib.decFrom] at h
  split at h
  ·rename_i d hd
   obtain ⟨h1, h2, h3⟩ := Lib.digitVal_eq hd
   have hge := decFrom_ge r _ m h
   rw [Lib.parseUint10, if_pos ⟨h1, h2⟩, if_neg (by omega), if_neg (by omega), ← h3]
   exact parse_dec r _ m h hm
  ·cases h
theorem atoi_itoa {v : Int} (h : -100000000 ≤ v ∧ v ≤ 100000000) : Lib.atoiAll (Lib.itoa v) = .ok v := by
 have hp := parse_dec _ 0 _ (dec_digits v.natAbs) (by omega)
 obtain ⟨h1, h2⟩ := head_digits v.natAbs
 have hm : Lib.parseMag (Lib.decDigits v.natAbs) = .ok v.natAbs := by rw [Lib.parseMag, if_neg h2, hp]
 unfold Lib.itoa
 split
 ·rename_i hv
  simp only [Lib.atoiAll]
  rw [if_pos (.inr (by decide)), hm]
  simp only
  rw [if_neg (by simp), if_neg (by omega), if_pos (by decide)]
  congr 1
  omega
 ·rename_i hv
  have e : v.toNat = v.natAbs := by omega
  rw [e]
  cases hd : Lib.decDigits v.natAbs with
  | nil => exact absurd hd h2
  | cons c r =>
   obtain ⟨d, hdd⟩ := Lib.digit_of_decFrom _ 0 _ (dec_digits v.natAbs) 0 c (by rw [hd]; rfl)
   obtain ⟨g1, g2, g3⟩ := Lib.digitVal_eq hdd
   simp only [Lib.atoiAll]
   rw [if_neg (by omega), ← hd, hm]
   simp only
   rw [if_neg (by omega), if_neg (by omega), if_neg (by omega)]
   congr 1
   omega
theorem numR_itoa {v : Int} (h : -100000000 ≤ v ∧ v ≤ 100000000) : numR (Lib.itoa v) = some v := by
 unfold numR
 rw [atoi_itoa h]
theorem digits_ok : ∀ (u : Nat), ∀ x ∈ Lib.decDigits u, x ≠ 10 ∧ x ≠ 32 := by
 have one : ∀ d, d < 10 → (UInt8.ofNat (48 + d) ≠ 10 ∧ UInt8.ofNat (48 + d) ≠ 32) := by decide
 intro u
 induction u using Nat.strongRecOn with
 | _ u ih =>
  intro x hx
  rw [Lib.decDigits] at hx
  split at hx
  ·rename_i h
   simp only [List.mem_singleton] at hx
   subst hx
   exact one u h
  ·rename_i h
   rcases List.mem_append.mp hx with hx | hx
   ·exact ih (u / 10) (by omega) x hx
   ·simp only [List.mem_singleton] at hx
    subst hx
    exact one _ (Nat.mod_lt _ (by omega))
theorem itoa_ok (n : Int) : ∀ x ∈ Lib.itoa n, x ≠ 10 ∧ x ≠ 32 := by
 unfold Lib.itoa
 split
 ·intro x hx
  rcases List.mem_cons.mp hx with rfl | hx
  ·decide
  ·exact digits_ok _ x hx
 ·exact digits_ok _
theorem spC_plain {c : UInt8} : ∀ (w : List UInt8), (∀ x ∈ w, x ≠ c) → spC c w = [w]
 | [], _ => rfl
 | x :: r, h => by
  have hx := h x (by simp)
  rw [spC, if_neg hx, spC_plain r fun y hy => h y (by simp [hy])]
theorem spC_cut {c : UInt8} : ∀ (w : List UInt8), (∀ x ∈ w, x ≠ c) → ∀ r, spC c (w ++ c :: r) = w :: spC c r
 | [], _, r => by rw [List.nil_append, spC, if_pos rfl]
 | x :: w, h, r => by
  have hx := h x (by simp)
  rw [List.cons_append, spC, if_neg hx, spC_cut w (fun y hy => h y (by simp [hy])) r]
theorem spC_lines {c : UInt8} : ∀ (ls : List (List UInt8)), (∀ w ∈ ls, ∀ x ∈ w, x ≠ c) → spC c (ls.flatMap fun w => w ++ [c]) = ls ++ [[]]
 | [], _ => rfl
 | w :: r, h => by
  rw [List.flatMap_cons, List.append_assoc, List.singleton_append, spC_cut w (h w (by simp)), spC_lines r fun x hx => h x (by simp [hx])]
  rfl
def stepL (x : RStep) : Ln := (if x.kind = 1 then wGraph else wRow) ++ 32 :: (Lib.itoa x.index ++ 32 :: Lib.itoa x.cell)
def tailL (k c a : Int) (n : Nat) : Ln := if k = 1 then wSplit ++ 32 :: (Lib.itoa c ++ 32 :: Lib.itoa a) else if k = 2 then wCases ++ 32 :: Lib.itoa n else wClosed
def lnT : Tree → List Ln
 | .node k s c a l => s.map stepL ++ [tailL k c a l.length] ++ (l.attach.map fun x => lnT x.1).flatten
decreasing_by
 have := List.sizeOf_lt_of_mem x.2
 simp
 omega
theorem lnT_node (k : Int) (s : List RStep) (c a : Int) (l : List Tree) : lnT (.node k s c a l) = s.map stepL ++ tailL k c a l.length :: l.flatMap lnT := by
 rw [lnT, attach_map, List.flatMap_def, List.append_assoc, List.singleton_append]
theorem wRow_ok : ∀ x ∈ wRow, x ≠ 10 ∧ x ≠ 32 := by decide
theorem wGraph_ok : ∀ x ∈ wGraph, x ≠ 10 ∧ x ≠ 32 := by decide
theorem wSplit_ok : ∀ x ∈ wSplit, x ≠ 10 ∧ x ≠ 32 := by decide
theorem wCases_ok : ∀ x ∈ wCases, x ≠ 10 ∧ x ≠ 32 := by decide
theorem wClosed_ok : ∀ x ∈ wClosed, x ≠ 10 ∧ x ≠ 32 := by decide
theorem line2 {w : Ln} (hw : ∀ x ∈ w, x ≠ 10 ∧ x ≠ 32) {a b : Int} (ha : -100000000 ≤ a ∧ a ≤ 100000000) (hb : -100000000 ≤ b ∧ b ≤ 100000000) : lineR (w ++ 32 :: (Lib.itoa a ++ 32 :: Lib.itoa b)) = some (w, [a, b]) := by
 unfold lineR
 rw [spC_cut w fun x hx => (hw x hx).2, spC_cut _ fun x hx => (itoa_ok a x hx).2, spC_plain _ fun x hx => (itoa_ok b x hx).2]
 simp only [numsR, numR_itoa ha, numR_itoa hb]
theorem line1 {w : Ln} (hw : ∀ x ∈ w, x ≠ 10 ∧ x ≠ 32) {a : Int} (ha : -100000000 ≤ a ∧ a ≤ 100000000) : lineR (w ++ 32 :: Lib.itoa a) = some (w, [a]) := by
 unfold lineR
 rw [spC_cut w fun x hx => (hw x hx).2, spC_plain _ fun x hx => (itoa_ok a x hx).2]
 simp only [numsR, numR_itoa ha]
theorem line0 {w : Ln} (hw : ∀ x ∈ w, x ≠ 10 ∧ x ≠ 32) : lineR w = some (w, []) := by
 unfold lineR
 rw [spC_plain w fun x hx => (hw x hx).2]
 rfl
theorem insideB_iff (n lo hi : Int) : Pur.insideB n lo hi = true ↔ lo ≤ n ∧ n ≤ hi := by simp [Pur.insideB]
theorem steps_read (lev : Int) : ∀ (s : List RStep), (∀ x ∈ s, rstepOk x = true) → ∀ (f : Nat) (S : List RStep) (X : List Ln), s.length ≤ f → nodeF f lev S (s.map stepL ++ X) = nodeF (f - s.length) lev (S ++ s) X
 | [], _, f, S, X, _ => by simp
 | x :: r, h, f, S, X, hf => by
  obtain ⟨g, rfl⟩ : ∃ g, f = g + 1 := ⟨f - 1, by simp at hf; omega⟩
  have hx := h x (by simp)
  simp only [rstepOk, Bool.and_eq_true, insideB_iff] at hx
  obtain ⟨⟨hk, hi⟩, hc⟩ := hx
  have hc2 : -100000000 ≤ x.cell ∧ x.cell ≤ 100000000 := by split at hc <;> omega
  have ih := steps_read lev r (fun y hy => h y (by simp [hy])) g (S ++ [x]) X (by simp at hf; omega)
  rw [List.map_cons, List.cons_append, nodeF]
  have he : g + 1 - (x :: r).length = g - r.length := by simp
  rw [he, show S ++ x :: r = S ++ [x] ++ r by simp, ← ih]
  obtain ⟨k, i, c⟩ := x
  simp only at hk hi hc hc2
  by_cases h1 : k = 1
  ·subst h1
   have hl : lineR (stepL ⟨1, i, c⟩) = some (wGraph, [i, c]) := line2 wGraph_ok (a := i) (b := c) (by omega) hc2
   rw [hl]
   simp only
   rw [if_neg (by rintro ⟨h, _⟩; revert h; decide), if_pos (by first | exact ⟨rfl, rfl⟩ | simp)]
   rfl
  ·obtain rfl : k = 0 := by omega
   have hl : lineR (stepL ⟨0, i, c⟩) = some (wRow, [i, c]) := line2 wRow_ok (a := i) (b := c) (by omega) hc2
   rw [hl]
   simp only
   rw [if_pos (by first | exact ⟨rfl, rfl⟩ | simp)]
   rfl
theorem kids_read {tf : List Ln → Option (Tree × List Ln)} : ∀ (l : List Tree) (rest : List Ln), (∀ t ∈ l, ∀ rest, tf (lnT t ++ rest) = some (t, rest)) → kidsG tf l.length (l.flatMap lnT ++ rest) = some (l, rest)
 | [], rest, _ => rfl
 | t :: r, rest, h => by
  rw [List.length_cons, kidsG, List.flatMap_cons, List.append_assoc, h t (by simp)]
  simp only
  rw [kids_read r rest fun x hx => h x (by simp [hx])]
theorem lnT_kid {l : List Tree} {t : Tree} (h : t ∈ l) : (lnT t).length ≤ (l.flatMap lnT).length := by
 induction l with
 | nil => cases h
 | cons x r ih =>
  rw [List.flatMap_cons, List.length_append]
  cases h with
  | head => omega
  | tail _ h => have := ih h; omega
theorem depth_kid {l : List Tree} {t : Tree} (h : t ∈ l) : depthN t ≤ depthNs l := by
 induction l with
 | nil => cases h
 | cons x r ih =>
  rw [depthNs]
  cases h with
  | head => omega
  | tail _ h => have := ih h; omega
theorem read_tree : ∀ (t : Tree), formedB t = true → ∀ (lev : Int) (rest : List Ln) (f : Nat), lev + depthN t ≤ 4097 → (lnT t).length ≤ f → nodeF f lev [] (lnT t ++ rest) = some (t, rest) := by
 refine Tree.ind fun k s c a l ih hfo lev rest f hd hf => ?_
 rw [formedB_node, Bool.and_eq_true, Bool.and_eq_true] at hfo
 obtain ⟨⟨h1, h2⟩, h3⟩ := hfo
 rw [lnT_node] at hf ⊢
 rw [depthN_node] at hd
 simp only [List.length_append, List.length_map, List.length_cons] at hf
 rw [List.append_assoc, List.cons_append, steps_read lev s (fun x hx => by simpa using List.all_eq_true.mp h1 x hx) f [] _ (by omega), List.nil_append]
 obtain ⟨g, hg⟩ : ∃ g, f - s.length = g + 1 := ⟨f - s.length - 1, by omega⟩
 rw [hg, nodeF]
 have hk : ∀ t ∈ l, ∀ rest, (fun x => if lev + 1 ≤ 4096 then nodeF g (lev + 1) [] x else none) (lnT t ++ rest) = some (t, rest) := fun t ht rest => by
  have d1 := depth_kid ht
  have d2 := lnT_kid ht
  have d3 : 1 ≤ depthN t := by cases t; rw [depthN_node]; omega
  simp only
  rw [if_pos (by omega)]
  exact ih t ht (List.all_eq_true.mp h3 t ht) (lev + 1) rest g (by omega) (by omega)
 have hkr := kids_read (tf := fun x => if lev + 1 ≤ 4096 then nodeF g (lev + 1) [] x else none) l rest hk
 unfold Rf.tailOk at h2
 by_cases k0 : k = 0
 ·subst k0
  rw [if_pos rfl, Bool.and_eq_true, Bool.and_eq_true] at h2
  obtain ⟨⟨q1, q2⟩, q3⟩ := h2
  have q1 := of_decide_eq_true q1
  have q2 := of_decide_eq_true q2
  have q3 := of_decide_eq_true q3
  obtain rfl : l = [] := List.eq_nil_of_length_eq_zero q1
  subst q2 q3
  rw [tailL, if_neg (by decide), if_neg (by decide), line0 wClosed_ok]
  simp only
  rw [if_neg (by rintro ⟨h, _⟩; revert h; decide), if_neg (by rintro ⟨h, _⟩; revert h; decide), if_pos (by first | exact ⟨rfl, rfl⟩ | simp)]
  rfl
 ·rw [if_neg k0] at h2
  by_cases k1 : k = 1
  ·subst k1
   rw [if_pos rfl, Bool.and_eq_true, Bool.and_eq_true, insideB_iff, insideB_iff] at h2
   obtain ⟨⟨q1, q2⟩, q3⟩ := h2
   have q1 := of_decide_eq_true q1
   rw [q1] at hkr
   rw [tailL, if_pos rfl, line2 wSplit_ok (by omega) (by omega)]
   simp only
   rw [if_neg (by rintro ⟨h, _⟩; revert h; decide), if_neg (by rintro ⟨h, _⟩; revert h; decide), if_neg (by rintro ⟨h, _⟩; revert h; decide), if_pos (by first | exact ⟨rfl, rfl⟩ | simp), hkr]
   rfl
  ·rw [if_neg k1] at h2
   by_cases k2 : k = 2
   ·subst k2
    rw [if_pos rfl, Bool.and_eq_true, Bool.and_eq_true, Bool.and_eq_true] at h2
    obtain ⟨⟨⟨q0, q1⟩, q2⟩, q3⟩ := h2
    have q0 := of_decide_eq_true q0
    have q1 := of_decide_eq_true q1
    have q2 := of_decide_eq_true q2
    have q3 := of_decide_eq_true q3
    subst q2 q3
    rw [tailL, if_neg (by decide), if_pos rfl, line1 wCases_ok (by omega)]
    simp only
    rw [if_neg (by rintro ⟨h, _⟩; revert h; decide), if_neg (by rintro ⟨h, _⟩; revert h; decide), if_neg (by rintro ⟨h, _⟩; revert h; decide), if_neg (by rintro ⟨h, _⟩; revert h; decide), if_pos (by simp; omega)]
    rw [show (([(l.length : Int)] : List Int).getD 0 0).toNat = l.length from Int.toNat_natCast _, hkr]
   ·rw [if_neg k2] at h2
    cases h2
theorem stepL_text (x : RStep) : rstT x = stepL x ++ [10] := by
 unfold rstT stepL
 split <;> simp [wGraph, wRow]
theorem tailL_text (k c a : Int) (n : Nat) : tailT k c a n = tailL k c a n ++ [10] := by
 unfold tailT tailL
 split
 ·simp [wSplit]
 ·split <;> simp [wCases, wClosed]
theorem text_lines : ∀ t : Tree, textN t = (lnT t).flatMap fun w => w ++ [10] := by
 refine Tree.ind fun k s c a l ih => ?_
 have h1 : ∀ s : List RStep, (s.map rstT).flatten = (s.map stepL).flatMap fun w => w ++ [10] := fun s => by
  induction s with
  | nil => rfl
  | cons x r ihr => rw [List.map_cons, List.flatten_cons, List.map_cons, List.flatMap_cons, ihr, stepL_text]
 have h2 : ∀ l : List Tree, (∀ t ∈ l, textN t = (lnT t).flatMap fun w => w ++ [10]) → (l.map textN).flatten = (l.flatMap lnT).flatMap fun w => w ++ [10] := fun l => by
  induction l with
  | nil => intro _; rfl
  | cons x r ihr =>
   intro h
   rw [List.map_cons, List.flatten_cons, List.flatMap_cons, List.flatMap_append, h x (by simp), ihr fun t ht => h t (by simp [ht])]
 rw [textN_node, lnT_node, List.flatMap_append, List.flatMap_cons, h1, h2 l ih, tailL_text, List.append_assoc]
theorem lines_ok : ∀ t : Tree, ∀ w ∈ lnT t, ∀ x ∈ w, x ≠ 10 := by
 have two : ∀ (w : Ln) (a b : Int), (∀ x ∈ w, x ≠ 10 ∧ x ≠ 32) → ∀ x ∈ w ++ 32 :: (Lib.itoa a ++ 32 :: Lib.itoa b), x ≠ 10 := fun w a b hw x hx => by
  simp only [List.mem_append, List.mem_cons] at hx
  rcases hx with h | rfl | h | rfl | h
  ·exact (hw x h).1
  ·decide
  ·exact (itoa_ok a x h).1
  ·decide
  ·exact (itoa_ok b x h).1
 refine Tree.ind fun k s c a l ih w hw => ?_
 rw [lnT_node, List.mem_append, List.mem_cons] at hw
 rcases hw with hw | rfl | hw
 ·obtain ⟨x, -, rfl⟩ := List.mem_map.mp hw
  unfold stepL
  split
  ·exact two _ _ _ wGraph_ok
  ·exact two _ _ _ wRow_ok
 ·unfold tailL
  split
  ·exact two _ _ _ wSplit_ok
  ·split
   ·intro x hx
    simp only [List.mem_append, List.mem_cons] at hx
    rcases hx with h | rfl | h
    ·exact (wCases_ok x h).1
    ·decide
    ·exact (itoa_ok _ x h).1
   ·exact fun x hx => (wClosed_ok x hx).1
 ·obtain ⟨t, ht, hw⟩ := List.mem_flatMap.mp hw
  exact ih t ht w hw
theorem text_split (t : Tree) : spC 10 (textN t) = lnT t ++ [[]] := by
 rw [text_lines, spC_lines _ (lines_ok t)]
theorem parse_text (t : Tree) (hv : validB t = true) (hl : (textN t).length ≤ 65536) : parseN (textN t) = (t, 0) := by
 unfold validB at hv
 rw [Bool.and_eq_true, Bool.and_eq_true] at hv
 obtain ⟨⟨h1, h2⟩, h3⟩ := hv
 have h1' := of_decide_eq_true h1
 have hr : treeF ((spC 10 (textN t)).length + 1) 1 (spC 10 (textN t)) = some (t, [[]]) := by
  rw [treeF, if_pos (by omega), text_split]
  exact read_tree t h3 1 [[]] _ (by omega) (by simp; omega)
 have hf : Pur.formatN t = (textN t, 0) := by
  unfold Pur.formatN
  rw [if_pos (by unfold validB; rw [h1, h2, h3]; rfl), if_neg (by omega)]
 unfold parseN
 rw [if_neg (by omega), hr]
 simp only
 rw [if_pos hf]
theorem format_parse {s : List UInt8} {t : Tree} (h : parseN s = (t, 0)) : Pur.formatN t = (s, 0) ∧ validB t = true ∧ wt t ≤ 65536 := by
 have h1 : Pur.formatN t = (s, 0) := by
  unfold parseN at h
  split at h
  ·cases h
  ·split at h
   ·split at h
    ·rename_i hf
     injection h with h _
     subst h
     exact hf
    ·cases h
   ·cases h
 have h2 : validB t = true := by
  unfold Pur.formatN at h1
  split at h1
  ·assumption
  ·cases h1
 refine ⟨h1, h2, ?_⟩
 unfold validB at h2
 rw [Bool.and_eq_true, Bool.and_eq_true] at h2
 exact of_decide_eq_true h2.1.2
end Rf
end Go.Proofs.YtaleoeblooeglaaGreatDoor
namespace Go.Proofs.YtaleoeblooeglaaGreatDoor
namespace Rf
def digB (c : UInt8) : Bool := decide (48 ≤ c.toNat) && decide (c.toNat ≤ 57)
def numD : Nat → Int → List UInt8 → Int × Nat
 | k + 1, n, c :: r => if digB c then ((numD k (n * 10 + ((c.toNat : Int) - 48)) r).1, (numD k (n * 10 + ((c.toNat : Int) - 48)) r).2 + 1) else (n, 0)
 | _, n, _ => (n, 0)
def startN (x : List UInt8) : Nat := match x with
 | c :: _ => if c = 45 then 1 else 0
 | [] => 0
def nextDig (x : List UInt8) (i : Nat) : Bool := decide (i < x.length) && digB (x.getD i 0)
def numN (x : List UInt8) : Int × Nat :=
 let st := startN x
 let q := numD 9 0 (x.drop st)
 let v := if st = 1 then -q.1 else q.1
 if q.2 = 0 ∨ Lib.itoa v ≠ x.take (st + q.2) ∨ nextDig x (st + q.2) = true then (0, 0) else (v, st + q.2)
def bd9 : Nat → Int
 | 0 => 0
 | k + 1 => bd9 k * 10 + 9
theorem bd9_le {k : Nat} (h : k ≤ 9) : bd9 k ≤ 999999999 := by
 match k, h with
 | 0, _ | 1, _ | 2, _ | 3, _ | 4, _ | 5, _ | 6, _ | 7, _ | 8, _ | 9, _ => decide
theorem bd9_8 {k : Nat} (h : k < 9) : bd9 k ≤ 99999999 := by
 match k, h with
 | 0, _ | 1, _ | 2, _ | 3, _ | 4, _ | 5, _ | 6, _ | 7, _ | 8, _ => decide
end Rf
namespace Pur
open Go.RowKit
attribute [local go_sem] evOps evOp evOpV evRun evK argF List.map hintAt stripped get put tmpsOf tmpOf tmpO tmpL tmpP conds ev cond_true cond_false Nat.beq Nat.ble Nat.add quiet After thenR blockR IfD List.append_eq List.nil_append List.cons_append evInt exactI_a exactI_b exactI_c exactI_d exactI_e exactI_f evBin evStr evBool evUn guardC calm quiet.isCallK evPick List.getElem?_cons_zero List.getElem?_cons_succ fromCells fromPVs cellsOf List.all oneCell List.length_cons List.length_nil mkAgg plains List.drop List.take List.getD Option.getD_some bo1 bo2 ba1 ba2 bn1 bn2 kk_i64 kk_u8 kk_i32 kk_u64 setAt List.set Nat.reduceAdd Nat.reduceMul evCall safeCall refsOf refsIn scalarA scalar scalarL thawL mapAll thawArg thawRef after freeze RetD RetE evResult evRess evRes1 thaw_pv mkTup nilOf_a nilOf_b nilOf_bb nilOf_c nilOf_d nilOf_e nilOf_f nilOf_g nilOf_h nilOf_i nilOf_j nilOf_k nilOf_l nilOf_m eqLeaf_a eqLeaf_b eqLeaf_c eqOffs evMM bytesOf evOpsF AfterF footOf footRefs notIn indepF footAt freeOk still evParts fillA zeros intOfA boundA srcOf List.isEmpty appNil_0 appNil_1 appNil_2 Int.reduceToNat Nat.mul_one Nat.reduceSub evC evOpsT evOpsTF autoH tabHint look hintD strip guarded RetPD RetRD mpLen keysOk leafKA leafK bitI nilOf_n nilOf_o Bool.or_false Bool.or_true Bool.and_true Bool.and_false Nat.blt renF renM renB renV idxOf solF solM solA solV thawRef ev1
open Rf
def c118 : ACode := (⟨_, by conv => (lhs; reduce; try simp only [lt1, Int.cast_ofNat_Int, Int.reduceNegSucc, UInt8.reduceOfNat])⟩ : {x // codeOf Tryz.prog 118 (fun _ => false) = some x}).1
theorem fn118 : fnOf Tryz.prog 118 (fun _ => false) = some (c118, [.t 2, .t 3], 83, true) := by kernel_rfl
def c118l : ACode := (⟨_, by conv => (lhs; reduce; try simp only [lt1, Int.cast_ofNat_Int, Int.reduceNegSucc, UInt8.reduceOfNat])⟩ : {x // (codeOf Tryz.prog 118 (fun _ => false)).map (fun y => y.sub [1, 1, 1, 1, 1]) = some x}).1
set_option maxHeartbeats 4000000 in
theorem number_loop (x : List UInt8) (hx : x.length ≤ 1000000) (st : Nat) (hst : st ≤ x.length) (h1 : st ≤ 1) {R : Exit → AF → AM → Prop}
    (hend : ∀ f, Sub [(0, .pv (.str x)), (4, .pv (.int .i64 (st + (numD 9 0 (x.drop st)).2 : Nat))), (5, .pv (.int .i64 (numD 9 0 (x.drop st)).1)), (6, .pv (.int .i64 st))] f → (numD 9 0 (x.drop st)).2 ≤ 9 → st + (numD 9 0 (x.drop st)).2 ≤ x.length → 0 ≤ (numD 9 0 (x.drop st)).1 → (numD 9 0 (x.drop st)).1 ≤ 999999999 → R .normal f []) :
    Aw ctx (fun _ => false) 83 0 (c118l.sub [0]) R [(0, .pv (.str x)), (4, .pv (.int .i64 st)), (5, .pv (.int .i64 0)), (6, .pv (.int .i64 st))] [] := by
  unfold c118l
  simp only [ACode.sub]
  refine aw_block ?_
  generalize hq : numD 9 0 (x.drop st) = q at *
  obtain ⟨m, j⟩ := q
  simp only at hend
  refine aw_loopJ (σ := Nat × Int) (fun s => st ≤ s.1 ∧ s.1 ≤ x.length ∧ s.1 ≤ st + 9 ∧ 0 ≤ s.2 ∧ s.2 ≤ bd9 (s.1 - st) ∧ ∃ j', numD (st + 9 - s.1) s.2 (x.drop s.1) = (m, j') ∧ s.1 + j' = st + j) (fun s => [(0, .pv (.str x)), (4, .pv (.int .i64 s.1)), (5, .pv (.int .i64 s.2)), (6, .pv (.int .i64 st))]) (fun _ => []) (fun s => x.length - s.1) (st, 0) ⟨Nat.le_refl _, hst, by omega, Int.le_refl _, by simp [bd9], j, by simpa using hq, rfl⟩ (by (repeat' (first | exact trivial | refine And.intro (by first | rfl | (simp [get, Nat.beq]; done) | (simp [get, Nat.beq]; omega) | (dsimp only [get]; congr 1 <;> first | rfl | omega | (simp; done) | (simp; omega))) ?_))) ⟨[], rfl⟩ (fun _ _ => ⟨Nat.zero_le _, rfl, rfl⟩) fun s hs => ?_
  obtain ⟨i, n⟩ := s
  obtain ⟨p1, p2, p3, p4, p5, j', p6, p7⟩ := hs
  simp only at p1 p2 p3 p4 p5 p6 p7 ⊢
  have hb1 := bd9_le (k := i - st) (by omega)
  have stop : j' = 0 → m = n → ∀ f, Sub [(0, .pv (.str x)), (4, .pv (.int .i64 i)), (5, .pv (.int .i64 n)), (6, .pv (.int .i64 st))] f → R .normal f [] := fun h1 h2 f hf => by
    subst h1 h2
    exact hend f (by rw [← p7]; exact hf) (by omega) (by omega) p4 (by omega)
  by_cases hlt : i < x.length
  · have hd : x.drop i = x.getD i 0 :: x.drop (i + 1) := by rw [List.drop_eq_getElem_cons hlt, List.getD, List.getElem?_eq_getElem hlt]; rfl
    rw [hd] at p6
    generalize hcc : x.getD i 0 = c at *
    simp only [List.getD] at hcc
    have hc0 : (0 : Int) ≤ c.toNat := by omega
    have hc255 : (c.toNat : Int) ≤ 255 := by have := c.toNat_lt; omega
    by_cases h9 : i < st + 9
    · obtain ⟨k, hk⟩ : ∃ k, st + 9 - i = k + 1 := ⟨st + 9 - i - 1, by omega⟩
      rw [hk, numD] at p6
      have hb2 := bd9_8 (k := i - st) (by omega)
      by_cases hdg : digB c = true
      · rw [if_pos hdg] at p6
        simp only [digB, Bool.and_eq_true, decide_eq_true_eq] at hdg
        have hw : IntKind.u8.wrap ((c.toNat : Int) - 48) = (c.toNat : Int) - 48 := IntWalk.u8_in _ (by omega)
        repeat' (first
          | ((with_reducible first | show VCs _ | show All _); (try dsimp only [go_sem]); first | (simp [vb, hcc, hlt, hw, h9] <;> omega) | (simp only [vb, and_true, true_implies]; (repeat' (first | (with_reducible assumption) | (with_reducible apply And.intro) | intro _ | ((fail_if_success (with_reducible show (_ : Int) ≤ _)); assumption))) <;> first | omega | (simp only [ab, hcc, hlt, hw, h9]; done) | (simp [hcc, hlt, hw, h9] <;> omega)))
          | exact (rfl : some _ = _)
          | (fail_if_success refine awL ?_
             refine evH [(23, { val := some (.pv (.int .u8 c.toNat)) }), (29, { val := some (.pv (.int .u8 c.toNat)) }), (42, { val := some (.pv (.int .u8 c.toNat)) })] ?_
             repeat1' dsimp only [c118, go_sem]
             first
             | refine aw4 ?_ ?_ rfl ?_
             | apply aw3
             | apply aw2
             | (refine awB (fun hc => ?_) fun hc => ?_ <;> first | (cases hc; done) | (exfalso; simp [hcc, hlt, hw, h9] at hc <;> omega) | (try simp only [bn] at hc; try contradiction))
             | skip))
        · simp [VCs, minI, maxI, hw, IntKind.min, IntKind.max, IntKind.bits]
          omega
        rw [hw]
        obtain ⟨v, hv⟩ : ∃ v, v = n * 10 + ((c.toNat : Int) - 48) := ⟨_, rfl⟩
        rw [← hv] at p6 ⊢
        refine ⟨(i + 1, v), by simp; omega, ⟨by simp; omega, by simp; omega, by simp; omega, by simp; omega, ?_, j' - 1, ?_, ?_⟩, by (repeat' (first | exact trivial | refine And.intro (by first | rfl | (simp [get, Nat.beq]; done) | (simp [get, Nat.beq]; omega) | (dsimp only [get]; congr 1 <;> first | rfl | omega | (simp; done) | (simp; omega))) ?_)), [], rfl⟩
        · show v ≤ bd9 (i + 1 - st)
          rw [show i + 1 - st = (i - st) + 1 by omega, bd9]
          omega
        · show numD (st + 9 - (i + 1)) v (x.drop (i + 1)) = (m, j' - 1)
          rw [show st + 9 - (i + 1) = k by omega]
          injection p6 with e1 e2
          rw [← e2, ← e1]
          simp
        · injection p6 with e1 e2
          show i + 1 + (j' - 1) = st + j
          omega
      · rw [if_neg hdg] at p6
        injection p6 with e1 e2
        have hdg2 : ¬ (48 ≤ c.toNat ∧ c.toNat ≤ 57) := fun h => hdg (by simp only [digB, Bool.and_eq_true, decide_eq_true_eq]; exact h)
        have hst2 := stop e2.symm e1.symm
        repeat' (first
          | ((with_reducible first | show VCs _ | show All _); (try dsimp only [go_sem]); first | (simp [vb, hcc, hlt, h9] <;> omega) | (simp only [vb, and_true, true_implies]; (repeat' (first | (with_reducible assumption) | (with_reducible apply And.intro) | intro _ | ((fail_if_success (with_reducible show (_ : Int) ≤ _)); assumption))) <;> first | omega | (simp only [ab, hcc, hlt, h9]; done) | (simp [hcc, hlt, h9] <;> omega)))
          | exact (rfl : some _ = _)
          | (fail_if_success refine awL ?_
             refine evH [(23, { val := some (.pv (.int .u8 c.toNat)) }), (29, { val := some (.pv (.int .u8 c.toNat)) }), (42, { val := some (.pv (.int .u8 c.toNat)) })] ?_
             repeat1' dsimp only [c118, go_sem]
             first
             | refine aw4 ?_ ?_ rfl ?_
             | apply aw3
             | apply aw2
             | (refine awB (fun hc => ?_) fun hc => ?_ <;> first | (cases hc; done) | (exfalso; simp [hcc, hlt, h9] at hc <;> omega) | (try simp only [bn] at hc; try contradiction))
             | skip))
        exact hst2 _ (by (repeat' (first | exact trivial | refine And.intro (by first | rfl | (simp [get, Nat.beq]; done) | (simp [get, Nat.beq]; omega) | (dsimp only [get]; congr 1 <;> first | rfl | omega | (simp; done) | (simp; omega))) ?_)))
    · have hk : st + 9 - i = 0 := by omega
      rw [hk] at p6
      injection (p6 : (n, 0) = (m, j')) with e1 e2
      have hst2 := stop e2.symm e1.symm
      repeat' (first
        | ((with_reducible first | show VCs _ | show All _); (try dsimp only [go_sem]); first | (simp [vb, hcc, hlt, h9] <;> omega) | (simp only [vb, and_true, true_implies]; (repeat' (first | (with_reducible assumption) | (with_reducible apply And.intro) | intro _ | ((fail_if_success (with_reducible show (_ : Int) ≤ _)); assumption))) <;> first | omega | (simp only [ab, hcc, hlt, h9]; done) | (simp [hcc, hlt, h9] <;> omega)))
        | exact (rfl : some _ = _)
        | (fail_if_success refine awL ?_
           refine evH [(23, { val := some (.pv (.int .u8 c.toNat)) }), (29, { val := some (.pv (.int .u8 c.toNat)) }), (42, { val := some (.pv (.int .u8 c.toNat)) })] ?_
           repeat1' dsimp only [c118, go_sem]
           first
           | refine aw4 ?_ ?_ rfl ?_
           | apply aw3
           | apply aw2
           | (refine awB (fun hc => ?_) fun hc => ?_ <;> first | (cases hc; done) | (exfalso; simp [hcc, hlt, h9] at hc <;> omega) | (try simp only [bn] at hc; try contradiction))
           | skip))
      exact hst2 _ (by (repeat' (first | exact trivial | refine And.intro (by first | rfl | (simp [get, Nat.beq]; done) | (simp [get, Nat.beq]; omega) | (dsimp only [get]; congr 1 <;> first | rfl | omega | (simp; done) | (simp; omega))) ?_)))
  · have hd : x.drop i = [] := List.drop_eq_nil_of_le (by omega)
    rw [hd] at p6
    have p6' : ((n, 0) : Int × Nat) = (m, j') := by rw [← p6]; cases st + 9 - i <;> rfl
    injection p6' with e1 e2
    have hst2 := stop e2.symm e1.symm
    repeat' (first
      | ((with_reducible first | show VCs _ | show All _); (try dsimp only [go_sem]); first | (simp [vb, hlt] <;> omega) | (simp only [vb, and_true, true_implies]; (repeat' (first | (with_reducible assumption) | (with_reducible apply And.intro) | intro _ | ((fail_if_success (with_reducible show (_ : Int) ≤ _)); assumption))) <;> first | omega | (simp only [ab, hlt]; done) | (simp [hlt] <;> omega)))
      | exact (rfl : some _ = _)
      | (fail_if_success refine awL ?_
         refine evA ?_
         repeat1' dsimp only [c118, go_sem]
         first
         | refine aw4 ?_ ?_ rfl ?_
         | apply aw3
         | apply aw2
         | (refine awB (fun hc => ?_) fun hc => ?_ <;> first | (cases hc; done) | (exfalso; simp [hlt] at hc <;> omega) | (try simp only [bn] at hc; try contradiction))
         | skip))
    exact hst2 _ (by (repeat' (first | exact trivial | refine And.intro (by first | rfl | (simp [get, Nat.beq]; done) | (simp [get, Nat.beq]; omega) | (dsimp only [get]; congr 1 <;> first | rfl | omega | (simp; done) | (simp; omega))) ?_)))
def c118e : ACode := (⟨_, by conv => (lhs; reduce; try simp only [lt1, Int.cast_ofNat_Int, Int.reduceNegSucc, UInt8.reduceOfNat])⟩ : {x // (codeOf Tryz.prog 118 (fun _ => false)).map (fun y => y.sub [1, 1, 1, 1, 1, 1]) = some x}).1
theorem startN_le (x : List UInt8) : startN x ≤ 1 ∧ startN x ≤ x.length := by
 unfold startN
 split
 ·split <;> simp
 ·simp
set_option maxHeartbeats 4000000 in
theorem number_end (x : List UInt8) (hx : x.length ≤ 1000000) (st j i : Nat) (m v : Int) (z : List UInt8) (h1 : st ≤ 1) (h2 : j ≤ 9) (hi : i = st + j) (h3 : i ≤ x.length) (h4 : 0 ≤ m) (h5 : m ≤ 999999999) (hv : v = if st = 1 then -m else m) (hk : PureOK ctx 85 [.int .i64 v] (.str z)) (r : Int × Nat)
    (hr : r = if j = 0 ∨ z ≠ x.take i ∨ nextDig x i = true then (0, 0) else (v, i)) :
    Aw ctx (fun _ => false) 83 0 (c118e.sub [1]) (RetPD [.t 2, .t 3] (.tup [.int .i64 r.1, .int .i64 r.2])) [(0, .pv (.str x)), (4, .pv (.int .i64 i)), (5, .pv (.int .i64 v)), (6, .pv (.int .i64 st))] [] := by
  unfold c118e
  simp only [ACode.sub]
  have hn : ((i : Nat) : Int).toNat = i := Int.toNat_natCast _
  by_cases hj : j = 0
  · have hij : i = st := by omega
    subst hij
    rw [if_pos (.inl hj)] at hr
    subst hr
    repeat' (first
      | ((with_reducible first | show VCs _ | show All _); (try dsimp only [go_sem]); first | (simp [vb, hk] <;> omega) | (simp only [vb, and_true, true_implies]; (repeat' (first | (with_reducible assumption) | (with_reducible apply And.intro) | intro _ | ((fail_if_success (with_reducible show (_ : Int) ≤ _)); assumption))) <;> first | omega | (simp only [ab, hk]; done) | (simp [hk] <;> omega)))
      | exact (rfl : some _ = _)
      | (fail_if_success refine awL ?_
         refine evTH [(85, fun _ => some (.str z))] [(54, { val := some (.pv (.bool true)) })] ?_
         repeat1' dsimp only [c118, go_sem]
         first
         | refine aw4 ?_ ?_ rfl ?_
         | apply aw3
         | apply aw2
         | (refine awB (fun hc => ?_) fun hc => ?_ <;> first | (cases hc; done) | (exfalso; simp [hk] at hc <;> omega) | (try simp only [bn] at hc; try contradiction))
         | skip))
  · have hij : i ≠ st := by omega
    have hb : ((i : Int) == (st : Int)) = false := by simp; omega
    by_cases hz : z = x.take i
    · have hzb : (z == x.take i) = true := by simp [hz]
      by_cases hlt : i < x.length
      · generalize hcc : x.getD i 0 = c at *
        have hnd : nextDig x i = digB c := by unfold nextDig; rw [hcc]; simp [hlt]
        simp only [List.getD] at hcc
        rw [hnd] at hr
        by_cases hdg : digB c = true
        · rw [if_pos (.inr (.inr hdg))] at hr
          subst hr
          simp only [digB, Bool.and_eq_true, decide_eq_true_eq] at hdg
          repeat' (first
            | ((with_reducible first | show VCs _ | show All _); (try dsimp only [go_sem]); first | (simp [vb, hk, hb, hzb, hcc, hlt, hij] <;> omega) | (simp only [vb, and_true, true_implies]; (repeat' (first | (with_reducible assumption) | (with_reducible apply And.intro) | intro _ | ((fail_if_success (with_reducible show (_ : Int) ≤ _)); assumption))) <;> first | omega | (simp only [ab, hk, hb, hzb, hcc, hlt, hij]; done) | (simp [hk, hb, hzb, hcc, hlt, hij] <;> omega)))
            | exact (rfl : some _ = _)
            | (fail_if_success refine awL ?_
               refine evTH [(85, fun _ => some (.str z))] [(54, { val := some (.pv (.bool false)) }), (61, { val := some (.pv (.bool false)) }), (67, { val := some (.pv (.bool true)) }), (72, { val := some (.pv (.bool true)) }), (78, { val := some (.pv (.bool true)) }), (71, { val := some (.pv (.int .u8 c.toNat)) }), (77, { val := some (.pv (.int .u8 c.toNat)) })] ?_
               repeat1' dsimp only [c118, go_sem]
               first
               | refine aw4 ?_ ?_ rfl ?_
               | apply aw3
               | apply aw2
               | (refine awB (fun hc => ?_) fun hc => ?_ <;> first | (cases hc; done) | (exfalso; simp [hk, hb, hzb, hcc, hlt, hij] at hc <;> omega) | (try simp only [bn] at hc; try contradiction))
               | skip))
        · rw [if_neg (fun h => h.elim hj fun h => h.elim (fun h => h hz) hdg)] at hr
          subst hr
          by_cases h48 : 48 ≤ c.toNat
          · have h57 : ¬ c.toNat ≤ 57 := fun h => hdg (by simp only [digB, Bool.and_eq_true, decide_eq_true_eq]; exact ⟨h48, h⟩)
            repeat' (first
              | ((with_reducible first | show VCs _ | show All _); (try dsimp only [go_sem]); first | (simp [vb, hk, hb, hzb, hcc, hlt, hij, h57] <;> omega) | (simp only [vb, and_true, true_implies]; (repeat' (first | (with_reducible assumption) | (with_reducible apply And.intro) | intro _ | ((fail_if_success (with_reducible show (_ : Int) ≤ _)); assumption))) <;> first | omega | (simp only [ab, hk, hb, hzb, hcc, hlt, hij, h57]; done) | (simp [hk, hb, hzb, hcc, hlt, hij, h57] <;> omega)))
              | exact (rfl : some _ = _)
              | (fail_if_success refine awL ?_
                 refine evTH [(85, fun _ => some (.str z))] [(54, { val := some (.pv (.bool false)) }), (61, { val := some (.pv (.bool false)) }), (67, { val := some (.pv (.bool true)) }), (72, { val := some (.pv (.bool true)) }), (78, { val := some (.pv (.bool false)) }), (71, { val := some (.pv (.int .u8 c.toNat)) }), (77, { val := some (.pv (.int .u8 c.toNat)) })] ?_
                 repeat1' dsimp only [c118, go_sem]
                 first
                 | refine aw4 ?_ ?_ rfl ?_
                 | apply aw3
                 | apply aw2
                 | (refine awB (fun hc => ?_) fun hc => ?_ <;> first | (cases hc; done) | (exfalso; simp [hk, hb, hzb, hcc, hlt, hij, h57] at hc <;> omega) | (try simp only [bn] at hc; try contradiction))
                 | skip))
          · repeat' (first
              | ((with_reducible first | show VCs _ | show All _); (try dsimp only [go_sem]); first | (simp [vb, hk, hb, hzb, hcc, hlt, hij, h48] <;> omega) | (simp only [vb, and_true, true_implies]; (repeat' (first | (with_reducible assumption) | (with_reducible apply And.intro) | intro _ | ((fail_if_success (with_reducible show (_ : Int) ≤ _)); assumption))) <;> first | omega | (simp only [ab, hk, hb, hzb, hcc, hlt, hij, h48]; done) | (simp [hk, hb, hzb, hcc, hlt, hij, h48] <;> omega)))
              | exact (rfl : some _ = _)
              | (fail_if_success refine awL ?_
                 refine evTH [(85, fun _ => some (.str z))] [(54, { val := some (.pv (.bool false)) }), (61, { val := some (.pv (.bool false)) }), (67, { val := some (.pv (.bool true)) }), (72, { val := some (.pv (.bool false)) }), (71, { val := some (.pv (.int .u8 c.toNat)) }), (77, { val := some (.pv (.int .u8 c.toNat)) })] ?_
                 repeat1' dsimp only [c118, go_sem]
                 first
                 | refine aw4 ?_ ?_ rfl ?_
                 | apply aw3
                 | apply aw2
                 | (refine awB (fun hc => ?_) fun hc => ?_ <;> first | (cases hc; done) | (exfalso; simp [hk, hb, hzb, hcc, hlt, hij, h48] at hc <;> omega) | (try simp only [bn] at hc; try contradiction))
                 | skip))
      · have hnd : nextDig x i = false := by unfold nextDig; simp; intro h; exact absurd h hlt
        rw [if_neg (fun h => h.elim hj fun h => h.elim (fun h => h hz) fun h => by rw [hnd] at h; cases h)] at hr
        subst hr
        repeat' (first
          | ((with_reducible first | show VCs _ | show All _); (try dsimp only [go_sem]); first | (simp [vb, hk, hb, hzb, hlt, hij] <;> omega) | (simp only [vb, and_true, true_implies]; (repeat' (first | (with_reducible assumption) | (with_reducible apply And.intro) | intro _ | ((fail_if_success (with_reducible show (_ : Int) ≤ _)); assumption))) <;> first | omega | (simp only [ab, hk, hb, hzb, hlt, hij]; done) | (simp [hk, hb, hzb, hlt, hij] <;> omega)))
          | exact (rfl : some _ = _)
          | (fail_if_success refine awL ?_
             refine evTH [(85, fun _ => some (.str z))] [(54, { val := some (.pv (.bool false)) }), (61, { val := some (.pv (.bool false)) }), (67, { val := some (.pv (.bool false)) })] ?_
             repeat1' dsimp only [c118, go_sem]
             first
             | refine aw4 ?_ ?_ rfl ?_
             | apply aw3
             | apply aw2
             | (refine awB (fun hc => ?_) fun hc => ?_ <;> first | (cases hc; done) | (exfalso; simp [hk, hb, hzb, hlt, hij] at hc <;> omega) | (try simp only [bn] at hc; try contradiction))
             | skip))
    · have hzb : (z == x.take i) = false := by simp [hz]
      rw [if_pos (.inr (.inl hz))] at hr
      subst hr
      repeat' (first
        | ((with_reducible first | show VCs _ | show All _); (try dsimp only [go_sem]); first | (simp [vb, hk, hb, hzb, hij] <;> omega) | (simp only [vb, and_true, true_implies]; (repeat' (first | (with_reducible assumption) | (with_reducible apply And.intro) | intro _ | ((fail_if_success (with_reducible show (_ : Int) ≤ _)); assumption))) <;> first | omega | (simp only [ab, hk, hb, hzb, hij]; done) | (simp [hk, hb, hzb, hij] <;> omega)))
        | exact (rfl : some _ = _)
        | (fail_if_success refine awL ?_
           refine evTH [(85, fun _ => some (.str z))] [(54, { val := some (.pv (.bool false)) }), (61, { val := some (.pv (.bool true)) })] ?_
           repeat1' dsimp only [c118, go_sem]
           first
           | refine aw4 ?_ ?_ rfl ?_
           | apply aw3
           | apply aw2
           | (refine awB (fun hc => ?_) fun hc => ?_ <;> first | (cases hc; done) | (exfalso; simp [hk, hb, hzb, hij] at hc <;> omega) | (try simp only [bn] at hc; try contradiction))
           | skip))
set_option maxHeartbeats 2000000 in
theorem number_ok (x : List UInt8) (hx : x.length ≤ 1000000) : PureOK ctx 118 [.str x] (.tup [.int .i64 (numN x).1, .int .i64 (numN x).2]) := by
 obtain ⟨g1, g2⟩ := startN_le x
 obtain ⟨st, hst⟩ : ∃ st, st = startN x := ⟨_, rfl⟩
 rw [← hst] at g1 g2
 have hN : numN x = if (numD 9 0 (x.drop st)).2 = 0 ∨ Lib.itoa (if st = 1 then -(numD 9 0 (x.drop st)).1 else (numD 9 0 (x.drop st)).1) ≠ x.take (st + (numD 9 0 (x.drop st)).2) ∨ nextDig x (st + (numD 9 0 (x.drop st)).2) = true then (0, 0) else ((if st = 1 then -(numD 9 0 (x.drop st)).1 else (numD 9 0 (x.drop st)).1), st + (numD 9 0 (x.drop st)).2) := by
  rw [hst]
  rfl
 refine pure_body' (C := ctx) (Fn.of fn118 rfl) rfl ?_
 unfold c118
 have tail : ∀ f, Sub [(0, .pv (.str x)), (4, .pv (.int .i64 st))] f → Aw ctx (fun _ => false) 83 0 (c118.sub [1, 1, 1]) (RetPD [.t 2, .t 3] (.tup [.int .i64 (numN x).1, .int .i64 (numN x).2])) f [] := fun f hf => by
  refine aw_frame _ hf ?_
  unfold c118
  simp only [ACode.sub]
  refine evA ?_
  dsimp only [go_sem]
  try dsimp only [go_sem]
  refine ⟨(by simp [vb] <;> omega), (by simp [vb] <;> omega), ?_⟩
  refine evA ?_
  dsimp only [go_sem]
  try dsimp only [go_sem]
  refine ⟨(by simp [vb] <;> omega), (by simp [vb] <;> omega), ?_⟩
  refine aw_seq ?_
  refine aw_frame [(0, .pv (.str x)), (4, .pv (.int .i64 st)), (5, .pv (.int .i64 0)), (6, .pv (.int .i64 st))] (by (repeat' (first | exact trivial | refine And.intro (by first | rfl | (simp [get, Nat.beq]; done) | (simp [get, Nat.beq]; omega) | (dsimp only [get]; congr 1 <;> first | rfl | omega | (simp; done) | (simp; omega))) ?_))) ?_
  refine number_loop x hx st g2 g1 fun f hf k1 k2 k3 k4 => ?_
  refine aw_frame _ hf ?_
  generalize numD 9 0 (x.drop st) = q at *
  obtain ⟨m, j⟩ := q
  simp only at hN k1 k2 k3 k4 ⊢
  have hk := decimal_ok (if st = 1 then -m else m) (by split <;> omega) (by split <;> omega)
  have fin := fun v hv hk => number_end x hx st j (st + j) m v (Lib.itoa v) g1 k1 rfl k2 k3 k4 hv hk (numN x)
  by_cases h1 : st = 1
  ·rw [if_pos h1] at hk hN
   have fin := fin (-m) (by rw [if_pos h1]) hk hN
   refine aw_seq ?_
   iterate 6 first
    | refine ⟨fun _ => ?_, fun h => by simp at h <;> omega⟩
    | refine ⟨by simp [vb, h1] <;> omega, by simp [vb, h1] <;> omega, ?_⟩
    | (refine evA ?_; iterate 2 (try dsimp only [go_sem]))
   exact aw_frame _ (by (repeat' (first | exact trivial | refine And.intro (by first | rfl | (simp [get, Nat.beq]; done) | (simp [get, Nat.beq]; omega) | (dsimp only [get]; congr 1 <;> first | rfl | omega | (simp; done) | (simp; omega))) ?_))) fin
  ·rw [if_neg h1] at hk hN
   have fin := fin m (by rw [if_neg h1]) hk hN
   refine aw_seq ?_
   iterate 5 first
    | refine ⟨fun h => by simp at h <;> omega, fun _ => ?_⟩
    | refine ⟨by simp [vb, h1] <;> omega, by simp [vb, h1] <;> omega, ?_⟩
    | (refine evA ?_; iterate 2 (try dsimp only [go_sem]))
   exact aw_frame _ (by (repeat' (first | exact trivial | refine And.intro (by first | rfl | (simp [get, Nat.beq]; done) | (simp [get, Nat.beq]; omega) | (dsimp only [get]; congr 1 <;> first | rfl | omega | (simp; done) | (simp; omega))) ?_))) fin
 cases x with
 | nil =>
  have h0 : st = 0 := hst
  subst h0
  iterate 9 first
   | refine ⟨fun h => by simp at h <;> omega, fun _ => ?_⟩
   | refine ⟨by simp [vb] <;> omega, by simp [vb] <;> omega, ?_⟩
   | (refine evA ?_; iterate 2 (try dsimp only [go_sem]))
  exact tail _ (by (repeat' (first | exact trivial | refine And.intro (by first | rfl | (simp [get, Nat.beq]; done) | (simp [get, Nat.beq]; omega) | (dsimp only [get]; congr 1 <;> first | rfl | omega | (simp; done) | (simp; omega))) ?_)))
 | cons c r =>
  by_cases hc : c = 45
  ·have h0 : st = 1 := by rw [hst, startN, if_pos hc]
   subst h0 hc
   iterate 6 first
    | refine ⟨by simp [vb] <;> omega, by simp [vb] <;> omega, ?_⟩
    | (refine evH [(12, { val := some (.pv (.int .u8 45)) })] ?_; iterate 2 (try dsimp only [go_sem]))
   refine evA ?_
   dsimp only [go_sem]
   refine ⟨fun _ => ?_, fun h => by simp at h <;> omega⟩
   refine evA ?_
   dsimp only [go_sem]
   try dsimp only [go_sem]
   refine ⟨(by simp [vb] <;> omega), (by simp [vb] <;> omega), ?_⟩
   exact tail _ (by (repeat' (first | exact trivial | refine And.intro (by first | rfl | (simp [get, Nat.beq]; done) | (simp [get, Nat.beq]; omega) | (dsimp only [get]; congr 1 <;> first | rfl | omega | (simp; done) | (simp; omega))) ?_)))
  ·have h0 : st = 0 := by rw [hst, startN, if_neg hc]
   subst h0
   have hc2 : ((c.toNat : Int) == 45) = false := by
    have := @byte_eq c 45 (by decide)
    simp
    intro h
    exact hc (this.1 (by simpa using h))
   iterate 6 first
    | refine ⟨by simp [vb, hc2] <;> omega, by simp [vb, hc2] <;> omega, ?_⟩
    | (refine evH [(12, { val := some (.pv (.int .u8 c.toNat)) }), (13, { val := some (.pv (.bool false)) })] ?_; iterate 2 (try dsimp only [go_sem]))
   refine evA ?_
   dsimp only [go_sem]
   refine ⟨fun h => by simp at h <;> omega, fun _ => ?_⟩
   refine evA ?_
   dsimp only [go_sem]
   exact tail _ (by (repeat' (first | exact trivial | refine And.intro (by first | rfl | (simp [get, Nat.beq]; done) | (simp [get, Nat.beq]; omega) | (dsimp only [get]; congr 1 <;> first | rfl | omega | (simp; done) | (simp; omega))) ?_)))
end Pur
end Go.Proofs.YtaleoeblooeglaaGreatDoor
namespace Go.Proofs.YtaleoeblooeglaaGreatDoor
namespace Rf
def numsN : Nat → List UInt8 → Option (List Int × List UInt8)
 | 0, x => some ([], x)
 | _ + 1, [] => none
 | k + 1, c :: r => if c = 32 then (if (numN r).2 = 0 then none else match numsN k (r.drop (numN r).2) with
  | some (l, y) => some ((numN r).1 :: l, y)
  | none => none) else none
theorem numN_le (x : List UInt8) : (numN x).2 ≤ x.length := by
 have hd : ∀ (k : Nat) (n : Int) (y : List UInt8), (numD k n y).2 ≤ y.length := by
  intro k
  induction k with
  | zero => intro n y; cases y <;> simp [numD]
  | succ k ih =>
   intro n y
   cases y with
   | nil => simp [numD]
   | cons c r =>
    rw [numD]
    split
    ·have := ih (n * 10 + ((c.toNat : Int) - 48)) r
     simp
     exact this
    ·simp
 have h1 := hd 9 0 (x.drop (startN x))
 have h2 : startN x ≤ x.length := by
  unfold startN
  split
  ·split <;> simp
  ·simp
 rw [List.length_drop] at h1
 have key : ∀ (p : Prop) [Decidable p] (v : Int) (n : Nat), n ≤ x.length → (if p then ((0 : Int), (0 : Nat)) else (v, n)).2 ≤ x.length := by
  intro p _ v n h
  split
  ·simp
  ·exact h
 unfold numN
 exact key _ _ _ (by omega)
end Rf
namespace Pur
open Go.RowKit
attribute [local go_sem] evOps evOp evOpV evRun evK argF List.map hintAt stripped get put tmpsOf tmpOf tmpO tmpL tmpP conds ev cond_true cond_false Nat.beq Nat.ble Nat.add quiet After thenR blockR IfD List.append_eq List.nil_append List.cons_append evInt exactI_a exactI_b exactI_c exactI_d exactI_e exactI_f evBin evStr evBool evUn guardC calm quiet.isCallK evPick List.getElem?_cons_zero List.getElem?_cons_succ fromCells fromPVs cellsOf List.all oneCell List.length_cons List.length_nil mkAgg plains List.drop List.take List.getD Option.getD_some bo1 bo2 ba1 ba2 bn1 bn2 kk_i64 kk_u8 kk_i32 kk_u64 setAt List.set Nat.reduceAdd Nat.reduceMul evCall safeCall refsOf refsIn scalarA scalar scalarL thawL mapAll thawArg thawRef after freeze RetD RetE evResult evRess evRes1 thaw_pv mkTup nilOf_a nilOf_b nilOf_bb nilOf_c nilOf_d nilOf_e nilOf_f nilOf_g nilOf_h nilOf_i nilOf_j nilOf_k nilOf_l nilOf_m eqLeaf_a eqLeaf_b eqLeaf_c eqOffs evMM bytesOf evOpsF AfterF footOf footRefs notIn indepF footAt freeOk still evParts fillA zeros intOfA boundA srcOf List.isEmpty appNil_0 appNil_1 appNil_2 Int.reduceToNat Nat.mul_one Nat.reduceSub evC evOpsT evOpsTF autoH tabHint look hintD strip guarded RetPD RetRD mpLen keysOk leafKA leafK bitI nilOf_n nilOf_o Bool.or_false Bool.or_true Bool.and_true Bool.and_false Nat.blt renF renM renB renV idxOf solF solM solA solV thawRef ev1
open Rf
def wordsR (w : List UInt8) (k : Nat) (x : List UInt8) : PV := if w.length ≤ x.length ∧ x.take w.length = w then match numsN k (x.drop w.length) with
  | some (l, y) => .tup [.sl l.length (l.map (.int .i64)), .bool (decide (y = []))]
  | none => .tup [.nilsl, .bool false]
 else .tup [.nilsl, .bool false]
def c89 : ACode := (⟨_, by conv => (lhs; reduce; try simp only [lt1, Int.cast_ofNat_Int, Int.reduceNegSucc, UInt8.reduceOfNat])⟩ : {x // codeOf Tryz.prog 89 (fun d => Nat.beq d 29) = some x}).1
theorem fn89 : fnOf Tryz.prog 89 (fun d => Nat.beq d 29) = some (c89, [.t 6, .t 7], 61, true) := by kernel_rfl
set_option maxHeartbeats 4000000 in
theorem words_ok (w : List UInt8) (k : Nat) (x : List UInt8) (hw : w.length ≤ 100) (hk : k ≤ 10) (hx : x.length ≤ 1000000) : PureOK ctx 89 [.str x, .str w, .int .i64 k] (wordsR w k x) := by
  unfold wordsR
  by_cases hlt : x.length < w.length
  · rw [if_neg (by omega)]
    refine pure_body' (C := ctx) (Fn.of fn89 rfl) rfl ?_
    unfold c89
    repeat' (first
      | ((with_reducible first | show VCs _ | show All _); (try dsimp only [go_sem]); first | (simp [vb, hlt] <;> omega) | (simp only [vb, and_true, true_implies]; (repeat' (first | (with_reducible assumption) | (with_reducible apply And.intro) | intro _ | ((fail_if_success (with_reducible show (_ : Int) ≤ _)); assumption))) <;> first | omega | (simp only [ab, hlt]; done) | (simp [hlt] <;> omega)))
      | exact (rfl : some _ = _)
      | (fail_if_success refine awL ?_
         refine evH [(16, { val := some (.pv (.bool true)) })] ?_
         repeat1' dsimp only [c89, go_sem]
         first
         | refine aw4 ?_ ?_ rfl ?_
         | apply aw3
         | apply aw2
         | (refine awB (fun hc => ?_) fun hc => ?_ <;> first | (cases hc; done) | (exfalso; simp [hlt] at hc <;> omega) | (try simp only [bn] at hc; try contradiction))
         | skip))
  by_cases htk : x.take w.length = w
  · rw [if_pos ⟨by omega, htk⟩]
    have hne : (x.take w.length != w) = false := by simp [htk]
    have hnn : ((w.length : Nat) : Int).toNat = w.length := Int.toNat_natCast _
    refine pure_body' (C := ctx) (Fn.of fn89 rfl) rfl ?_
    unfold c89
    repeat' (first
      | ((with_reducible first | show VCs _ | show All _); (try dsimp only [go_sem]); first | (simp [vb, hlt, hne, hnn] <;> omega) | (simp only [vb, and_true, true_implies]; (repeat' (first | (with_reducible assumption) | (with_reducible apply And.intro) | intro _ | ((fail_if_success (with_reducible show (_ : Int) ≤ _)); assumption))) <;> first | omega | (simp only [ab, hlt, hne, hnn]; done) | (simp [hlt, hne, hnn] <;> omega)))
      | exact (rfl : some _ = _)
      | (fail_if_success refine awL ?_
         refine evH [(16, { val := some (.pv (.bool false)) }), (23, { val := some (.pv (.bool false)) }), (28, { val := some (.pv (.str (x.drop w.length))) })] ?_
         repeat1' dsimp only [c89, go_sem]
         first
         | refine aw4 ?_ ?_ rfl ?_
         | apply aw3
         | apply aw2
         | (refine awB (fun hc => ?_) fun hc => ?_ <;> first | (cases hc; done) | (exfalso; simp [hlt, hne, hnn] at hc <;> omega) | (try simp only [bn] at hc; try contradiction))
         | skip))
    generalize hx0 : x.drop w.length = x0
    have hx0l : x0.length ≤ 1000000 := by rw [← hx0, List.length_drop]; omega
    refine aw_loopJ (σ := List Int × List UInt8) (fun s => s.1.length ≤ k ∧ s.2.length ≤ 1000000 ∧ numsN k x0 = match numsN (k - s.1.length) s.2 with | some (l, y) => some (s.1 ++ l, y) | none => none)
      (fun s => [(0, .pv (.str s.2)), (2, .pv (.int .i64 k)), (8, .ref 0 s.1.length 0 s.1.length), (9, .pv (.int .i64 s.1.length))]) (fun s => [⟨s.1.map fun n => .pv (.int .i64 n), s.1.length, 1, 3, false⟩]) (fun s => k - s.1.length) ([], x0) ⟨Nat.zero_le _, hx0l, ?_⟩ (by (repeat' (first | exact trivial | refine And.intro (by first | rfl | (simp [get, Nat.beq]; done) | (simp [get, Nat.beq]; omega) | (dsimp only [get]; congr 1 <;> first | rfl | omega | (simp; done) | (simp; omega))) ?_))) ⟨[], rfl⟩ (fun s _ => ⟨Nat.zero_le _, rfl, by simp [okMem, bnd]⟩) fun s hs => ?_
    · simp only [List.length_nil, Nat.sub_zero, List.nil_append]
      cases numsN k x0 with
      | none => rfl
      | some q => rfl
    obtain ⟨l, y⟩ := s
    obtain ⟨p1, p2, p3⟩ := hs
    simp only at p1 p2 p3 ⊢
    by_cases hlk : l.length < k
    · obtain ⟨g, hg⟩ : ∃ g, k - l.length = g + 1 := ⟨k - l.length - 1, by omega⟩
      rw [hg] at p3
      cases y with
      | nil =>
        rw [numsN] at p3
        rw [p3]
        repeat' (first
          | ((with_reducible first | show VCs _ | show All _); (try dsimp only [go_sem]); first | (simp [vb, hlk] <;> omega) | (simp only [vb, and_true, true_implies]; (repeat' (first | (with_reducible assumption) | (with_reducible apply And.intro) | intro _ | ((fail_if_success (with_reducible show (_ : Int) ≤ _)); assumption))) <;> first | omega | (simp only [ab, hlk]; done) | (simp [hlk] <;> omega)))
          | exact (rfl : some _ = _)
          | (fail_if_success refine awL ?_
             refine evA ?_
             repeat1' dsimp only [c89, go_sem]
             first
             | refine aw4 ?_ ?_ rfl ?_
             | apply aw3
             | apply aw2
             | (refine awB (fun hc => ?_) fun hc => ?_ <;> first | (cases hc; done) | (exfalso; simp [hlk] at hc <;> omega) | (try simp only [bn] at hc; try contradiction))
             | skip))
      | cons c r =>
        simp only [List.length_cons] at p2
        have hnr := number_ok r (by omega)
        have hle := numN_le r
        rw [numsN] at p3
        by_cases hc : c = 32
        · subst hc
          rw [if_pos rfl] at p3
          generalize numN r = q at *
          obtain ⟨n, z⟩ := q
          simp only at p3 hnr hle
          by_cases hz : z = 0
          · rw [if_pos hz] at p3
            rw [p3]
            repeat' (first
              | ((with_reducible first | show VCs _ | show All _); (try dsimp only [go_sem]); first | (simp [vb, hlk, hnr, hz] <;> omega) | (simp only [vb, and_true, true_implies]; (repeat' (first | (with_reducible assumption) | (with_reducible apply And.intro) | intro _ | ((fail_if_success (with_reducible show (_ : Int) ≤ _)); assumption))) <;> first | omega | (simp only [ab, hlk, hnr, hz]; done) | (simp [hlk, hnr, hz] <;> omega)))
              | exact (rfl : some _ = _)
              | (fail_if_success refine awL ?_
                 refine evTH [(118, fun _ => some (.tup [.int .i64 n, .int .i64 z]))] [(39, { val := some (.pv (.int .u8 32)) }), (44, { val := some (.pv (.str r)) })] ?_
                 repeat1' dsimp only [c89, go_sem]
                 first
                 | refine aw4 ?_ ?_ rfl ?_
                 | apply aw3
                 | apply aw2
                 | (refine awB (fun hc => ?_) fun hc => ?_ <;> first | (cases hc; done) | (exfalso; simp [hlk, hnr, hz] at hc <;> omega) | (try simp only [bn] at hc; try contradiction))
                 | skip))
          · rw [if_neg hz] at p3
            have hl : (l.map fun n => AV.pv (.int .i64 n)).length = l.length := by simp
            have hdr : ((1 : Int) + (z : Int)).toNat = z + 1 := by omega
            repeat' (first
              | ((with_reducible first | show VCs _ | show All _); (try dsimp only [go_sem]); first | (simp [vb, hlk, hnr, hz, hl, hle, hdr] <;> omega) | (simp only [vb, and_true, true_implies]; (repeat' (first | (with_reducible assumption) | (with_reducible apply And.intro) | intro _ | ((fail_if_success (with_reducible show (_ : Int) ≤ _)); assumption))) <;> first | omega | (simp only [ab, hlk, hnr, hz, hl, hle, hdr]; done) | (simp [hlk, hnr, hz, hl, hle, hdr] <;> omega)))
              | exact (rfl : some _ = _)
              | (fail_if_success refine awL ?_
                 refine evTH [(118, fun _ => some (.tup [.int .i64 n, .int .i64 z]))] [(39, { val := some (.pv (.int .u8 32)) }), (44, { val := some (.pv (.str r)) }), (57, { val := some (.pv (.str (r.drop z))) })] ?_
                 repeat1' dsimp only [c89, go_sem]
                 first
                 | refine aw4 ?_ ?_ rfl ?_
                 | apply aw3
                 | apply aw2
                 | (refine awB (fun hc => ?_) fun hc => ?_ <;> first | (cases hc; done) | (exfalso; simp [hlk, hnr, hz, hl, hle, hdr] at hc <;> omega) | (try simp only [bn] at hc; try contradiction))
                 | skip))
            refine ⟨(l ++ [n], r.drop z), by simp; omega, ⟨by simp; omega, by simp; omega, ?_⟩, by (repeat' (first | exact trivial | refine And.intro (by first | rfl | (simp [get, Nat.beq]; done) | (simp [get, Nat.beq]; omega) | (dsimp only [get]; congr 1 <;> first | rfl | omega | (simp; done) | (simp; omega))) ?_)), [], by simp⟩
            rw [p3]
            simp only [List.length_append, List.length_cons, List.length_nil, Nat.zero_add]
            rw [show k - (l.length + 1) = g by omega]
            cases numsN g (r.drop z) with
            | none => rfl
            | some q => simp
        · rw [if_neg hc] at p3
          rw [p3]
          have hc2 : ((c.toNat : Int) != 32) = true := by
            have := @byte_eq c 32 (by decide)
            simp
            intro h
            exact hc (this.1 (by simpa using h))
          repeat' (first
            | ((with_reducible first | show VCs _ | show All _); (try dsimp only [go_sem]); first | (simp [vb, hlk, hc2] <;> omega) | (simp only [vb, and_true, true_implies]; (repeat' (first | (with_reducible assumption) | (with_reducible apply And.intro) | intro _ | ((fail_if_success (with_reducible show (_ : Int) ≤ _)); assumption))) <;> first | omega | (simp only [ab, hlk, hc2]; done) | (simp [hlk, hc2] <;> omega)))
            | exact (rfl : some _ = _)
            | (fail_if_success refine awL ?_
               refine evH [(39, { val := some (.pv (.int .u8 c.toNat)) }), (40, { val := some (.pv (.bool true)) })] ?_
               repeat1' dsimp only [c89, go_sem]
               first
               | refine aw4 ?_ ?_ rfl ?_
               | apply aw3
               | apply aw2
               | (refine awB (fun hc => ?_) fun hc => ?_ <;> first | (cases hc; done) | (exfalso; simp [hlk, hc2] at hc <;> omega) | (try simp only [bn] at hc; try contradiction))
               | skip))
    · have hlk2 : l.length = k := by omega
      rw [show k - l.length = 0 by omega, numsN] at p3
      rw [p3]
      simp only [List.append_nil]
      have hl : (l.map fun n => AV.pv (.int .i64 n)).length = l.length := by simp
      repeat' (first
        | ((with_reducible first | show VCs _ | show All _); (try dsimp only [go_sem]); first | (simp [vb, hlk, hl] <;> omega) | (simp only [vb, and_true, true_implies]; (repeat' (first | (with_reducible assumption) | (with_reducible apply And.intro) | intro _ | ((fail_if_success (with_reducible show (_ : Int) ≤ _)); assumption))) <;> first | omega | (simp only [ab, hlk, hl]; done) | (simp [hlk, hl] <;> omega)))
        | exact (rfl : some _ = _)
        | (fail_if_success refine awL ?_
           refine evA ?_
           repeat1' dsimp only [c89, go_sem]
           first
           | refine aw4 ?_ ?_ rfl ?_
           | apply aw3
           | apply aw2
           | (refine awB (fun hc => ?_) fun hc => ?_ <;> first | (cases hc; done) | (exfalso; simp [hlk, hl] at hc <;> omega) | (try simp only [bn] at hc; try contradiction))
           | skip))
      rw [show (y == []) = decide (y = []) from by rw [Bool.eq_iff_iff]; simp]
      refine thaw_tup2 (thaw_rowE rfl rfl rfl ?_ rfl ?_) rfl
      · simp
      · simp
  · rw [if_neg fun h => htk h.2]
    have hne : (x.take w.length != w) = true := by simp [htk]
    have hnn : ((w.length : Nat) : Int).toNat = w.length := Int.toNat_natCast _
    refine pure_body' (C := ctx) (Fn.of fn89 rfl) rfl ?_
    unfold c89
    repeat' (first
      | ((with_reducible first | show VCs _ | show All _); (try dsimp only [go_sem]); first | (simp [vb, hlt, hne, hnn] <;> omega) | (simp only [vb, and_true, true_implies]; (repeat' (first | (with_reducible assumption) | (with_reducible apply And.intro) | intro _ | ((fail_if_success (with_reducible show (_ : Int) ≤ _)); assumption))) <;> first | omega | (simp only [ab, hlt, hne, hnn]; done) | (simp [hlt, hne, hnn] <;> omega)))
      | exact (rfl : some _ = _)
      | (fail_if_success refine awL ?_
         refine evH [(16, { val := some (.pv (.bool false)) }), (23, { val := some (.pv (.bool true)) })] ?_
         repeat1' dsimp only [c89, go_sem]
         first
         | refine aw4 ?_ ?_ rfl ?_
         | apply aw3
         | apply aw2
         | (refine awB (fun hc => ?_) fun hc => ?_ <;> first | (cases hc; done) | (exfalso; simp [hlt, hne, hnn] at hc <;> omega) | (try simp only [bn] at hc; try contradiction))
         | skip))
    all_goals trace_state
end Pur
end Go.Proofs.YtaleoeblooeglaaGreatDoor
namespace Go.Proofs.YtaleoeblooeglaaGreatDoor
namespace Rf
def wordO (w : Ln) (k : Nat) (x : Ln) : Option (List Int) := if w.length ≤ x.length ∧ x.take w.length = w then match numsN k (x.drop w.length) with
  | some (l, y) => if y = [] then some l else none
  | none => none
 else none
def readN : Nat → List RStep → List Ln → Option (Tree × List Ln)
 | 0, _, _ => none
 | f + 1, S, ls => match ls with
  | [] => none
  | x :: r => match wordO wRow 2 x with
   | some l => readN f (S ++ [⟨0, l.getD 0 0, l.getD 1 0⟩]) r
   | none => match wordO wGraph 2 x with
    | some l => readN f (S ++ [⟨1, l.getD 0 0, l.getD 1 0⟩]) r
    | none => match wordO wSplit 2 x with
     | some l => match kidsG (readN f []) 2 r with
      | some (ks, r') => some (.node 1 S (l.getD 0 0) (l.getD 1 0) ks, r')
      | none => none
     | none => match wordO wCases 1 x with
      | some l => match kidsG (readN f []) (l.getD 0 0).toNat r with
       | some (ks, r') => some (.node 2 S 0 0 ks, r')
       | none => none
      | none => if x = wClosed then some (.node 0 S 0 0 [], r) else none
end Rf
namespace Pur
open Go.RowKit
attribute [local go_sem] evOps evOp evOpV evRun evK argF List.map hintAt stripped get put tmpsOf tmpOf tmpO tmpL tmpP conds ev cond_true cond_false Nat.beq Nat.ble Nat.add quiet After thenR blockR IfD List.append_eq List.nil_append List.cons_append evInt exactI_a exactI_b exactI_c exactI_d exactI_e exactI_f evBin evStr evBool evUn guardC calm quiet.isCallK evPick List.getElem?_cons_zero List.getElem?_cons_succ fromCells fromPVs cellsOf List.all oneCell List.length_cons List.length_nil mkAgg plains List.drop List.take List.getD Option.getD_some bo1 bo2 ba1 ba2 bn1 bn2 kk_i64 kk_u8 kk_i32 kk_u64 setAt List.set Nat.reduceAdd Nat.reduceMul evCall safeCall refsOf refsIn scalarA scalar scalarL thawL mapAll thawArg thawRef after freeze RetD RetE evResult evRess evRes1 thaw_pv mkTup nilOf_a nilOf_b nilOf_bb nilOf_c nilOf_d nilOf_e nilOf_f nilOf_g nilOf_h nilOf_i nilOf_j nilOf_k nilOf_l nilOf_m eqLeaf_a eqLeaf_b eqLeaf_c eqOffs evMM bytesOf evOpsF AfterF footOf footRefs notIn indepF footAt freeOk still evParts fillA zeros intOfA boundA srcOf List.isEmpty appNil_0 appNil_1 appNil_2 Int.reduceToNat Nat.mul_one Nat.reduceSub evC evOpsT evOpsTF autoH tabHint look hintD strip guarded RetPD RetRD mpLen keysOk leafKA leafK bitI nilOf_n nilOf_o Bool.or_false Bool.or_true Bool.and_true Bool.and_false Nat.blt renF renM renB renV idxOf solF solM solA solV thawRef ev1
open Rf
def readR : Option (Tree × List Ln) → PV
 | some (t, r) => .tup [treeP t, wordsP r, .bool true]
 | none => .tup [.agg [.int .i64 0, .nilsl, .int .i64 0, .int .i64 0, .nilsl], .nilsl, .bool false]
def c59 : ACode := (⟨_, by conv => (lhs; reduce; try simp only [lt1, Int.cast_ofNat_Int, Int.reduceNegSucc, UInt8.reduceOfNat])⟩ : {x // codeOf Tryz.prog 59 (fun _ => false) = some x}).1
theorem fn59 : fnOf Tryz.prog 59 (fun _ => false) = some (c59, [.cell 2 5 true, .t 3, .t 4], 125, true) := by kernel_rfl
theorem numsN_len : ∀ (k : Nat) (x : List UInt8) (l : List Int) (y : List UInt8), numsN k x = some (l, y) → l.length = k
 | 0, x, l, y, h => by injection h with h; injection h with h _; subst h; rfl
 | k + 1, [], l, y, h => by cases h
 | k + 1, c :: r, l, y, h => by
  rw [numsN] at h
  split at h
  ·split at h
   ·cases h
   ·split at h
    ·rename_i l' y' h1
     injection h with h
     injection h with h _
     subst h
     rw [List.length_cons, numsN_len k _ l' y' h1]
    ·cases h
  ·cases h
theorem wordO_len {w : Ln} {k : Nat} {x : Ln} {l : List Int} (h : wordO w k x = some l) : l.length = k := by
 unfold wordO at h
 split at h
 ·split at h
  ·rename_i l' y h1
   split at h
   ·injection h with h
    subst h
    exact numsN_len k _ _ _ h1
   ·cases h
  ·cases h
 ·cases h
theorem words_yes {w : Ln} {k : Nat} {x : Ln} {l : List Int} (h : wordO w k x = some l) (hw : w.length ≤ 100) (hk : k ≤ 10) (hx : x.length ≤ 1000000) : PureOK ctx 89 [.str x, .str w, .int .i64 k] (.tup [.sl l.length (l.map (.int .i64)), .bool true]) := by
 have := words_ok w k x hw hk hx
 unfold wordO at h
 unfold wordsR at this
 split at h
 ·rename_i h0
  rw [if_pos h0] at this
  split at h
  ·rename_i l' y h1
   rw [h1] at this
   split at h
   ·rename_i hy
    injection h with h
    subst h hy
    exact this
   ·cases h
  ·cases h
 ·cases h
theorem words_no {w : Ln} {k : Nat} {x : Ln} (h : wordO w k x = none) (hw : w.length ≤ 100) (hk : k ≤ 10) (hx : x.length ≤ 1000000) : ∃ p, PureOK ctx 89 [.str x, .str w, .int .i64 k] (.tup [p, .bool false]) := by
 have := words_ok w k x hw hk hx
 unfold wordO at h
 unfold wordsR at this
 split at h
 ·rename_i h0
  rw [if_pos h0] at this
  split at h
  ·rename_i l' y h1
   rw [h1] at this
   split at h
   ·cases h
   ·rename_i hy
    simp only [decide_eq_false hy] at this
    exact ⟨_, this⟩
  ·rename_i h1
   rw [h1] at this
   exact ⟨_, this⟩
 ·rename_i h0
  rw [if_neg h0] at this
  exact ⟨_, this⟩
def tR (k : Int) (c a : Int) : List RStep → Blk
 | [] => ⟨[.pv (.int .i64 k), .pv .nilsl, .pv (.int .i64 c), .pv (.int .i64 a), .pv .nilsl], 0, 5, 25, false⟩
 | _ :: l => ⟨[.pv (.int .i64 k), .ref 2 l.length 0 (l.length + 1), .pv (.int .i64 c), .pv (.int .i64 a), .pv .nilsl], 0, 5, 25, false⟩
theorem tR_nil (k c a : Int) : tR k c a [] = ⟨[.pv (.int .i64 k), .pv .nilsl, .pv (.int .i64 c), .pv (.int .i64 a), .pv .nilsl], 0, 5, 25, false⟩ := rfl
theorem tR_cons (k c a : Int) (s : RStep) (l : List RStep) : tR k c a (s :: l) = ⟨[.pv (.int .i64 k), .ref 2 l.length 0 (l.length + 1), .pv (.int .i64 c), .pv (.int .i64 a), .pv .nilsl], 0, 5, 25, false⟩ := rfl
theorem words_any (w : Ln) (k : Nat) (x : Ln) (hw : w.length ≤ 100) (hk : k ≤ 10) (hx : x.length ≤ 1000000) : ∃ p b, PureOK ctx 89 [.str x, .str w, .int .i64 k] (.tup [p, .bool b]) ∧ (b = true → ∃ l, wordO w k x = some l ∧ p = .sl l.length (l.map (.int .i64))) ∧ (b = false → wordO w k x = none) := by
 cases h : wordO w k x with
 | some l => exact ⟨_, true, words_yes h hw hk hx, fun _ => ⟨l, rfl, rfl⟩, fun h => by cases h⟩
 | none =>
  obtain ⟨p, hp⟩ := words_no h hw hk hx
  exact ⟨p, false, hp, fun h => (by cases h), fun _ => rfl⟩
def c59t : ACode := (⟨_, by conv => (lhs; reduce; try simp only [lt1, Int.cast_ofNat_Int, Int.reduceNegSucc, UInt8.reduceOfNat])⟩ : {x // (codeOf Tryz.prog 59 (fun _ => false)).map (fun y => y.sub [1, 1, 1, 1, 1]) = some x}).1
def c59b : ACode := (⟨_, by conv => (lhs; reduce; try simp only [lt1, Int.cast_ofNat_Int, Int.reduceNegSucc, UInt8.reduceOfNat])⟩ : {x // (codeOf Tryz.prog 59 (fun _ => false)).map (fun y => y.sub [1, 1, 1, 1, 0, 0, 0, 1, 0]) = some x}).1
def rdF (ls : List Ln) (n : Int) (d : Bool) : AF := [(0, .pv (wordsP ls)), (2, .ptr 0 0 0), (5, .ptr 1 0 0), (6, .pv (.int .i64 n)), (7, .pv (.bool d))]
set_option maxHeartbeats 4000000 in
theorem line_aw (S : List RStep) (hS : S.length ≤ 1000000) (x : Ln) (r : List Ln) (hx : x.length ≤ 1000000) (hr : r.length ≤ 1000000) {R : Exit → AF → AM → Prop}
    (hstep : ∀ (kd : Int) (l : List Int), (wordO wRow 2 x = some l ∧ kd = 0 ∨ wordO wRow 2 x = none ∧ wordO wGraph 2 x = some l ∧ kd = 1) → ∀ f junk, Sub (rdF r 0 false) f → R .normal f ([zeroTB, tR 0 0 0 (S ++ [⟨kd, l.getD 0 0, l.getD 1 0⟩])] ++ sM (S ++ [⟨kd, l.getD 0 0, l.getD 1 0⟩]) ++ junk))
    (hdone : ∀ (k c a n : Int), (wordO wRow 2 x = none ∧ wordO wGraph 2 x = none ∧ wordO wSplit 2 x = some [c, a] ∧ k = 1 ∧ n = 2 ∧ True ∧ True ∨ wordO wRow 2 x = none ∧ wordO wGraph 2 x = none ∧ wordO wSplit 2 x = none ∧ wordO wCases 1 x = some [n] ∧ k = 2 ∧ c = 0 ∧ a = 0 ∧ True ∨ wordO wRow 2 x = none ∧ wordO wGraph 2 x = none ∧ wordO wSplit 2 x = none ∧ wordO wCases 1 x = none ∧ x = wClosed ∧ k = 0 ∧ c = 0 ∧ a = 0 ∧ n = 0) → ∀ f junk, Sub (rdF r n true) f → R .normal f ([zeroTB, tR k c a S] ++ sM S ++ junk))
    (hfail : wordO wRow 2 x = none → wordO wGraph 2 x = none → wordO wSplit 2 x = none → wordO wCases 1 x = none → ¬ x = wClosed → ∀ f junk, get f 2 = .ptr 0 0 0 → get f 3 = .pv .nilsl → get f 4 = .pv (.bool false) → R .ret f (zeroTB :: junk)) :
    Aw ctx (fun _ => false) 125 0 c59b R (rdF (x :: r) 0 false) ([zeroTB, tR 0 0 0 S] ++ sM S) := by
  obtain ⟨p1, b1, w1, q1, n1⟩ := words_any wRow 2 x (by decide) (by decide) hx
  obtain ⟨p2, b2, w2, q2, n2⟩ := words_any wGraph 2 x (by decide) (by decide) hx
  obtain ⟨p3, b3, w3, q3, n3⟩ := words_any wSplit 2 x (by decide) (by decide) hx
  obtain ⟨p4, b4, w4, q4, n4⟩ := words_any wCases 1 x (by decide) (by decide) hx
  unfold c59b rdF
  cases b1 with
  | true =>
    obtain ⟨l, hl, rfl⟩ := q1 rfl
    match l, hl, wordO_len hl with
    | [a, b], hl, _ =>
      cases S with
      | nil =>
        simp only [tR_nil, sM_nil, List.append_nil, List.cons_append, List.nil_append]
        repeat' (first
          | ((with_reducible show VCs _); first | exact True.intro | (simp only [vb, lb]; omega) | (simp only [vb, lb, hx, hr, w1, w2, w3, w4, treeC_len, rstepC_len, sum3]; and_intros <;> first | omega | (simp <;> omega)) | (simp [vb, hx, hr, w1, w2, w3, w4, treeC_len, rstepC_len, sum3] <;> omega))
          | ((with_reducible show All _); first | exact True.intro | ((try dsimp only [go_sem]); first | (simp [vb, hx, hr, w1, w2, w3, w4, treeC_len, rstepC_len, sum3] <;> omega) | (simp only [vb, and_true, true_implies]; (repeat' (first | (with_reducible assumption) | (with_reducible apply And.intro) | intro _ | ((fail_if_success (with_reducible show (_ : Int) ≤ _)); assumption))) <;> first | omega | rfl | (simp only [ab, hx, hr, w1, w2, w3, w4, treeC_len, rstepC_len, sum3]; done) | (simp [Nat.mul_one, hx, hr, w1, w2, w3, w4, treeC_len, rstepC_len, sum3] <;> omega) | (simp_all; done))))
          | exact (rfl : some _ = _)
          | (fail_if_success refine awL ?_
             refine evH [(30, { val := some (.pv (.str x)) }), (32, { val := some (.pv (wordsP r)) }), (35, { val := some (.pv (.tup [.sl 2 [.int .i64 a, .int .i64 b], .bool true])) }), (40, { val := some (.pv (.tup [p2, .bool b2])) }), (45, { val := some (.pv (.tup [p3, .bool b3])) }), (50, { val := some (.pv (.tup [p4, .bool b4])) })] ?_
             repeat1' dsimp only [c59, wordsP, zeroTB, tR_nil, sM_nil, go_sem]
             first
             | refine aw4 ?_ ?_ rfl ?_
             | apply aw3
             | apply aw2
             | (refine awB (fun hc => ?_) fun hc => ?_ <;> first | (cases hc; done) | (exfalso; first | (simp at hc <;> omega) | (simp [hx, hr, w1, w2, w3, w4, treeC_len, rstepC_len, sum3] at hc; done)) | (try simp only [bn] at hc; try contradiction))
             | skip))
        · exact ⟨sl_tail r, trivial⟩
        exact hstep 0 [a, b] (.inl ⟨hl, rfl⟩) _ [] (by (repeat' (first | exact trivial | refine And.intro (by first | rfl | (simp [get, Nat.beq, rdF, wordsP]; done) | (simp [get, Nat.beq, rdF, wordsP]; omega) | (dsimp only [get]; congr 1 <;> first | rfl | omega | (simp; done) | (simp; omega))) ?_)))
      | cons s0 l0 =>
        simp only [List.length_cons] at hS
        simp only [tR_cons, sM_cons, List.append_nil, List.cons_append, List.nil_append]
        repeat' (first
          | ((with_reducible show VCs _); first | exact True.intro | (simp only [vb, lb]; omega) | (simp only [vb, lb, hx, hr, w1, w2, w3, w4, treeC_len, rstepC_len, sum3]; and_intros <;> first | omega | (simp <;> omega)) | (simp [vb, hx, hr, w1, w2, w3, w4, treeC_len, rstepC_len, sum3] <;> omega))
          | ((with_reducible show All _); first | exact True.intro | ((try dsimp only [go_sem]); first | (simp [vb, hx, hr, w1, w2, w3, w4, treeC_len, rstepC_len, sum3] <;> omega) | (simp only [vb, and_true, true_implies]; (repeat' (first | (with_reducible assumption) | (with_reducible apply And.intro) | intro _ | ((fail_if_success (with_reducible show (_ : Int) ≤ _)); assumption))) <;> first | omega | rfl | (simp only [ab, hx, hr, w1, w2, w3, w4, treeC_len, rstepC_len, sum3]; done) | (simp [Nat.mul_one, hx, hr, w1, w2, w3, w4, treeC_len, rstepC_len, sum3] <;> omega) | (simp_all; done))))
          | exact (rfl : some _ = _)
          | (fail_if_success refine awL ?_
             refine evH [(30, { val := some (.pv (.str x)) }), (32, { val := some (.pv (wordsP r)) }), (35, { val := some (.pv (.tup [.sl 2 [.int .i64 a, .int .i64 b], .bool true])) }), (40, { val := some (.pv (.tup [p2, .bool b2])) }), (45, { val := some (.pv (.tup [p3, .bool b3])) }), (50, { val := some (.pv (.tup [p4, .bool b4])) })] ?_
             repeat1' dsimp only [c59, wordsP, zeroTB, tR_cons, sM_cons, go_sem]
             first
             | refine aw4 ?_ ?_ rfl ?_
             | apply aw3
             | apply aw2
             | (refine awB (fun hc => ?_) fun hc => ?_ <;> first | (cases hc; done) | (exfalso; first | (simp at hc <;> omega) | (simp [hx, hr, w1, w2, w3, w4, treeC_len, rstepC_len, sum3] at hc; done)) | (try simp only [bn] at hc; try contradiction))
             | skip))
        · exact ⟨sl_tail r, trivial⟩
        refine R_mem (hstep 0 [a, b] (.inl ⟨hl, rfl⟩) _ [] (by (repeat' (first | exact trivial | refine And.intro (by first | rfl | (simp [get, Nat.beq, rdF, wordsP]; done) | (simp [get, Nat.beq, rdF, wordsP]; omega) | (dsimp only [get]; congr 1 <;> first | rfl | omega | (simp; done) | (simp; omega))) ?_)))) ?_
        simp [tR, sM, rstepC, zeroTB]
  | false =>
    cases b2 with
    | true =>
      obtain ⟨l, hl, rfl⟩ := q2 rfl
      match l, hl, wordO_len hl with
      | [a, b], hl, _ =>
        cases S with
        | nil =>
          simp only [tR_nil, sM_nil, List.append_nil, List.cons_append, List.nil_append]
          repeat' (first
            | ((with_reducible show VCs _); first | exact True.intro | (simp only [vb, lb]; omega) | (simp only [vb, lb, hx, hr, w1, w2, w3, w4, treeC_len, rstepC_len, sum3]; and_intros <;> first | omega | (simp <;> omega)) | (simp [vb, hx, hr, w1, w2, w3, w4, treeC_len, rstepC_len, sum3] <;> omega))
            | ((with_reducible show All _); first | exact True.intro | ((try dsimp only [go_sem]); first | (simp [vb, hx, hr, w1, w2, w3, w4, treeC_len, rstepC_len, sum3] <;> omega) | (simp only [vb, and_true, true_implies]; (repeat' (first | (with_reducible assumption) | (with_reducible apply And.intro) | intro _ | ((fail_if_success (with_reducible show (_ : Int) ≤ _)); assumption))) <;> first | omega | rfl | (simp only [ab, hx, hr, w1, w2, w3, w4, treeC_len, rstepC_len, sum3]; done) | (simp [Nat.mul_one, hx, hr, w1, w2, w3, w4, treeC_len, rstepC_len, sum3] <;> omega) | (simp_all; done))))
            | exact (rfl : some _ = _)
            | (fail_if_success refine awL ?_
               refine evH [(30, { val := some (.pv (.str x)) }), (32, { val := some (.pv (wordsP r)) }), (35, { val := some (.pv (.tup [p1, .bool false])) }), (40, { val := some (.pv (.tup [.sl 2 [.int .i64 a, .int .i64 b], .bool true])) }), (45, { val := some (.pv (.tup [p3, .bool b3])) }), (50, { val := some (.pv (.tup [p4, .bool b4])) })] ?_
               repeat1' dsimp only [c59, wordsP, zeroTB, tR_nil, sM_nil, go_sem]
               first
               | refine aw4 ?_ ?_ rfl ?_
               | apply aw3
               | apply aw2
               | (refine awB (fun hc => ?_) fun hc => ?_ <;> first | (cases hc; done) | (exfalso; first | (simp at hc <;> omega) | (simp [hx, hr, w1, w2, w3, w4, treeC_len, rstepC_len, sum3] at hc; done)) | (try simp only [bn] at hc; try contradiction))
               | skip))
          · exact ⟨sl_tail r, trivial⟩
          exact hstep 1 [a, b] (.inr ⟨n1 rfl, hl, rfl⟩) _ [] (by (repeat' (first | exact trivial | refine And.intro (by first | rfl | (simp [get, Nat.beq, rdF, wordsP]; done) | (simp [get, Nat.beq, rdF, wordsP]; omega) | (dsimp only [get]; congr 1 <;> first | rfl | omega | (simp; done) | (simp; omega))) ?_)))
        | cons s0 l0 =>
          simp only [List.length_cons] at hS
          simp only [tR_cons, sM_cons, List.append_nil, List.cons_append, List.nil_append]
          repeat' (first
            | ((with_reducible show VCs _); first | exact True.intro | (simp only [vb, lb]; omega) | (simp only [vb, lb, hx, hr, w1, w2, w3, w4, treeC_len, rstepC_len, sum3]; and_intros <;> first | omega | (simp <;> omega)) | (simp [vb, hx, hr, w1, w2, w3, w4, treeC_len, rstepC_len, sum3] <;> omega))
            | ((with_reducible show All _); first | exact True.intro | ((try dsimp only [go_sem]); first | (simp [vb, hx, hr, w1, w2, w3, w4, treeC_len, rstepC_len, sum3] <;> omega) | (simp only [vb, and_true, true_implies]; (repeat' (first | (with_reducible assumption) | (with_reducible apply And.intro) | intro _ | ((fail_if_success (with_reducible show (_ : Int) ≤ _)); assumption))) <;> first | omega | rfl | (simp only [ab, hx, hr, w1, w2, w3, w4, treeC_len, rstepC_len, sum3]; done) | (simp [Nat.mul_one, hx, hr, w1, w2, w3, w4, treeC_len, rstepC_len, sum3] <;> omega) | (simp_all; done))))
            | exact (rfl : some _ = _)
            | (fail_if_success refine awL ?_
               refine evH [(30, { val := some (.pv (.str x)) }), (32, { val := some (.pv (wordsP r)) }), (35, { val := some (.pv (.tup [p1, .bool false])) }), (40, { val := some (.pv (.tup [.sl 2 [.int .i64 a, .int .i64 b], .bool true])) }), (45, { val := some (.pv (.tup [p3, .bool b3])) }), (50, { val := some (.pv (.tup [p4, .bool b4])) })] ?_
               repeat1' dsimp only [c59, wordsP, zeroTB, tR_cons, sM_cons, go_sem]
               first
               | refine aw4 ?_ ?_ rfl ?_
               | apply aw3
               | apply aw2
               | (refine awB (fun hc => ?_) fun hc => ?_ <;> first | (cases hc; done) | (exfalso; first | (simp at hc <;> omega) | (simp [hx, hr, w1, w2, w3, w4, treeC_len, rstepC_len, sum3] at hc; done)) | (try simp only [bn] at hc; try contradiction))
               | skip))
          · exact ⟨sl_tail r, trivial⟩
          refine R_mem (hstep 1 [a, b] (.inr ⟨n1 rfl, hl, rfl⟩) _ [] (by (repeat' (first | exact trivial | refine And.intro (by first | rfl | (simp [get, Nat.beq, rdF, wordsP]; done) | (simp [get, Nat.beq, rdF, wordsP]; omega) | (dsimp only [get]; congr 1 <;> first | rfl | omega | (simp; done) | (simp; omega))) ?_)))) ?_
          simp [tR, sM, rstepC, zeroTB]
    | false =>
      cases b3 with
      | true =>
        obtain ⟨l, hl, rfl⟩ := q3 rfl
        match l, hl, wordO_len hl with
        | [a, b], hl, _ =>
          cases S with
          | nil =>
            simp only [tR_nil, sM_nil, List.append_nil, List.cons_append, List.nil_append]
            repeat' (first
              | ((with_reducible show VCs _); first | exact True.intro | (simp only [vb, lb]; omega) | (simp only [vb, lb, hx, hr, w1, w2, w3, w4, treeC_len, rstepC_len, sum3]; and_intros <;> first | omega | (simp <;> omega)) | (simp [vb, hx, hr, w1, w2, w3, w4, treeC_len, rstepC_len, sum3] <;> omega))
              | ((with_reducible show All _); first | exact True.intro | ((try dsimp only [go_sem]); first | (simp [vb, hx, hr, w1, w2, w3, w4, treeC_len, rstepC_len, sum3] <;> omega) | (simp only [vb, and_true, true_implies]; (repeat' (first | (with_reducible assumption) | (with_reducible apply And.intro) | intro _ | ((fail_if_success (with_reducible show (_ : Int) ≤ _)); assumption))) <;> first | omega | rfl | (simp only [ab, hx, hr, w1, w2, w3, w4, treeC_len, rstepC_len, sum3]; done) | (simp [Nat.mul_one, hx, hr, w1, w2, w3, w4, treeC_len, rstepC_len, sum3] <;> omega) | (simp_all; done))))
              | exact (rfl : some _ = _)
              | (fail_if_success refine awL ?_
                 refine evH [(30, { val := some (.pv (.str x)) }), (32, { val := some (.pv (wordsP r)) }), (35, { val := some (.pv (.tup [p1, .bool false])) }), (40, { val := some (.pv (.tup [p2, .bool false])) }), (45, { val := some (.pv (.tup [.sl 2 [.int .i64 a, .int .i64 b], .bool true])) }), (50, { val := some (.pv (.tup [p4, .bool b4])) })] ?_
                 repeat1' dsimp only [c59, wordsP, zeroTB, tR_nil, sM_nil, go_sem]
                 first
                 | refine aw4 ?_ ?_ rfl ?_
                 | apply aw3
                 | apply aw2
                 | (refine awB (fun hc => ?_) fun hc => ?_ <;> first | (cases hc; done) | (exfalso; first | (simp at hc <;> omega) | (simp [hx, hr, w1, w2, w3, w4, treeC_len, rstepC_len, sum3] at hc; done)) | (try simp only [bn] at hc; try contradiction))
                 | skip))
            · exact ⟨sl_tail r, trivial⟩
            exact hdone 1 a b 2 (.inl ⟨n1 rfl, n2 rfl, hl, rfl, rfl, trivial, trivial⟩) _ [] (by (repeat' (first | exact trivial | refine And.intro (by first | rfl | (simp [get, Nat.beq, rdF, wordsP]; done) | (simp [get, Nat.beq, rdF, wordsP]; omega) | (dsimp only [get]; congr 1 <;> first | rfl | omega | (simp; done) | (simp; omega))) ?_)))
          | cons s0 l0 =>
            simp only [List.length_cons] at hS
            simp only [tR_cons, sM_cons, List.append_nil, List.cons_append, List.nil_append]
            repeat' (first
              | ((with_reducible show VCs _); first | exact True.intro | (simp only [vb, lb]; omega) | (simp only [vb, lb, hx, hr, w1, w2, w3, w4, treeC_len, rstepC_len, sum3]; and_intros <;> first | omega | (simp <;> omega)) | (simp [vb, hx, hr, w1, w2, w3, w4, treeC_len, rstepC_len, sum3] <;> omega))
              | ((with_reducible show All _); first | exact True.intro | ((try dsimp only [go_sem]); first | (simp [vb, hx, hr, w1, w2, w3, w4, treeC_len, rstepC_len, sum3] <;> omega) | (simp only [vb, and_true, true_implies]; (repeat' (first | (with_reducible assumption) | (with_reducible apply And.intro) | intro _ | ((fail_if_success (with_reducible show (_ : Int) ≤ _)); assumption))) <;> first | omega | rfl | (simp only [ab, hx, hr, w1, w2, w3, w4, treeC_len, rstepC_len, sum3]; done) | (simp [Nat.mul_one, hx, hr, w1, w2, w3, w4, treeC_len, rstepC_len, sum3] <;> omega) | (simp_all; done))))
              | exact (rfl : some _ = _)
              | (fail_if_success refine awL ?_
                 refine evH [(30, { val := some (.pv (.str x)) }), (32, { val := some (.pv (wordsP r)) }), (35, { val := some (.pv (.tup [p1, .bool false])) }), (40, { val := some (.pv (.tup [p2, .bool false])) }), (45, { val := some (.pv (.tup [.sl 2 [.int .i64 a, .int .i64 b], .bool true])) }), (50, { val := some (.pv (.tup [p4, .bool b4])) })] ?_
                 repeat1' dsimp only [c59, wordsP, zeroTB, tR_cons, sM_cons, go_sem]
                 first
                 | refine aw4 ?_ ?_ rfl ?_
                 | apply aw3
                 | apply aw2
                 | (refine awB (fun hc => ?_) fun hc => ?_ <;> first | (cases hc; done) | (exfalso; first | (simp at hc <;> omega) | (simp [hx, hr, w1, w2, w3, w4, treeC_len, rstepC_len, sum3] at hc; done)) | (try simp only [bn] at hc; try contradiction))
                 | skip))
            · exact ⟨sl_tail r, trivial⟩
            exact hdone 1 a b 2 (.inl ⟨n1 rfl, n2 rfl, hl, rfl, rfl, trivial, trivial⟩) _ [] (by (repeat' (first | exact trivial | refine And.intro (by first | rfl | (simp [get, Nat.beq, rdF, wordsP]; done) | (simp [get, Nat.beq, rdF, wordsP]; omega) | (dsimp only [get]; congr 1 <;> first | rfl | omega | (simp; done) | (simp; omega))) ?_)))
      | false =>
        cases b4 with
        | true =>
          obtain ⟨l, hl, rfl⟩ := q4 rfl
          match l, hl, wordO_len hl with
          | [a], hl, _ =>
            cases S with
            | nil =>
              simp only [tR_nil, sM_nil, List.append_nil, List.cons_append, List.nil_append]
              repeat' (first
                | ((with_reducible show VCs _); first | exact True.intro | (simp only [vb, lb]; omega) | (simp only [vb, lb, hx, hr, w1, w2, w3, w4, treeC_len, rstepC_len, sum3]; and_intros <;> first | omega | (simp <;> omega)) | (simp [vb, hx, hr, w1, w2, w3, w4, treeC_len, rstepC_len, sum3] <;> omega))
                | ((with_reducible show All _); first | exact True.intro | ((try dsimp only [go_sem]); first | (simp [vb, hx, hr, w1, w2, w3, w4, treeC_len, rstepC_len, sum3] <;> omega) | (simp only [vb, and_true, true_implies]; (repeat' (first | (with_reducible assumption) | (with_reducible apply And.intro) | intro _ | ((fail_if_success (with_reducible show (_ : Int) ≤ _)); assumption))) <;> first | omega | rfl | (simp only [ab, hx, hr, w1, w2, w3, w4, treeC_len, rstepC_len, sum3]; done) | (simp [Nat.mul_one, hx, hr, w1, w2, w3, w4, treeC_len, rstepC_len, sum3] <;> omega) | (simp_all; done))))
                | exact (rfl : some _ = _)
                | (fail_if_success refine awL ?_
                   refine evH [(30, { val := some (.pv (.str x)) }), (32, { val := some (.pv (wordsP r)) }), (35, { val := some (.pv (.tup [p1, .bool false])) }), (40, { val := some (.pv (.tup [p2, .bool false])) }), (45, { val := some (.pv (.tup [p3, .bool false])) }), (50, { val := some (.pv (.tup [.sl 1 [.int .i64 a], .bool true])) })] ?_
                   repeat1' dsimp only [c59, wordsP, zeroTB, tR_nil, sM_nil, go_sem]
                   first
                   | refine aw4 ?_ ?_ rfl ?_
                   | apply aw3
                   | apply aw2
                   | (refine awB (fun hc => ?_) fun hc => ?_ <;> first | (cases hc; done) | (exfalso; first | (simp at hc <;> omega) | (simp [hx, hr, w1, w2, w3, w4, treeC_len, rstepC_len, sum3] at hc; done)) | (try simp only [bn] at hc; try contradiction))
                   | skip))
              · exact ⟨sl_tail r, trivial⟩
              exact hdone 2 0 0 a (.inr (.inl ⟨n1 rfl, n2 rfl, n3 rfl, hl, rfl, rfl, rfl, trivial⟩)) _ [] (by (repeat' (first | exact trivial | refine And.intro (by first | rfl | (simp [get, Nat.beq, rdF, wordsP]; done) | (simp [get, Nat.beq, rdF, wordsP]; omega) | (dsimp only [get]; congr 1 <;> first | rfl | omega | (simp; done) | (simp; omega))) ?_)))
            | cons s0 l0 =>
              simp only [List.length_cons] at hS
              simp only [tR_cons, sM_cons, List.append_nil, List.cons_append, List.nil_append]
              repeat' (first
                | ((with_reducible show VCs _); first | exact True.intro | (simp only [vb, lb]; omega) | (simp only [vb, lb, hx, hr, w1, w2, w3, w4, treeC_len, rstepC_len, sum3]; and_intros <;> first | omega | (simp <;> omega)) | (simp [vb, hx, hr, w1, w2, w3, w4, treeC_len, rstepC_len, sum3] <;> omega))
                | ((with_reducible show All _); first | exact True.intro | ((try dsimp only [go_sem]); first | (simp [vb, hx, hr, w1, w2, w3, w4, treeC_len, rstepC_len, sum3] <;> omega) | (simp only [vb, and_true, true_implies]; (repeat' (first | (with_reducible assumption) | (with_reducible apply And.intro) | intro _ | ((fail_if_success (with_reducible show (_ : Int) ≤ _)); assumption))) <;> first | omega | rfl | (simp only [ab, hx, hr, w1, w2, w3, w4, treeC_len, rstepC_len, sum3]; done) | (simp [Nat.mul_one, hx, hr, w1, w2, w3, w4, treeC_len, rstepC_len, sum3] <;> omega) | (simp_all; done))))
                | exact (rfl : some _ = _)
                | (fail_if_success refine awL ?_
                   refine evH [(30, { val := some (.pv (.str x)) }), (32, { val := some (.pv (wordsP r)) }), (35, { val := some (.pv (.tup [p1, .bool false])) }), (40, { val := some (.pv (.tup [p2, .bool false])) }), (45, { val := some (.pv (.tup [p3, .bool false])) }), (50, { val := some (.pv (.tup [.sl 1 [.int .i64 a], .bool true])) })] ?_
                   repeat1' dsimp only [c59, wordsP, zeroTB, tR_cons, sM_cons, go_sem]
                   first
                   | refine aw4 ?_ ?_ rfl ?_
                   | apply aw3
                   | apply aw2
                   | (refine awB (fun hc => ?_) fun hc => ?_ <;> first | (cases hc; done) | (exfalso; first | (simp at hc <;> omega) | (simp [hx, hr, w1, w2, w3, w4, treeC_len, rstepC_len, sum3] at hc; done)) | (try simp only [bn] at hc; try contradiction))
                   | skip))
              · exact ⟨sl_tail r, trivial⟩
              exact hdone 2 0 0 a (.inr (.inl ⟨n1 rfl, n2 rfl, n3 rfl, hl, rfl, rfl, rfl, trivial⟩)) _ [] (by (repeat' (first | exact trivial | refine And.intro (by first | rfl | (simp [get, Nat.beq, rdF, wordsP]; done) | (simp [get, Nat.beq, rdF, wordsP]; omega) | (dsimp only [get]; congr 1 <;> first | rfl | omega | (simp; done) | (simp; omega))) ?_)))
        | false =>
          by_cases hw : x = wClosed
          · have hwb : (x == [99, 108, 111, 115, 101, 100]) = true := by rw [hw]; rfl
            cases S with
            | nil =>
              simp only [tR_nil, sM_nil, List.append_nil, List.cons_append, List.nil_append]
              repeat' (first
                | ((with_reducible show VCs _); first | exact True.intro | (simp only [vb, lb]; omega) | (simp only [vb, lb, hx, hr, w1, w2, w3, w4, treeC_len, rstepC_len, sum3, hwb]; and_intros <;> first | omega | (simp <;> omega)) | (simp [vb, hx, hr, w1, w2, w3, w4, treeC_len, rstepC_len, sum3, hwb] <;> omega))
                | ((with_reducible show All _); first | exact True.intro | ((try dsimp only [go_sem]); first | (simp [vb, hx, hr, w1, w2, w3, w4, treeC_len, rstepC_len, sum3, hwb] <;> omega) | (simp only [vb, and_true, true_implies]; (repeat' (first | (with_reducible assumption) | (with_reducible apply And.intro) | intro _ | ((fail_if_success (with_reducible show (_ : Int) ≤ _)); assumption))) <;> first | omega | rfl | (simp only [ab, hx, hr, w1, w2, w3, w4, treeC_len, rstepC_len, sum3, hwb]; done) | (simp [Nat.mul_one, hx, hr, w1, w2, w3, w4, treeC_len, rstepC_len, sum3, hwb] <;> omega) | (simp_all; done))))
                | exact (rfl : some _ = _)
                | (fail_if_success refine awL ?_
                   refine evH [(30, { val := some (.pv (.str x)) }), (32, { val := some (.pv (wordsP r)) }), (35, { val := some (.pv (.tup [p1, .bool false])) }), (40, { val := some (.pv (.tup [p2, .bool false])) }), (45, { val := some (.pv (.tup [p3, .bool false])) }), (50, { val := some (.pv (.tup [p4, .bool false])) })] ?_
                   repeat1' dsimp only [c59, wordsP, zeroTB, tR_nil, sM_nil, go_sem]
                   first
                   | refine aw4 ?_ ?_ rfl ?_
                   | apply aw3
                   | apply aw2
                   | (refine awB (fun hc => ?_) fun hc => ?_ <;> first | (cases hc; done) | (exfalso; first | (simp at hc <;> omega) | (simp [hx, hr, w1, w2, w3, w4, treeC_len, rstepC_len, sum3, hwb] at hc; done)) | (try simp only [bn] at hc; try contradiction))
                   | skip))
              · exact ⟨sl_tail r, trivial⟩
              exact hdone 0 0 0 0 (.inr (.inr ⟨n1 rfl, n2 rfl, n3 rfl, n4 rfl, hw, rfl, rfl, rfl, rfl⟩)) _ [] (by (repeat' (first | exact trivial | refine And.intro (by first | rfl | (simp [get, Nat.beq, rdF, wordsP]; done) | (simp [get, Nat.beq, rdF, wordsP]; omega) | (dsimp only [get]; congr 1 <;> first | rfl | omega | (simp; done) | (simp; omega))) ?_)))
            | cons s0 l0 =>
              simp only [List.length_cons] at hS
              simp only [tR_cons, sM_cons, List.append_nil, List.cons_append, List.nil_append]
              repeat' (first
                | ((with_reducible show VCs _); first | exact True.intro | (simp only [vb, lb]; omega) | (simp only [vb, lb, hx, hr, w1, w2, w3, w4, treeC_len, rstepC_len, sum3, hwb]; and_intros <;> first | omega | (simp <;> omega)) | (simp [vb, hx, hr, w1, w2, w3, w4, treeC_len, rstepC_len, sum3, hwb] <;> omega))
                | ((with_reducible show All _); first | exact True.intro | ((try dsimp only [go_sem]); first | (simp [vb, hx, hr, w1, w2, w3, w4, treeC_len, rstepC_len, sum3, hwb] <;> omega) | (simp only [vb, and_true, true_implies]; (repeat' (first | (with_reducible assumption) | (with_reducible apply And.intro) | intro _ | ((fail_if_success (with_reducible show (_ : Int) ≤ _)); assumption))) <;> first | omega | rfl | (simp only [ab, hx, hr, w1, w2, w3, w4, treeC_len, rstepC_len, sum3, hwb]; done) | (simp [Nat.mul_one, hx, hr, w1, w2, w3, w4, treeC_len, rstepC_len, sum3, hwb] <;> omega) | (simp_all; done))))
                | exact (rfl : some _ = _)
                | (fail_if_success refine awL ?_
                   refine evH [(30, { val := some (.pv (.str x)) }), (32, { val := some (.pv (wordsP r)) }), (35, { val := some (.pv (.tup [p1, .bool false])) }), (40, { val := some (.pv (.tup [p2, .bool false])) }), (45, { val := some (.pv (.tup [p3, .bool false])) }), (50, { val := some (.pv (.tup [p4, .bool false])) })] ?_
                   repeat1' dsimp only [c59, wordsP, zeroTB, tR_cons, sM_cons, go_sem]
                   first
                   | refine aw4 ?_ ?_ rfl ?_
                   | apply aw3
                   | apply aw2
                   | (refine awB (fun hc => ?_) fun hc => ?_ <;> first | (cases hc; done) | (exfalso; first | (simp at hc <;> omega) | (simp [hx, hr, w1, w2, w3, w4, treeC_len, rstepC_len, sum3, hwb] at hc; done)) | (try simp only [bn] at hc; try contradiction))
                   | skip))
              · exact ⟨sl_tail r, trivial⟩
              exact hdone 0 0 0 0 (.inr (.inr ⟨n1 rfl, n2 rfl, n3 rfl, n4 rfl, hw, rfl, rfl, rfl, rfl⟩)) _ [] (by (repeat' (first | exact trivial | refine And.intro (by first | rfl | (simp [get, Nat.beq, rdF, wordsP]; done) | (simp [get, Nat.beq, rdF, wordsP]; omega) | (dsimp only [get]; congr 1 <;> first | rfl | omega | (simp; done) | (simp; omega))) ?_)))
          · have hwb : (x == [99, 108, 111, 115, 101, 100]) = false := by simpa [wClosed] using hw
            cases S with
            | nil =>
              simp only [tR_nil, sM_nil, List.append_nil, List.cons_append, List.nil_append]
              repeat' (first
                | ((with_reducible show VCs _); first | exact True.intro | (simp only [vb, lb]; omega) | (simp only [vb, lb, hx, hr, w1, w2, w3, w4, treeC_len, rstepC_len, sum3, hwb]; and_intros <;> first | omega | (simp <;> omega)) | (simp [vb, hx, hr, w1, w2, w3, w4, treeC_len, rstepC_len, sum3, hwb] <;> omega))
                | ((with_reducible show All _); first | exact True.intro | ((try dsimp only [go_sem]); first | (simp [vb, hx, hr, w1, w2, w3, w4, treeC_len, rstepC_len, sum3, hwb] <;> omega) | (simp only [vb, and_true, true_implies]; (repeat' (first | (with_reducible assumption) | (with_reducible apply And.intro) | intro _ | ((fail_if_success (with_reducible show (_ : Int) ≤ _)); assumption))) <;> first | omega | rfl | (simp only [ab, hx, hr, w1, w2, w3, w4, treeC_len, rstepC_len, sum3, hwb]; done) | (simp [Nat.mul_one, hx, hr, w1, w2, w3, w4, treeC_len, rstepC_len, sum3, hwb] <;> omega) | (simp_all; done))))
                | exact (rfl : some _ = _)
                | (fail_if_success refine awL ?_
                   refine evH [(30, { val := some (.pv (.str x)) }), (32, { val := some (.pv (wordsP r)) }), (35, { val := some (.pv (.tup [p1, .bool false])) }), (40, { val := some (.pv (.tup [p2, .bool false])) }), (45, { val := some (.pv (.tup [p3, .bool false])) }), (50, { val := some (.pv (.tup [p4, .bool false])) })] ?_
                   repeat1' dsimp only [c59, wordsP, zeroTB, tR_nil, sM_nil, go_sem]
                   first
                   | refine aw4 ?_ ?_ rfl ?_
                   | apply aw3
                   | apply aw2
                   | (refine awB (fun hc => ?_) fun hc => ?_ <;> first | (cases hc; done) | (exfalso; first | (simp at hc <;> omega) | (simp [hx, hr, w1, w2, w3, w4, treeC_len, rstepC_len, sum3, hwb] at hc; done)) | (try simp only [bn] at hc; try contradiction))
                   | skip))
              · exact ⟨sl_tail r, trivial⟩
              exact hfail (n1 rfl) (n2 rfl) (n3 rfl) (n4 rfl) hw _ _ rfl rfl rfl
            | cons s0 l0 =>
              simp only [List.length_cons] at hS
              simp only [tR_cons, sM_cons, List.append_nil, List.cons_append, List.nil_append]
              repeat' (first
                | ((with_reducible show VCs _); first | exact True.intro | (simp only [vb, lb]; omega) | (simp only [vb, lb, hx, hr, w1, w2, w3, w4, treeC_len, rstepC_len, sum3, hwb]; and_intros <;> first | omega | (simp <;> omega)) | (simp [vb, hx, hr, w1, w2, w3, w4, treeC_len, rstepC_len, sum3, hwb] <;> omega))
                | ((with_reducible show All _); first | exact True.intro | ((try dsimp only [go_sem]); first | (simp [vb, hx, hr, w1, w2, w3, w4, treeC_len, rstepC_len, sum3, hwb] <;> omega) | (simp only [vb, and_true, true_implies]; (repeat' (first | (with_reducible assumption) | (with_reducible apply And.intro) | intro _ | ((fail_if_success (with_reducible show (_ : Int) ≤ _)); assumption))) <;> first | omega | rfl | (simp only [ab, hx, hr, w1, w2, w3, w4, treeC_len, rstepC_len, sum3, hwb]; done) | (simp [Nat.mul_one, hx, hr, w1, w2, w3, w4, treeC_len, rstepC_len, sum3, hwb] <;> omega) | (simp_all; done))))
                | exact (rfl : some _ = _)
                | (fail_if_success refine awL ?_
                   refine evH [(30, { val := some (.pv (.str x)) }), (32, { val := some (.pv (wordsP r)) }), (35, { val := some (.pv (.tup [p1, .bool false])) }), (40, { val := some (.pv (.tup [p2, .bool false])) }), (45, { val := some (.pv (.tup [p3, .bool false])) }), (50, { val := some (.pv (.tup [p4, .bool false])) })] ?_
                   repeat1' dsimp only [c59, wordsP, zeroTB, tR_cons, sM_cons, go_sem]
                   first
                   | refine aw4 ?_ ?_ rfl ?_
                   | apply aw3
                   | apply aw2
                   | (refine awB (fun hc => ?_) fun hc => ?_ <;> first | (cases hc; done) | (exfalso; first | (simp at hc <;> omega) | (simp [hx, hr, w1, w2, w3, w4, treeC_len, rstepC_len, sum3, hwb] at hc; done)) | (try simp only [bn] at hc; try contradiction))
                   | skip))
              · exact ⟨sl_tail r, trivial⟩
              exact hfail (n1 rfl) (n2 rfl) (n3 rfl) (n4 rfl) hw _ _ rfl rfl rfl
end Pur
end Go.Proofs.YtaleoeblooeglaaGreatDoor
