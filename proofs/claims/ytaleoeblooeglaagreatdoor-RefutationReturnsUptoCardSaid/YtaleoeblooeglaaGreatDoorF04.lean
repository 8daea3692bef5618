/-
  The small machine and the program's functions on it. (Bld RfG RfH RfZ RfZA RfI RfV RfW RfX RfY RfZB RfPb RfAx RfAy RfSm RfLa Typ RfTy RfTf RfCdForms RfPl RfTr2 RfCdReturns)
-/
import Derived.Test.YtaleoeblooeglaaGreatDoorF03
import Derived.Lib.ItoaLen
import Derived.Lib.ItoaMem
import Derived.Lib.AtoiAll
import Derived.Lib.Atoi
set_option maxRecDepth 10000
set_option linter.unusedSimpArgs false
set_option linter.unusedVariables false
namespace Go.Proofs.YtaleoeblooeglaaGreatDoor
namespace Pur
open Go.RowKit
attribute [local go_sem] evOps evOp evOpV evRun evK argF List.map hintAt stripped get put tmpsOf tmpOf tmpO tmpL tmpP conds ev cond_true cond_false Nat.beq Nat.ble Nat.add quiet After thenR blockR IfD List.append_eq List.nil_append List.cons_append evInt exactI_a exactI_b exactI_c exactI_d exactI_e exactI_f evBin evStr evBool evUn guardC calm quiet.isCallK evPick List.getElem?_cons_zero List.getElem?_cons_succ fromCells fromPVs cellsOf List.all oneCell List.length_cons List.length_nil mkAgg plains List.drop List.take List.getD Option.getD_some bo1 bo2 ba1 ba2 bn1 bn2 kk_i64 kk_u8 kk_i32 kk_u64 setAt List.set Nat.reduceAdd Nat.reduceMul evCall safeCall refsOf refsIn scalarA scalar scalarL thawL mapAll thawArg thawRef after freeze RetD RetE evResult evRess evRes1 thaw_pv mkTup nilOf_a nilOf_b nilOf_bb nilOf_c nilOf_d nilOf_e nilOf_f nilOf_g nilOf_h nilOf_i nilOf_j nilOf_k nilOf_l nilOf_m eqLeaf_a eqLeaf_b eqLeaf_c eqOffs evMM bytesOf evOpsF AfterF footOf footRefs notIn indepF footAt freeOk still evParts fillA zeros intOfA boundA srcOf List.isEmpty appNil_0 appNil_1 appNil_2 Int.reduceToNat Nat.mul_one Nat.reduceSub evC evOpsT evOpsTF autoH tabHint look hintD strip guarded RetPD RetRD mpLen keysOk leafKA leafK bitI nilOf_n nilOf_o Bool.or_false Bool.or_true Bool.and_true Bool.and_false Nat.blt renF renM renB renV idxOf solF solM solA solV thawRef ev1
section
open Go.Shelf
theorem lies_one {P : Program} {T : TypeId} {c : Nat} (hd : P.depth ≠ 0) (hc : P.cellsOf T = 2) (h : 2 ≤ c) : liesAt P P.depth T (c / P.cellsOf T) 0 T 1 = true := by
 obtain ⟨d, hd⟩ := Nat.exists_eq_succ_of_ne_zero hd
 have h1 : sameLayout P P.depth T T = true := by rw [hd]; simp [sameLayout]
 have h2 : rowAt P (sameLayout P P.depth · T) P.depth T (c / P.cellsOf T) 0 1 = true := by
  rw [hc]
  have : 1 ≤ c / 2 := by omega
  rw [hd] at h1 ⊢
  simp [rowAt, hc, this, h1]
 rw [hd] at h2 ⊢
 simp only [liesAt]
 rw [hd]
 simp [h2]
set_option maxHeartbeats 1000000 in
set_option maxRecDepth 100000 in
theorem copyCheck_fresh {P : Program} {ρ : Ren} (L : Go.Proofs.Lays.n240 P ρ) (X : Builder.X72 P ρ) (hd : P.depth ≠ 0) (hc2 : P.cellsOf (ρ.t 72) = 2) (b c : Nat) (hc : 2 ≤ c) (w : World) (h0 : w.cell? ⟨b, 0, none⟩ = some (.pointer none)) (hsh : w.shape? b = some ((ρ.t 72), c)) (hfz : w.frozen? ⟨b, 0, none⟩ = false) :
  Calls P (ρ.f 240) #[.pointer (some ⟨b, 0, none⟩)] w fun e w' => e = .returned (.tuple #[]) ∧ w' = w.setCell ⟨b, 0, none⟩ (.pointer (some ⟨b, 0, none⟩)) := by
 obtain ⟨j, hj, hjs⟩ := Option.map_eq_some_iff.1 X.sizeBuilder
 have mixed := L.mixed
 have t72 := L.t72; have a72 := L.a72; have z72 := L.z72; have v72 := L.v72; have u72 := run_underlying L.t72
 have t70 := L.t70; have a70 := L.a70; have z70 := L.z70; have v70 := L.v70; have u70 := run_underlying L.t70
 have t9 := L.t9; have a9 := L.a9; have z9 := L.z9; have v9 := L.v9; have u9 := run_underlying L.t9
 have t4 := L.t4; have a4 := L.a4; have z4 := L.z4; have v4 := L.v4; have u4 := run_underlying L.t4
 have t164 := L.t164; have a164 := L.a164; have z164 := L.z164; have v164 := L.v164; have u164 := run_underlying L.t164
 go_enter L.f240, Go.Proofs.Body.n240_ntmps ρ
 go_wp2
 rw [Lib.run_to_unsafe w ⟨b, 0, none⟩ L.t70 L.t164 hj (by rw [hjs]; decide) hsh (Nat.lt_of_lt_of_le Nat.zero_lt_two hc)]
 simp only [Result.andThen]
 rw [Oper.upon_value]
 go_wp2
 rw [run_callFunc_extern L.f276 (by kernel_rfl) (by kernel_rfl) (by kernel_rfl) (e := Extern.AbiNoEscape.same) (by kernel_rfl)]
 rw [Lib.run_noEscape]
 simp only [Result.andThen]
 rw [Oper.upon_value]
 go_wp2
 rw [Lib.run_from_unsafe w ⟨b, 0, none⟩ L.t164 L.t70 hj hsh (lies_one hd hc2 hc)]
 simp only [Result.andThen]
 rw [Oper.upon_value]
 go_wp2
 go_end0
 exact ⟨rfl, rfl⟩
theorem pw_one {α β : Type} {R : α → β → Prop} {a : α} {m : List β} (h : PW R [a] m) : ∃ b, m = [b] ∧ R a b := by
 obtain ⟨hl, hat⟩ := h
 match m, hl with
 | [b], _ => exact ⟨b, rfl, hat 0 a b rfl rfl⟩
def bldB (x y : AV) (g : Nat) : Blk := ⟨[x, y], g, 2, 78, false⟩
set_option maxHeartbeats 1000000 in
theorem copyCheck_first {μ : AM} {b g : Nat} {y : AV} (hk : μ[b]? = some (bldB (.pv (.val (.pointer none))) y g)) : RefOK ctx 111 [.ptr b g 0] μ (.pv (.tup [])) (μ.set b (bldB (.ptr b g 0) y g)) := by
 refine ⟨by kernel_rfl, fun w0 S γ w vs hW hp => ?_⟩
 obtain ⟨v, rfl, hv⟩ := pw_one hp
 obtain ⟨e, cs, he, hgen, hsz, hheap, hcs, hlen, hcells, hB, hS⟩ := hW.mem.blk b _ hk (by simp [bldB])
 replace hheap := hheap.free rfl
 have hxv : v = .pointer (some ⟨e.cb, 0, none⟩) := by
  cases hv with
  | ptr _ _ _ _ e' ad hb hg' hv' hs' =>
   rw [he] at hb; injection hb with hb; subst hb
   exact hs' hgen.symm
 subst hxv
 obtain ⟨v0, c0, r0, -⟩ := hcells 0 _ rfl
 obtain ⟨v1, c1, r1, o1⟩ := hcells 1 _ rfl
 have r0 := inv_val r0
 subst r0
 have hcs2 : 2 ≤ cs.size := by have : 2 ≤ e.cap := hlen; omega
 have hcell : w.cell? ⟨e.cb, 0, none⟩ = some (.pointer none) := by simp [World.cell?, hheap, c0]
 have hshape : w.shape? e.cb = some (78, cs.size) := by simp [World.shape?, hheap]; rfl
 have hcall := copyCheck_fresh bldLays bldX (by decide) (by kernel_rfl) e.cb cs.size hcs2 w hcell hshape (Lib.frozen_of_heap hheap 0)
 refine hcall.mono ?_
 rintro e' w' ⟨rfl, rfl⟩
 rw [setCell_eq_setRow w e.cb 0 cs _ _ _ hheap]
 obtain ⟨hW', hE⟩ := hW.write hk he hheap hcs (by simp [bldB]) rfl (avs := [.ptr b g 0, y]) (ncs := cs.setIfInBounds 0 (.pointer (some ⟨e.cb, 0, none⟩))) (by simp) (by simp; omega) fun i x hx => by
  match i, hx with
  | 0, hx =>
   injection hx with hx; subst hx
   exact ⟨_, by rw [Array.getElem?_setIfInBounds_self_of_lt (by omega)], hv, rfl⟩
  | 1, hx =>
   injection hx with hx; subst hx
   exact ⟨v1, by rw [Array.getElem?_setIfInBounds_ne (by decide)]; exact c1, r1, o1⟩
  | i + 2, hx => simp at hx
 exact ⟨_, S, γ, rfl, hE, hW', .pv _ _ (.tup _ _ rfl (fun i p c h => by simp at h))⟩
set_option maxHeartbeats 1000000 in
theorem copyCheck_again {μ : AM} {b g : Nat} {y : AV} (hk : μ[b]? = some (bldB (.ptr b g 0) y g)) : RefOK ctx 111 [.ptr b g 0] μ (.pv (.tup [])) μ := by
 refine ⟨by kernel_rfl, fun w0 S γ w vs hW hp => ?_⟩
 obtain ⟨v, rfl, hv⟩ := pw_one hp
 obtain ⟨e, cs, he, hgen, hsz, ⟨_, hheap, -⟩, hcs, hlen, hcells, hB, hS⟩ := hW.mem.blk b _ hk (by simp [bldB])
 have ptrv : ∀ {u : Value}, VR w S γ (.ptr b g 0) u → u = .pointer (some ⟨e.cb, 0, none⟩) := fun {u} hv => by
  cases hv with
  | ptr _ _ _ _ e' ad hb hg' hv' hs' =>
   rw [he] at hb; injection hb with hb; subst hb
   exact hs' hgen.symm
 have hxv := ptrv hv
 subst hxv
 obtain ⟨v0, c0, r0, -⟩ := hcells 0 _ rfl
 have r0 := ptrv r0
 subst r0
 have hcell : w.cell? ⟨e.cb, 0, none⟩ = some (.pointer (some ⟨e.cb, 0, none⟩)) := by simp [World.cell?, hheap, c0]
 have hcall := Go.Proofs.Any.Builder_copyCheck_used bldLays bldX e.cb w hcell
 refine hcall.mono ?_
 rintro e' w' ⟨rfl, rfl⟩
 exact ⟨_, S, γ, rfl, .refl _ _ _, hW, .pv _ _ (.tup _ _ rfl (fun i p c h => by simp at h))⟩
def c9043 : ACode := (⟨_, by conv => (lhs; reduce; try simp only [lt1, Int.cast_ofNat_Int, Int.reduceNegSucc, UInt8.reduceOfNat])⟩ : {x // codeOf Tryz.prog 83 (fun _ => false) = some x}).1
theorem fn9043 : fnOf Tryz.prog 83 (fun _ => false) = some (c9043, [.t 4, .t 5], 19, true) := by kernel_rfl
def rowB (l : List UInt8) (j : Nat) : Blk := ⟨byteA l, j, 1, 5, false⟩
theorem okMem_set {μ : AM} {m b : Nat} {k : Blk} (h : okMem μ m = true) (hk : k.cells.all (bnd 3 m) = true) : okMem (μ.set b k) m = true := by
 unfold okMem at *
 rw [List.all_eq_true] at h ⊢
 intro x hx
 rcases List.mem_or_eq_of_mem_set hx with h1 | h1
 ·exact h x h1
 ·subst h1; exact hk
theorem bnd_more : ∀ (d : Nat) {v : AV} {m m' : Nat}, m ≤ m' → bnd d m v = true → bnd d m' v = true := by
 intro d
 induction d with
 | zero =>
  intro v m m' hmm h
  cases v <;> simp only [bnd] at h ⊢ <;> first | exact h | (have := Nat.blt_eq.mp h; exact Nat.blt_eq.mpr (by omega))
 | succ d ih =>
  intro v m m' hmm h
  cases v <;> simp only [bnd] at h ⊢ <;> first
   | exact h
   | (have := Nat.blt_eq.mp h; exact Nat.blt_eq.mpr (by omega))
   | (rw [List.all_eq_true] at h ⊢; exact fun x hx => ih hmm (h x hx))
   | exact ih hmm h
theorem okMem_add {μ : AM} {k : Blk} {m : Nat} (h : okMem μ m = true) (hk : k.cells.all (bnd 3 m) = true) : okMem (μ ++ [k]) m = true := by
 unfold okMem at *
 rw [List.all_append, h]
 simpa using hk
theorem byteA_bnd (l : List UInt8) (m : Nat) : (byteA l).all (bnd 3 m) = true := by
 rw [List.all_eq_true]
 intro x hx
 simp only [byteA, List.mem_map] at hx
 obtain ⟨c, -, rfl⟩ := hx
 rfl
theorem okMem_more {μ : AM} {m m' : Nat} (h : okMem μ m = true) (hm : m ≤ m') : okMem μ m' = true := by
 unfold okMem at *
 rw [List.all_eq_true] at *
 intro k hk
 have := h k hk
 rw [List.all_eq_true] at *
 exact fun x hx => bnd_more 3 hm (this x hx)
set_option maxHeartbeats 2000000 in
theorem write_first {μ : AM} (hμ : okMem μ μ.length = true) {b g : Nat} (hk : μ[b]? = some (bldB (.pv (.val (.pointer none))) (.pv .nilsl) g)) (l : List UInt8) (hl : 1 ≤ l.length) (hl2 : l.length ≤ 140737488355328) :
  RefOK ctx 83 [.ptr b g 0, .pv (.str l)] μ (.pv (.tup [.int .i64 l.length, .val .nilIface])) (μ.set b (bldB (.ptr b g 0) (.ref μ.length 0 0 l.length) g) ++ [rowB l 0]) := by
 have h := copyCheck_first hk
 have hb : b < μ.length := (List.getElem?_eq_some_iff.mp hk).1
 refine ref_body' (C := ctx) (Fn.of fn9043 rfl) rfl (by simp) rfl ?_ ?_
 ·refine okMem_add (okMem_set (okMem_more hμ (by simp)) ?_) (byteA_bnd l _)
  simp [bldB, bnd, Nat.blt]
  omega
 unfold c9043
 refine evA ?_
 dsimp only [go_sem]
 try dsimp only [go_sem]
 refine ⟨(by simp [vb] <;> omega), (by simp [vb] <;> omega), ?_⟩
 refine evH [(7, { val := some (.pv (.tup [])), mem := some (μ.set b (bldB (.ptr b g 0) (.pv .nilsl) g)) })] ?_
 dsimp only [go_sem]
 try dsimp only [go_sem]
 refine ⟨(by simp [vb] <;> omega), ?_, ?_⟩
 ·exact ⟨h, trivial⟩
 have hk1 : ∀ x, (μ.set b x)[b]? = some x := fun x => by rw [List.getElem?_set_self hb]
 have hs1 : ∀ x y, (μ.set b x ++ [y])[b]? = some x := fun x y => by rw [List.getElem?_append_left (by simpa using hb), List.getElem?_set_self hb]
 have hs2 : ∀ x y z, (μ.set b x ++ [y]).set b z = μ.set b z ++ [y] := fun x y z => by rw [List.set_append_left _ _ (by simpa using hb), List.set_set]
 refine evH [(14, { mode := 1 })] ?_
 simp only [hk1, hs1, hs2, bldB, List.length_set, mem2_get, mem2_last, mem2_set0, mem2_set1, mem_last, mem_set, mem_len, go_sem]
 try simp only [hk1, hs1, hs2, bldB, List.length_set, mem2_get, mem2_last, mem2_set0, mem2_set1, mem_last, mem_set, mem_len, go_sem]
 refine ⟨(by simp [vb] <;> omega), (by simp [vb] <;> omega), ?_⟩
 refine evA ?_
 dsimp only [go_sem]
 try dsimp only [go_sem]
 refine ⟨(by simp [vb] <;> omega), (by simp [vb] <;> omega), ?_⟩
 refine evA ?_
 dsimp only [go_sem]
 exact ⟨⟨(by first | exact True.intro | (simp only [vb, lb]; omega) | (simp [vb] <;> omega)), rfl⟩, [], (List.append_nil _).symm⟩
set_option maxHeartbeats 2000000 in
theorem write_more {μ : AM} (hμ : okMem μ μ.length = true) {b g r j : Nat} {old : List UInt8} (hne : r ≠ b) (hk : μ[b]? = some (bldB (.ptr b g 0) (.ref r j 0 old.length) g)) (hr : μ[r]? = some (rowB old j)) (l : List UInt8) (hl2 : old.length + l.length ≤ 140737488355328) :
  RefOK ctx 83 [.ptr b g 0, .pv (.str l)] μ (.pv (.tup [.int .i64 l.length, .val .nilIface])) ((μ.set r (rowB (old ++ l) (j + 1))).set b (bldB (.ptr b g 0) (.ref r (j + 1) 0 (old.length + l.length)) g)) := by
 have h := copyCheck_again hk
 have hb : b < μ.length := (List.getElem?_eq_some_iff.mp hk).1
 have hrl : r < μ.length := (List.getElem?_eq_some_iff.mp hr).1
 refine ref_body' (C := ctx) (Fn.of fn9043 rfl) rfl (by simp) rfl ?_ ?_
 ·refine okMem_set (okMem_set (okMem_more hμ (by simp)) (byteA_bnd _ _)) ?_
  simp [bldB, bnd, Nat.blt]
  omega
 unfold c9043
 refine evA ?_
 dsimp only [go_sem]
 try dsimp only [go_sem]
 refine ⟨(by simp [vb] <;> omega), (by simp [vb] <;> omega), ?_⟩
 refine evH [(7, { val := some (.pv (.tup [])), mem := some μ })] ?_
 dsimp only [go_sem]
 try dsimp only [go_sem]
 refine ⟨(by simp [vb] <;> omega), ?_, ?_⟩
 ·exact ⟨h, trivial⟩
 unfold bldB at hk
 unfold rowB at hr
 have hs1 : ∀ x, (μ.set r x)[b]? = μ[b]? := fun x => by rw [List.getElem?_set_ne hne]
 have hap : byteA old ++ byteA l = byteA (old ++ l) := by simp [byteA]
 have hol : (byteA old).length = old.length := byteA_len old
 refine evA ?_
 simp only [hk, hr, hs1, hap, mem2_get, mem2_last, mem2_set0, mem2_set1, mem_last, mem_set, mem_len, go_sem]
 try simp only [hk, hr, hs1, hap, mem2_get, mem2_last, mem2_set0, mem2_set1, mem_last, mem_set, mem_len, go_sem]
 refine ⟨(by simp [vb, hol] <;> omega), (by simp [vb, hol] <;> omega), ?_⟩
 refine evA ?_
 dsimp only [go_sem]
 try dsimp only [go_sem]
 refine ⟨(by simp [vb] <;> omega), (by simp [vb] <;> omega), ?_⟩
 refine evA ?_
 dsimp only [go_sem]
 exact ⟨⟨(by first | exact True.intro | (simp only [vb, lb]; omega) | (simp [vb] <;> omega)), rfl⟩, [], (List.append_nil _).symm⟩
def c9046 : ACode := (⟨_, by conv => (lhs; reduce; try simp only [lt1, Int.cast_ofNat_Int, Int.reduceNegSucc, UInt8.reduceOfNat])⟩ : {x // codeOf Tryz.prog 51 (fun _ => false) = some x}).1
theorem fn9046 : fnOf Tryz.prog 51 (fun _ => false) = some (c9046, [.t 2], 8, true) := by kernel_rfl
theorem blen_ok {μ : AM} (hμ : okMem μ μ.length = true) {b g r j n : Nat} {x : AV} (hk : μ[b]? = some (bldB x (.ref r j 0 n) g)) :
  RefOK ctx 51 [.ptr b g 0] μ (.pv (.int .i64 n)) μ := by
 refine ref_body' (C := ctx) (Fn.of fn9046 rfl) rfl (by simp) rfl hμ ?_
 unfold c9046
 unfold bldB at hk
 refine evA ?_
 dsimp only [go_sem]
 try dsimp only [go_sem]
 refine ⟨(by simp [vb] <;> omega), (by simp [vb] <;> omega), ?_⟩
 refine evA ?_
 simp only [hk, mem2_get, mem2_last, mem2_set0, mem2_set1, mem_last, mem_set, mem_len, go_sem]
 try simp only [hk, mem2_get, mem2_last, mem2_set0, mem2_set1, mem_last, mem_set, mem_len, go_sem]
 refine ⟨(by simp [vb] <;> omega), (by simp [vb] <;> omega), ?_⟩
 refine evA ?_
 dsimp only [go_sem]
 exact ⟨⟨(by first | exact True.intro | (simp only [vb, lb]; omega) | (simp [vb] <;> omega)), rfl⟩, [], (List.append_nil _).symm⟩
set_option maxHeartbeats 1000000 in
set_option maxRecDepth 100000 in
theorem string_at {P : Program} {ρ : Ren} (L : Go.Proofs.Lays.n169 P ρ) (X : Builder.Extra P ρ) (b g cap : Nat) (cur : Array Value) (l : List UInt8) (w : World) (h0 : l ≠ [])
  (hc1 : w.cell? ⟨b, 1, none⟩ = some (.slice (some ⟨g, 0, none⟩) l.length cap)) (hg : w.heap[g]? = some (.cells cur (ρ.t 5) (0, 0))) (hcap : l.length ≤ cap) (hcm : cap ≤ maxLen) (hcur : l.length ≤ cur.size)
  (hcells : ∀ (j : Nat) x, l[j]? = some x → cur[j]? = some (.int .u8 x.toNat)) :
  Calls P (ρ.f 169) #[.pointer (some ⟨b, 0, none⟩)] w fun e w' => e = .returned (.string ⟨l.toArray⟩) ∧ w' = w.drew.freeze ⟨g, 0, none⟩ l.length := by
 have hl0 : l.length ≠ 0 := by simpa using h0
 have c1 : w.drew.cell? ⟨b, 1, none⟩ = some (.slice (some ⟨g, 0, none⟩) l.length cap) := hc1
 have hSD : (Builtin.unsafeSliceData_ #[(ρ.t 37)] (ρ.t 127) #[.slice (some ⟨g, 0, none⟩) l.length cap]).run P w.drew = .ok (.pointer (some ⟨g, 0, none⟩)) w.drew :=
  Lib.run_unsafeSliceData_row _ _ _ _ _ _ (by omega)
 have hUS : (Builtin.unsafeString_ #[(ρ.t 127), (ρ.t 3)] (ρ.t 9) #[.pointer (some ⟨g, 0, none⟩), .int .i64 l.length]).run P w.drew = .ok (.string ⟨l.toArray⟩) (w.drew.freeze ⟨g, 0, none⟩ l.length) := by
  refine Lib.run_unsafeString_row w.drew (ρ.t 127) (ρ.t 3) (ρ.t 9) (ρ.t 5) L.t127 X.cellsByte g cur.size (by have hg' : w.drew.heap[g]? = some (.cells cur (ρ.t 5) (0, 0)) := hg; simp [World.shape?, hg']) l h0 (by omega) (by unfold maxLen at hcm; omega) ?_
  intro j x hx
  have hg' : w.drew.heap[g]? = some (.cells cur (ρ.t 5) (0, 0)) := hg
  rw [Addr.add_lit, Nat.zero_add]
  simp [World.cell?, hg', hcells j x hx]
 have mixed := L.mixed
 have t72 := L.t72; have a72 := L.a72; have z72 := L.z72; have v72 := L.v72; have u72 := run_underlying L.t72
 have t70 := L.t70; have a70 := L.a70; have z70 := L.z70; have v70 := L.v70; have u70 := run_underlying L.t70
 have t37 := L.t37; have a37 := L.a37; have z37 := L.z37; have v37 := L.v37; have u37 := run_underlying L.t37
 have t127 := L.t127; have a127 := L.a127; have z127 := L.z127; have v127 := L.v127; have u127 := run_underlying L.t127
 have t3 := L.t3; have a3 := L.a3; have z3 := L.z3; have v3 := L.v3; have u3 := run_underlying L.t3
 have t9 := L.t9; have a9 := L.a9; have z9 := L.z9; have v9 := L.v9; have u9 := run_underlying L.t9
 have t5 := X.t5; have a5 := X.a5; have z5 := X.z5; have v5 := X.v5; have u5 := run_underlying X.t5
 go_enter L.f169, Go.Proofs.Body.n169_ntmps ρ
 go_wp2
 go_region_o
 all_goals (go_wp2; go_ret; exact ⟨rfl, rfl⟩)
theorem Wd.froze {C : Ctx} {w0 w : World} {S : Nat → Prop} {γ : Gh} {μ : AM} (hW : Wd C w0 S γ μ w) {b : Nat} {k : Blk} {e : Ent} {cs : Array Value} {w' : World} {fz : Nat × Nat} (hk : μ[b]? = some k) (he : γ b = some e) (hheap : w.heap[e.cb]? = some (.cells cs k.elem (0, 0))) (hz : k.sz ≠ 0) (hfz : k.frozen = false)
  (hos : w'.os = w.os) (htape : w'.tape = w.tape) (hout : w'.output = w.output) (hsize : w.heap.size = w'.heap.size) (hblk : ∀ g, g ≠ e.cb → w'.heap[g]? = w.heap[g]?) (hrow : w'.heap[e.cb]? = some (.cells cs k.elem fz)) :
  Wd C w0 S γ (μ.set b { k with frozen := true }) w' ∧ Ext w S γ w' S γ := by
 obtain ⟨e', cs', he', hgen, hsz, hheap', hcs', hlen', hcells, hB, hS⟩ := hW.mem.blk b k hk hz
 rw [he] at he'; injection he' with he'; subst he'
 replace hheap' := hheap'.free hfz
 rw [hheap] at hheap'; injection hheap' with hheap'; injection hheap' with hheap'; subst hheap'
 have hE : Ext w S γ w' S γ := ⟨⟨fun _ h => h, fun g hg => hblk g (fun h => hS hfz (h ▸ hg))⟩, fun b e h => ⟨e, h, Nat.le_refl _, fun _ => rfl⟩, fun _ h => .inl h, fun b e h => .inl ⟨b, e, h, rfl⟩, by omega, fun g _ hn => hblk g (fun h => hn b e he h.symm)⟩
 refine ⟨⟨⟨fun b' k' hk' hz' => ?_, fun b' k' hk' hz' => ?_, fun b' hb' => hW.mem.none b' (by simpa using hb'), hW.mem.inj⟩, ?_, fun g hg => by have := hW.live g hg; omega, hW.env⟩, hE⟩
 ·by_cases hbb : b = b'
  ·subst hbb
   have hbl : b < μ.length := (List.getElem?_eq_some_iff.mp hk).1
   rw [List.getElem?_set_self hbl] at hk'
   injection hk' with hk'
   subst hk'
   exact ⟨e, cs, he, hgen, hsz, ⟨fz, hrow, fun h => by cases h⟩, hcs', hlen', fun i x hx => by
    obtain ⟨v, h1, h2, h3⟩ := hcells i x hx
    exact ⟨v, h1, h2.ext hE, h3⟩, hB, fun h => by cases h⟩
  ·rw [List.getElem?_set_ne hbb] at hk'
   obtain ⟨e2, cs2, h1, h2, h3, h4, h5, h6, h7, h8, h9⟩ := hW.mem.blk b' k' hk' hz'
   have hne : e2.cb ≠ e.cb := fun h => hbb (hW.mem.inj b b' e e2 he h1 h.symm)
   exact ⟨e2, cs2, h1, h2, h3, h4.congr (hblk e2.cb hne) rfl id, h5, h6, fun i x hx => by
    obtain ⟨v, g1, g2, g3⟩ := h7 i x hx
    exact ⟨v, g1, g2.ext hE, g3⟩, h8, h9⟩
 ·have hbb : b ≠ b' := fun h => by
   subst h
   have hbl : b < μ.length := (List.getElem?_eq_some_iff.mp hk).1
   rw [List.getElem?_set_self hbl] at hk'
   injection hk' with hk'
   subst hk'
   exact hz hz'
  rw [List.getElem?_set_ne hbb] at hk'
  obtain ⟨e2, h1, h2, h3, h4, h5, h6⟩ := hW.mem.mp b' k' hk' hz'
  have hne : e2.cb ≠ e.cb := fun h => hbb (hW.mem.inj b b' e e2 he h1 h.symm)
  exact ⟨e2, h1, h2, h3, h4.ext hE (hblk e2.cb hne), h5, h6⟩
 ·exact hW.below.trans ⟨hos, htape, hout, by omega, fun g hg => hblk g (by omega)⟩
set_option maxHeartbeats 1000000 in
theorem bstring_ok {μ : AM} {b g r j : Nat} {x : AV} {l : List UInt8} (h0 : l ≠ []) (hk : μ[b]? = some (bldB x (.ref r j 0 l.length) g)) (hr : μ[r]? = some (rowB l j)) :
  RefOK ctx 52 [.ptr b g 0] μ (.pv (.str l)) (μ.set r { rowB l j with frozen := true }) := by
 refine ⟨by kernel_rfl, fun w0 S γ w vs hW hp => ?_⟩
 obtain ⟨v, rfl, hv⟩ := pw_one hp
 obtain ⟨e, cs, he, hgen, hsz, ⟨_, hheap, -⟩, hcs, hlen, hcells, hB, hS⟩ := hW.mem.blk b _ hk (by simp [bldB])
 have hxv : v = .pointer (some ⟨e.cb, 0, none⟩) := by
  cases hv with
  | ptr _ _ _ _ e' ad hb hg' hv' hs' =>
   rw [he] at hb; injection hb with hb; subst hb
   exact hs' hgen.symm
 subst hxv
 obtain ⟨er, cur, he2, hgen2, hsz2, hheap2, hcs2, hlen2, hcells2, hB2, hS2⟩ := hW.mem.blk r _ hr (by simp [rowB])
 replace hheap2 := hheap2.free rfl
 obtain ⟨v1, c1, r1, -⟩ := hcells 1 _ rfl
 have hll : l.length ≠ 0 := by simpa using h0
 obtain ⟨cap, hv1, hcapc, hncap, hcapm⟩ : ∃ cap, v1 = .slice (some ⟨er.cb, 0, none⟩) l.length cap ∧ 0 + cap * er.sz = er.cap ∧ l.length ≤ cap ∧ cap ≤ maxLen := by
  cases r1 with
  | ref _ _ _ _ _ e' ad c hb hg' hvc' hs' =>
   rw [he2] at hb; injection hb with hb; subst hb
   rcases hs' hgen2.symm with h | ⟨-, h, -⟩
   ·exact h
   ·exact absurd h (by simp [rowB])
 subst hv1
 have hcell : w.cell? ⟨e.cb, 1, none⟩ = some (.slice (some ⟨er.cb, 0, none⟩) l.length cap) := by simp [World.cell?, hheap, c1]
 have hbl : (byteA l).length ≤ er.cap := hlen2
 rw [byteA_len] at hbl
 have hcall := string_at { Tryz.lays169 with } Tryz.Builder_Extra_169 e.cb er.cb cap cur l w h0 hcell hheap2 hncap hcapm (by omega) fun j x hx => by
  obtain ⟨u, h1, h2, -⟩ := hcells2 j (.pv (.int .u8 x.toNat)) (by simp [rowB, byteA, hx])
  have h3 := inv_pv h2
  cases h3
  exact h1
 refine hcall.mono ?_
 rintro e' w' ⟨rfl, rfl⟩
 obtain ⟨hW1, hE1⟩ := hW.drew
 have hfz : (w.drew.freeze ⟨er.cb, 0, none⟩ l.length).heap[er.cb]? = some (.cells cur 5 (0, 0 + l.length)) := by
  have hg' : w.drew.heap[er.cb]? = some (.cells cur 5 (0, 0)) := hheap2
  unfold World.freeze
  rw [if_neg hll]
  simp [Array.getElem?_modify, hg']
 obtain ⟨hW2, hE2⟩ := Wd.froze hW1 (fz := (0, 0 + l.length)) (w' := w.drew.freeze ⟨er.cb, 0, none⟩ l.length) hr he2 hheap2 (by simp [rowB]) rfl (by unfold World.freeze; rw [if_neg hll]) (by unfold World.freeze; rw [if_neg hll]) (by unfold World.freeze; rw [if_neg hll]) (by unfold World.freeze; rw [if_neg hll]; simp) (fun g hg => by
  unfold World.freeze
  rw [if_neg hll]
  simp only [Array.getElem?_modify]
  rw [if_neg (fun h => hg h.symm)]) hfz
 exact ⟨_, S, γ, rfl, hE1.trans hE2, hW2, .pv _ _ (.str l)⟩
end
section
open Rf
def c85 : ACode := (⟨_, by conv => (lhs; reduce; try simp only [lt1, Int.cast_ofNat_Int, Int.reduceNegSucc, UInt8.reduceOfNat])⟩ : {x // codeOf Tryz.prog 85 (fun _ => false) = some x}).1
theorem itoa_len (n : Int) (h0 : -10000000000 ≤ n) (h1 : n ≤ 10000000000) : (Lib.itoa n).length ≤ 21 := by
 have hl := Lib.decDigits_length n.natAbs
 have hl2 := Lib.nDigits_le20 n.natAbs (by omega)
 unfold Lib.itoa
 split
 ·rw [List.length_cons]; omega
 ·rw [show n.toNat = n.natAbs by omega]; omega
end
end Pur
end Go.Proofs.YtaleoeblooeglaaGreatDoor
namespace Go.Proofs.YtaleoeblooeglaaGreatDoor
namespace Rf
def rstT (x : RStep) : List UInt8 := (if x.kind = 1 then [103, 114, 97, 112, 104, 32] else [114, 111, 119, 32]) ++ Lib.itoa x.index ++ [32] ++ Lib.itoa x.cell ++ [10]
def tailT (k c a : Int) (n : Nat) : List UInt8 :=
 if k = 1 then [115, 112, 108, 105, 116, 32] ++ Lib.itoa c ++ [32] ++ Lib.itoa a ++ [10]
 else if k = 2 then [99, 97, 115, 101, 115, 32] ++ Lib.itoa n ++ [10]
 else [99, 108, 111, 115, 101, 100, 10]
def textN : Tree → List UInt8
 | .node k s c a l => (s.map rstT).flatten ++ tailT k c a l.length ++ (l.attach.map fun x => textN x.1).flatten
decreasing_by
 have := List.sizeOf_lt_of_mem x.2
 simp
 omega
theorem textN_node (k : Int) (s : List RStep) (c a : Int) (l : List Tree) : textN (.node k s c a l) = (s.map rstT).flatten ++ tailT k c a l.length ++ (l.map textN).flatten := by
 rw [textN, attach_map]
end Rf
namespace Pur
open Go.RowKit
attribute [local go_sem] evOps evOp evOpV evRun evK argF List.map hintAt stripped get put tmpsOf tmpOf tmpO tmpL tmpP conds ev cond_true cond_false Nat.beq Nat.ble Nat.add quiet After thenR blockR IfD List.append_eq List.nil_append List.cons_append evInt exactI_a exactI_b exactI_c exactI_d exactI_e exactI_f evBin evStr evBool evUn guardC calm quiet.isCallK evPick List.getElem?_cons_zero List.getElem?_cons_succ fromCells fromPVs cellsOf List.all oneCell List.length_cons List.length_nil mkAgg plains List.drop List.take List.getD Option.getD_some bo1 bo2 ba1 ba2 bn1 bn2 kk_i64 kk_u8 kk_i32 kk_u64 setAt List.set Nat.reduceAdd Nat.reduceMul evCall safeCall refsOf refsIn scalarA scalar scalarL thawL mapAll thawArg thawRef after freeze RetD RetE evResult evRess evRes1 thaw_pv mkTup nilOf_a nilOf_b nilOf_bb nilOf_c nilOf_d nilOf_e nilOf_f nilOf_g nilOf_h nilOf_i nilOf_j nilOf_k nilOf_l nilOf_m eqLeaf_a eqLeaf_b eqLeaf_c eqOffs evMM bytesOf evOpsF AfterF footOf footRefs notIn indepF footAt freeOk still evParts fillA zeros intOfA boundA srcOf List.isEmpty appNil_0 appNil_1 appNil_2 Int.reduceToNat Nat.mul_one Nat.reduceSub evC evOpsT evOpsTF autoH tabHint look hintD strip guarded RetPD RetRD mpLen keysOk leafKA leafK bitI nilOf_n nilOf_o Bool.or_false Bool.or_true Bool.and_true Bool.and_false Nat.blt renF renM renB renV idxOf solF solM solA solV thawRef ev1
open Rf
theorem rstep_bounds {x : RStep} (h : rstepOk x = true) : (0 ≤ x.index ∧ x.index ≤ 2048) ∧ (-1 ≤ x.cell ∧ x.cell ≤ 127) := by
 simp only [rstepOk, insideB, Bool.and_eq_true, decide_eq_true_eq] at h
 split at h <;> omega
theorem tail_bounds {k c a : Int} {n : Nat} (h : tailOk k c a n = true) : (0 ≤ c ∧ c ≤ 127) ∧ (-1000000 ≤ a ∧ a ≤ 1000000) := by
 simp only [tailOk, insideB] at h
 (repeat' split at h) <;> simp only [Bool.and_eq_true, decide_eq_true_eq, Bool.false_eq_true] at h <;> omega
theorem rstT_len {x : RStep} (h : rstepOk x = true) : (rstT x).length ≤ 60 := by
 have h1 := rstep_bounds h
 have h2 := itoa_len x.index (by omega) (by omega)
 have h3 := itoa_len x.cell (by omega) (by omega)
 unfold rstT
 split <;> simp only [List.length_append, List.length_cons, List.length_nil] <;> omega
theorem tailT_len {k c a : Int} {n : Nat} (h : tailOk k c a n = true) (hn : n ≤ 1000000000) : (tailT k c a n).length ≤ 60 := by
 have h1 := tail_bounds h
 have h2 := itoa_len c (by omega) (by omega)
 have h3 := itoa_len a (by omega) (by omega)
 have h4 := itoa_len n (by omega) (by omega)
 unfold tailT
 (repeat' split) <;> simp only [List.length_append, List.length_cons, List.length_nil] <;> omega
theorem stepsT_len : ∀ (s : List RStep), s.all rstepOk = true → (s.map rstT).flatten.length ≤ 60 * s.length
 | [], _ => by simp
 | x :: r, h => by
  rw [List.all_cons, Bool.and_eq_true] at h
  have h1 := rstT_len h.1
  have h2 := stepsT_len r h.2
  rw [List.map_cons, List.flatten_cons, List.length_append, List.length_cons]
  omega
theorem kidsT_len : ∀ (l : List Tree), (∀ t ∈ l, (textN t).length ≤ 60 * wt t) → (l.map textN).flatten.length ≤ 60 * wts l
 | [], _ => by simp
 | t :: r, h => by
  have h1 := h t (by simp)
  have h2 := kidsT_len r fun x hx => h x (by simp [hx])
  rw [List.map_cons, List.flatten_cons, List.length_append, wts]
  omega
theorem textN_len : ∀ (t : Tree), formedB t = true → wt t ≤ 1000000000 → (textN t).length ≤ 60 * wt t := by
 refine Tree.ind fun k s c a l ih h hw => ?_
 rw [formedB_node, Bool.and_eq_true, Bool.and_eq_true] at h
 rw [wt_node] at hw
 have hl := wts_len l
 have h1 := stepsT_len s h.1.1
 have h2 := tailT_len h.1.2 (by omega)
 have : ∀ (l : List Tree), (∀ t ∈ l, formedB t = true → wt t ≤ 1000000000 → (textN t).length ≤ 60 * wt t) → l.all formedB = true → wts l ≤ 1000000000 → (l.map textN).flatten.length ≤ 60 * wts l := fun l => by
  induction l with
  | nil => intro _ _ _; simp
  | cons t r ihr =>
   intro hh ha hb
   rw [List.all_cons, Bool.and_eq_true] at ha
   rw [wts] at hb ⊢
   have h3 := hh t (by simp) ha.1 (by omega)
   have h4 := ihr (fun x hx => hh x (by simp [hx])) ha.2 (by omega)
   rw [List.map_cons, List.flatten_cons, List.length_append]
   omega
 have h5 := this l ih h.2 (by omega)
 rw [textN_node, wt_node]
 simp only [List.length_append]
 omega
def c53 : ACode := (⟨_, by conv => (lhs; reduce; try simp only [lt1, Int.cast_ofNat_Int, Int.reduceNegSucc, UInt8.reduceOfNat])⟩ : {x // codeOf Tryz.prog 53 (fun _ => false) = some x}).1
end Pur
end Go.Proofs.YtaleoeblooeglaaGreatDoor
namespace Go.Proofs.YtaleoeblooeglaaGreatDoor
namespace Rf
def lineT (w : List UInt8) (ns : List Int) : List UInt8 := w ++ (ns.map fun n => 32 :: Lib.itoa n).flatten ++ [10]
def numsT (ns : List Int) : List UInt8 := (ns.map fun n => 32 :: Lib.itoa n).flatten
theorem numsT_snoc (l : List Int) (n : Int) : numsT (l ++ [n]) = numsT l ++ 32 :: Lib.itoa n := by simp [numsT]
end Rf
namespace Pur
open Go.RowKit
attribute [local go_sem] evOps evOp evOpV evRun evK argF List.map hintAt stripped get put tmpsOf tmpOf tmpO tmpL tmpP conds ev cond_true cond_false Nat.beq Nat.ble Nat.add quiet After thenR blockR IfD List.append_eq List.nil_append List.cons_append evInt exactI_a exactI_b exactI_c exactI_d exactI_e exactI_f evBin evStr evBool evUn guardC calm quiet.isCallK evPick List.getElem?_cons_zero List.getElem?_cons_succ fromCells fromPVs cellsOf List.all oneCell List.length_cons List.length_nil mkAgg plains List.drop List.take List.getD Option.getD_some bo1 bo2 ba1 ba2 bn1 bn2 kk_i64 kk_u8 kk_i32 kk_u64 setAt List.set Nat.reduceAdd Nat.reduceMul evCall safeCall refsOf refsIn scalarA scalar scalarL thawL mapAll thawArg thawRef after freeze RetD RetE evResult evRess evRes1 thaw_pv mkTup nilOf_a nilOf_b nilOf_bb nilOf_c nilOf_d nilOf_e nilOf_f nilOf_g nilOf_h nilOf_i nilOf_j nilOf_k nilOf_l nilOf_m eqLeaf_a eqLeaf_b eqLeaf_c eqOffs evMM bytesOf evOpsF AfterF footOf footRefs notIn indepF footAt freeOk still evParts fillA zeros intOfA boundA srcOf List.isEmpty appNil_0 appNil_1 appNil_2 Int.reduceToNat Nat.mul_one Nat.reduceSub evC evOpsT evOpsTF autoH tabHint look hintD strip guarded RetPD RetRD mpLen keysOk leafKA leafK bitI nilOf_n nilOf_o Bool.or_false Bool.or_true Bool.and_true Bool.and_false Nat.blt renF renM renB renV idxOf solF solM solA solV thawRef ev1
open Rf
def bst (μ : AM) (b g r : Nat) (out : List UInt8) (j : Nat) : AM := (μ.set r (rowB out j)).set b (bldB (.ptr b g 0) (.ref r j 0 out.length) g)
def bcell (b g : Nat) : Blk := ⟨[.ptr b g 0], 0, 1, 75, false⟩
theorem bst_len {μ : AM} {b g r j : Nat} {out : List UInt8} : (bst μ b g r out j).length = μ.length := by simp [bst]
theorem bst_b {μ : AM} {b g r j : Nat} {out : List UInt8} (hb : b < μ.length) : (bst μ b g r out j)[b]? = some (bldB (.ptr b g 0) (.ref r j 0 out.length) g) := by
 unfold bst
 exact List.getElem?_set_self (by simpa using hb)
theorem bst_r {μ : AM} {b g r j : Nat} {out : List UInt8} (hr : r < μ.length) (hne : r ≠ b) : (bst μ b g r out j)[r]? = some (rowB out j) := by
 unfold bst
 rw [List.getElem?_set_ne (Ne.symm hne)]
 exact List.getElem?_set_self hr
theorem bst_o {μ : AM} {b g r j c : Nat} {out : List UInt8} (hb : c ≠ b) (hr : c ≠ r) : (bst μ b g r out j)[c]? = μ[c]? := by
 unfold bst
 rw [List.getElem?_set_ne (Ne.symm hb), List.getElem?_set_ne (Ne.symm hr)]
theorem bst_bst {μ : AM} {b g r j j' : Nat} {out out' : List UInt8} (hne : r ≠ b) : bst (bst μ b g r out j) b g r out' j' = bst μ b g r out' j' := by
 unfold bst
 rw [List.set_comm _ _ (Ne.symm hne), List.set_set, List.set_set]
theorem bst_ok {μ : AM} {b g r j m : Nat} {out : List UInt8} (h : okMem μ m = true) (hb : b < m) (hr : r < m) : okMem (bst μ b g r out j) m = true := by
 unfold bst
 refine okMem_set (okMem_set h (byteA_bnd _ _)) ?_
 simp [bldB, bnd, Nat.blt_eq, hb, hr, Nat.blt, Nat.ble_eq, Nat.succ_le_iff]
theorem write_bst {μ : AM} (hμ : okMem μ μ.length = true) {b g r j : Nat} {old : List UInt8} (hb : b < μ.length) (hr : r < μ.length) (hne : r ≠ b) (l : List UInt8) (hl : old.length + l.length ≤ 140737488355328) :
  RefOK ctx 83 [.ptr b g 0, .pv (.str l)] (bst μ b g r old j) (.pv (.tup [.int .i64 l.length, .val .nilIface])) (bst μ b g r (old ++ l) (j + 1)) := by
 have := write_more (μ := bst μ b g r old j) (by rw [bst_len]; exact bst_ok hμ hb hr) hne (bst_b hb) (bst_r hr hne) l hl
 have e : ((bst μ b g r old j).set r (rowB (old ++ l) (j + 1))).set b (bldB (.ptr b g 0) (.ref r (j + 1) 0 (old.length + l.length)) g) = bst μ b g r (old ++ l) (j + 1) := by
  have := bst_bst (μ := μ) (b := b) (g := g) (r := r) (j := j) (j' := j + 1) (out := old) (out' := old ++ l) hne
  rw [← this]
  conv => rhs; unfold bst
  rw [List.length_append]
  rfl
 rw [e] at this
 exact this
def c82 : ACode := (⟨_, by conv => (lhs; reduce; try simp only [lt1, Int.cast_ofNat_Int, Int.reduceNegSucc, UInt8.reduceOfNat])⟩ : {x // codeOf Tryz.prog 82 (fun _ => false) = some x}).1
theorem fn82 : fnOf Tryz.prog 82 (fun _ => false) = some (c82, [], 24, true) := by kernel_rfl
def c82t : ACode := (⟨_, by conv => (lhs; reduce; try simp only [lt1, Int.cast_ofNat_Int, Int.reduceNegSucc, UInt8.reduceOfNat])⟩ : {x // (codeOf Tryz.prog 82 (fun _ => false)).map (fun y => y.sub [1]) = some x}).1
theorem nums_len (ns : List Int) (hns : ∀ n ∈ ns, -10000000000 ≤ n ∧ n ≤ 10000000000) : ∀ k, k ≤ ns.length → (numsT (ns.take k)).length ≤ 22 * k := by
 intro k
 induction k with
 | zero => intro _; simp [numsT]
 | succ k ih =>
  intro hk
  rw [take_succ_getD ns k 0 (by omega), numsT_snoc, List.length_append, List.length_cons]
  have := itoa_len (ns.getD k 0) (hns _ (getD_mem (by omega))).1 (hns _ (getD_mem (by omega))).2
  have := ih (by omega)
  omega
set_option maxHeartbeats 4000000 in
theorem line_rest {μ : AM} (hμ : okMem μ μ.length = true) {m b g r j c : Nat} {old : List UInt8} (hmm : m ≤ μ.length) (hb : b < μ.length) (hr : r < μ.length) (hne : r ≠ b) (hcb : c ≠ b) (hcr : c ≠ r) (hc : μ[c]? = some (bcell b g)) (ns : List Int) (hn : ns.length ≤ 1000) (hns : ∀ n ∈ ns, -10000000000 ≤ n ∧ n ≤ 10000000000) (ho : old.length ≤ 10000001000) {f : AF} (hf : Sub [(1, .pv (.sl ns.length (ns.map (.int .i64)))), (2, .ptr c 0 0)] f) :
  Aw ctx (fun _ => false) 24 m c82t (RetRD [] (.pv (.tup [])) (bst μ b g r (old ++ numsT ns ++ [10]) (j + (ns.length + 1)))) f (bst μ b g r old j) := by
 have hcl : c < μ.length := (List.getElem?_eq_some_iff.mp hc).1
 have hcell : ∀ o i, (bst μ b g r o i)[c]? = some (bcell b g) := fun o i => (bst_o hcb hcr).trans hc
 have hnl := nums_len ns hns
 refine aw_frame _ hf ?_
 unfold c82t
 refine evA ?_
 simp only [hcell, bcell, mem2_get, mem2_last, mem2_set0, mem2_set1, mem_last, mem_set, mem_len, go_sem]
 try simp only [hcell, bcell, mem2_get, mem2_last, mem2_set0, mem2_set1, mem_last, mem_set, mem_len, go_sem]
 refine ⟨(by simp [vb] <;> omega), (by simp [vb] <;> omega), ?_⟩
 refine aw_block ?_
 refine aw_forJ ns.length (fun _ => True) (fun k => [(2, .ptr c 0 0), (10, .pv (.sl ns.length (ns.map (.int .i64)))), (11, .pv (.int .i64 ns.length)), (12, .pv (.int .i64 k))]) (fun k => bst μ b g r (old ++ numsT (ns.take k)) (j + k)) trivial (by (repeat' (first | exact trivial | refine And.intro (by first | rfl | (simp [get, Nat.beq]; done) | (simp [get, Nat.beq]; omega) | (dsimp only [get]; congr 1 <;> first | rfl | omega | (simp; done) | (simp; omega))) ?_))) ⟨[], by simp [numsT]⟩ (fun k => ⟨by rw [bst_len]; omega, by simp [okFrame, bnd, bst_len, Nat.blt, Nat.succ_le_iff, hcl], by rw [bst_len]; exact bst_ok hμ hb hr⟩) fun k hk _ => ?_
 by_cases hlt : k < ns.length
 ·have hnk := hns _ (getD_mem (d := 0) hlt)
  have e : (ns.map (PV.int .i64))[k]? = some (.int .i64 (ns.getD k 0)) := by rw [List.getElem?_map, List.getD, List.getElem?_eq_getElem hlt]; rfl
  have e2 := take_succ_getD ns k 0 hlt
  have e0 : ns[k] = ns.getD k 0 := by rw [List.getD, List.getElem?_eq_getElem hlt]; rfl
  have hli := itoa_len (ns.getD k 0) hnk.1 hnk.2
  have hi := itoa_ok (ns.getD k 0) (by omega) (by omega)
  have hnum := hnl k hk
  generalize ns.getD k 0 = n at *
  have h2 := write_bst (g := g) (j := j + k) (old := old ++ numsT (ns.take k)) hμ hb hr hne (32 :: Lib.itoa n) (by simp only [List.length_append, List.length_cons]; omega)
  iterate 7 first
   | refine ⟨fun _ => ?_, fun h => by simp at h <;> omega⟩
   | refine ⟨by simp [vb, e, e0, hlt] <;> omega, by simp [vb, e, e0, hlt] <;> omega, ?_⟩
   | (refine evH [(15, { val := some (.pv (.int .i64 n)) })] ?_; iterate 2 (try simp only [hcell, bcell, mem2_get, mem2_last, mem2_set0, mem2_set1, mem_last, mem_set, mem_len, go_sem]))
  refine aw_regT (T := [(84, fun _ => some (.str (Lib.itoa n)))]) (H := [(20, { val := some (.pv (.tup [.int .i64 (32 :: Lib.itoa n).length, .val .nilIface])), mem := some (bst μ b g r (old ++ numsT (ns.take k) ++ 32 :: Lib.itoa n) (j + k + 1)) })]) (by rfl) ?_
  simp only [evOpsTail, go_sem, hcell, bcell]
  refine ⟨by simp [VCs, maxI]; omega, ⟨h2, hi, trivial⟩, ?_⟩
  refine evA ?_
  simp only [hcell, bcell, mem2_get, mem2_last, mem2_set0, mem2_set1, mem_last, mem_set, mem_len, go_sem]
  try simp only [hcell, bcell, mem2_get, mem2_last, mem2_set0, mem2_set1, mem_last, mem_set, mem_len, go_sem]
  refine ⟨(by simp [vb] <;> omega), (by simp [vb] <;> omega), ?_⟩
  exact ⟨hlt, trivial, by (repeat' (first | exact trivial | refine And.intro (by first | rfl | (simp [get, Nat.beq]; done) | (simp [get, Nat.beq]; omega) | (dsimp only [get]; congr 1 <;> first | rfl | omega | (simp; done) | (simp; omega))) ?_)), [], by rw [e2, numsT_snoc, List.append_nil, List.append_assoc, Nat.add_assoc j k 1]⟩
 ·obtain rfl : k = ns.length := by omega
  rw [List.take_length]
  have h3 := write_bst (g := g) (j := j + ns.length) (old := old ++ numsT ns) hμ hb hr hne [10] (by have := hnl _ (Nat.le_refl _); rw [List.take_length] at this; simp only [List.length_append, List.length_cons, List.length_nil]; omega)
  iterate 5 first
   | refine ⟨fun h => by simp at h <;> omega, fun _ => ?_⟩
   | refine ⟨by simp [vb] <;> omega, by simp [vb] <;> omega, ?_⟩
   | (refine evA ?_; iterate 2 (try simp only [hcell, bcell, mem2_get, mem2_last, mem2_set0, mem2_set1, mem_last, mem_set, mem_len, go_sem]))
  refine evH [(23, { val := some (.pv (.tup [.int .i64 1, .val .nilIface])), mem := some (bst μ b g r (old ++ numsT ns ++ [10]) (j + ns.length + 1)) })] ?_
  simp only [hcell, bcell, mem2_get, mem2_last, mem2_set0, mem2_set1, mem_last, mem_set, mem_len, go_sem]
  try simp only [hcell, bcell, mem2_get, mem2_last, mem2_set0, mem2_set1, mem_last, mem_set, mem_len, go_sem]
  refine ⟨(by simp [vb] <;> omega), ?_, ?_⟩
  ·exact ⟨h3, trivial⟩
  exact ⟨⟨trivial, trivial⟩, [], by simp [Nat.add_assoc]⟩
set_option maxHeartbeats 4000000 in
theorem lineM {μ : AM} (hμ : okMem μ μ.length = true) {b g r j c : Nat} {old : List UInt8} (hb : b < μ.length) (hr : r < μ.length) (hne : r ≠ b) (hcb : c ≠ b) (hcr : c ≠ r) (hc : μ[c]? = some (bcell b g)) (w : List UInt8) (ns : List Int) (hn : ns.length ≤ 1000) (hns : ∀ n ∈ ns, -10000000000 ≤ n ∧ n ≤ 10000000000) (hw : w.length ≤ 100) (ho : old.length ≤ 10000000000) :
  RefOK ctx 82 [.pv (.str w), .pv (.sl ns.length (ns.map (.int .i64))), .ptr c 0 0] (bst μ b g r old j) (.pv (.tup [])) (bst μ b g r (old ++ lineT w ns) (j + (ns.length + 2))) := by
 have hcell : ∀ o i, (bst μ b g r o i)[c]? = some (bcell b g) := fun o i => (bst_o hcb hcr).trans hc
 refine ref_body' (C := ctx) (Fn.of fn82 rfl) rfl (by rw [bst_len, bst_len]; omega) rfl (by rw [bst_len]; exact bst_ok hμ hb hr) ?_
 rw [bst_len]
 unfold c82
 have h1 := write_bst (g := g) (j := j) (old := old) hμ hb hr hne w (by omega)
 refine evH [(9, { val := some (.pv (.tup [.int .i64 w.length, .val .nilIface])), mem := some (bst μ b g r (old ++ w) (j + 1)) })] ?_
 simp only [hcell, bcell, mem2_get, mem2_last, mem2_set0, mem2_set1, mem_last, mem_set, mem_len, go_sem]
 try simp only [hcell, bcell, mem2_get, mem2_last, mem2_set0, mem2_set1, mem_last, mem_set, mem_len, go_sem]
 refine ⟨(by simp [vb] <;> omega), ?_, ?_⟩
 ·exact ⟨h1, trivial⟩
 have := line_rest hμ (m := μ.length) (b := b) (g := g) (r := r) (j := j + 1) (c := c) (old := old ++ w) (Nat.le_refl _) hb hr hne hcb hcr hc ns hn hns (by rw [List.length_append]; omega) (f := [(9, .pv (.tup [.int .i64 w.length, .val .nilIface])), (8, .pv (.str w)), (7, .ptr b g 0), (0, .pv (.str w)), (1, .pv (.sl ns.length (ns.map (.int .i64)))), (2, .ptr c 0 0)]) (by (repeat' (first | exact trivial | refine And.intro (by first | rfl | (simp [get, Nat.beq]; done) | (simp [get, Nat.beq]; omega) | (dsimp only [get]; congr 1 <;> first | rfl | omega | (simp; done) | (simp; omega))) ?_)))
 rw [List.append_assoc old w, List.append_assoc old, show j + 1 + (ns.length + 1) = j + (ns.length + 2) by omega] at this
 exact this
set_option maxHeartbeats 4000000 in
theorem lineF {μ : AM} (hμ : okMem μ μ.length = true) {b g c : Nat} (hk : μ[b]? = some (bldB (.pv (.val (.pointer none))) (.pv .nilsl) g)) (hcb : c ≠ b) (hc : μ[c]? = some (bcell b g)) (w : List UInt8) (ns : List Int) (hn : ns.length ≤ 1000) (hns : ∀ n ∈ ns, -10000000000 ≤ n ∧ n ≤ 10000000000) (hw0 : 1 ≤ w.length) (hw : w.length ≤ 100) :
  RefOK ctx 82 [.pv (.str w), .pv (.sl ns.length (ns.map (.int .i64))), .ptr c 0 0] μ (.pv (.tup [])) (bst (μ ++ [rowB [] 0]) b g μ.length (lineT w ns) (ns.length + 1)) := by
 have hb : b < μ.length := (List.getElem?_eq_some_iff.mp hk).1
 have hcl : c < μ.length := (List.getElem?_eq_some_iff.mp hc).1
 have hl : (μ ++ [rowB [] 0]).length = μ.length + 1 := by simp
 have hok : okMem (μ ++ [rowB [] 0]) (μ ++ [rowB [] 0]).length = true := by rw [hl]; exact okMem_add (okMem_more hμ (by omega)) rfl
 have hc1 : (μ ++ [rowB [] 0])[c]? = some (bcell b g) := by rw [List.getElem?_append_left hcl]; exact hc
 have h1 := write_first hμ hk w hw0 (by omega)
 have e : μ.set b (bldB (.ptr b g 0) (.ref μ.length 0 0 w.length) g) ++ [rowB w 0] = bst (μ ++ [rowB [] 0]) b g μ.length w 0 := by
  unfold bst
  rw [mem_set, List.set_append_left _ _ hb]
 rw [e] at h1
 refine ref_body' (C := ctx) (Fn.of fn82 rfl) rfl (by rw [bst_len, hl]; omega) rfl (by rw [bst_len]; exact bst_ok hok (by omega) (by omega)) ?_
 unfold c82
 refine evH [(9, { val := some (.pv (.tup [.int .i64 w.length, .val .nilIface])), mem := some (bst (μ ++ [rowB [] 0]) b g μ.length w 0) })] ?_
 simp only [hc, bcell, mem2_get, mem2_last, mem2_set0, mem2_set1, mem_last, mem_set, mem_len, go_sem]
 try simp only [hc, bcell, mem2_get, mem2_last, mem2_set0, mem2_set1, mem_last, mem_set, mem_len, go_sem]
 refine ⟨(by simp [vb] <;> omega), ?_, ?_⟩
 ·exact ⟨h1, trivial⟩
 have := line_rest hok (m := μ.length) (b := b) (g := g) (r := μ.length) (j := 0) (c := c) (old := w) (by omega) (by omega) (by omega) (by omega) hcb (by omega) hc1 ns hn hns (by omega) (f := [(9, .pv (.tup [.int .i64 w.length, .val .nilIface])), (8, .pv (.str w)), (7, .ptr b g 0), (0, .pv (.str w)), (1, .pv (.sl ns.length (ns.map (.int .i64)))), (2, .ptr c 0 0)]) (by (repeat' (first | exact trivial | refine And.intro (by first | rfl | (simp [get, Nat.beq]; done) | (simp [get, Nat.beq]; omega) | (dsimp only [get]; congr 1 <;> first | rfl | omega | (simp; done) | (simp; omega))) ?_)))
 rw [Nat.zero_add] at this
 exact this
theorem RefOK.weak {C : Ctx} {g : FuncId} {al al' : List AV} {μ μ' : AM} {r : AV} (h : RefOK C g al μ r μ') (hw : PW CW al' al) : RefOK C g al' μ r μ' :=
 ⟨h.1, fun w0 S γ w vs hW hp => h.2 w0 S γ w vs hW ⟨hw.len.symm.trans hp.len, fun i a v ha hv => by
  have hi : i < al'.length := by rw [hw.len]; exact (List.getElem?_eq_some_iff.mp ha).1
  exact hw.at_ i _ a (List.getElem?_eq_getElem hi) ha w S γ v (hp.at_ i _ v (List.getElem?_eq_getElem hi) hv)⟩⟩
end Pur
end Go.Proofs.YtaleoeblooeglaaGreatDoor
namespace Go.Proofs.YtaleoeblooeglaaGreatDoor
namespace Rf
def tailW (k : Int) : Nat := if k = 1 then 4 else if k = 2 then 3 else 2
def writesN : Tree → Nat
 | .node k s c a l => 4 * s.length + tailW k + (l.attach.map fun x => writesN x.1).sum
decreasing_by
 have := List.sizeOf_lt_of_mem x.2
 simp
 omega
theorem writesN_node (k : Int) (s : List RStep) (c a : Int) (l : List Tree) : writesN (.node k s c a l) = 4 * s.length + tailW k + (l.map writesN).sum := by
 rw [writesN, attach_map]
def kidsT (l : List Tree) : List UInt8 := (l.map textN).flatten
theorem kidsT_snoc (l : List Tree) (t : Tree) : kidsT (l ++ [t]) = kidsT l ++ textN t := by simp [kidsT]
def kidsW (l : List Tree) : Nat := (l.map writesN).sum
theorem kidsW_snoc (l : List Tree) (t : Tree) : kidsW (l ++ [t]) = kidsW l + writesN t := by simp [kidsW]
def stepsT (s : List RStep) : List UInt8 := (s.map rstT).flatten
theorem stepsT_snoc (s : List RStep) (x : RStep) : stepsT (s ++ [x]) = stepsT s ++ rstT x := by simp [stepsT]
theorem rstT_line (x : RStep) : rstT x = if x.kind = 1 then lineT [103, 114, 97, 112, 104] [x.index, x.cell] else lineT [114, 111, 119] [x.index, x.cell] := by
 unfold rstT lineT
 split <;> simp
theorem tailT_line (k c a : Int) (n : Nat) : tailT k c a n = if k = 1 then lineT [115, 112, 108, 105, 116] [c, a] else if k = 2 then lineT [99, 97, 115, 101, 115] [(n : Int)] else lineT [99, 108, 111, 115, 101, 100] [] := by
 unfold tailT lineT
 split
 ·simp
 ·split <;> simp
end Rf
namespace Pur
open Go.RowKit
attribute [local go_sem] evOps evOp evOpV evRun evK argF List.map hintAt stripped get put tmpsOf tmpOf tmpO tmpL tmpP conds ev cond_true cond_false Nat.beq Nat.ble Nat.add quiet After thenR blockR IfD List.append_eq List.nil_append List.cons_append evInt exactI_a exactI_b exactI_c exactI_d exactI_e exactI_f evBin evStr evBool evUn guardC calm quiet.isCallK evPick List.getElem?_cons_zero List.getElem?_cons_succ fromCells fromPVs cellsOf List.all oneCell List.length_cons List.length_nil mkAgg plains List.drop List.take List.getD Option.getD_some bo1 bo2 ba1 ba2 bn1 bn2 kk_i64 kk_u8 kk_i32 kk_u64 setAt List.set Nat.reduceAdd Nat.reduceMul evCall safeCall refsOf refsIn scalarA scalar scalarL thawL mapAll thawArg thawRef after freeze RetD RetE evResult evRess evRes1 thaw_pv mkTup nilOf_a nilOf_b nilOf_bb nilOf_c nilOf_d nilOf_e nilOf_f nilOf_g nilOf_h nilOf_i nilOf_j nilOf_k nilOf_l nilOf_m eqLeaf_a eqLeaf_b eqLeaf_c eqOffs evMM bytesOf evOpsF AfterF footOf footRefs notIn indepF footAt freeOk still evParts fillA zeros intOfA boundA srcOf List.isEmpty appNil_0 appNil_1 appNil_2 Int.reduceToNat Nat.mul_one Nat.reduceSub evC evOpsT evOpsTF autoH tabHint look hintD strip guarded RetPD RetRD mpLen keysOk leafKA leafK bitI nilOf_n nilOf_o Bool.or_false Bool.or_true Bool.and_true Bool.and_false Nat.blt renF renM renB renV idxOf solF solM solA solV thawRef ev1
open Rf
theorem bst_app {μ : AM} {b g r j : Nat} {o : List UInt8} (hb : b < μ.length) (hr : r < μ.length) (tl : AM) : bst μ b g r o j ++ tl = bst (μ ++ tl) b g r o j := by
 unfold bst
 rw [List.set_append_left _ _ hr, List.set_append_left _ _ (by simpa using hb)]
def c50 : ACode := (⟨_, by conv => (lhs; reduce; try simp only [lt1, Int.cast_ofNat_Int, Int.reduceNegSucc, UInt8.reduceOfNat])⟩ : {x // codeOf Tryz.prog 50 (fun _ => false) = some x}).1
theorem fn50 : fnOf Tryz.prog 50 (fun _ => false) = some (c50, [], 67, true) := by kernel_rfl
def c50s : ACode := (⟨_, by conv => (lhs; reduce; try simp only [lt1, Int.cast_ofNat_Int, Int.reduceNegSucc, UInt8.reduceOfNat])⟩ : {x // (codeOf Tryz.prog 50 (fun _ => false)).map (fun y => y.sub [1, 1, 0, 1, 0, 0]) = some x}).1
def c50t : ACode := (⟨_, by conv => (lhs; reduce; try simp only [lt1, Int.cast_ofNat_Int, Int.reduceNegSucc, UInt8.reduceOfNat])⟩ : {x // (codeOf Tryz.prog 50 (fun _ => false)).map (fun y => y.sub [1, 1, 1]) = some x}).1
def c50k : ACode := (⟨_, by conv => (lhs; reduce; try simp only [lt1, Int.cast_ofNat_Int, Int.reduceNegSucc, UInt8.reduceOfNat])⟩ : {x // (codeOf Tryz.prog 50 (fun _ => false)).map (fun y => y.sub [1, 1, 1, 1]) = some x}).1
structure WrSt (μ : AM) (b g r : Nat) (t : Tree) : Prop where
 ok : okMem μ μ.length = true
 hb : b < μ.length
 hr : r < μ.length
 ne : r ≠ b
 hf : formedB t = true
 hw : wt t ≤ 1000000
def wrM (μ : AM) (b g : Nat) (t : Tree) : AM := μ ++ [bcell b g, treeB t]
section
variable {μ : AM} {b g r : Nat} {t : Tree}
theorem wrM_len : (wrM μ b g t).length = μ.length + 2 := by simp [wrM]
theorem wrM_c (h : WrSt μ b g r t) (o : List UInt8) (i : Nat) : (bst (wrM μ b g t) b g r o i)[μ.length]? = some (bcell b g) := by
 rw [bst_o (by have := h.hb; omega) (by have := h.hr; omega), wrM, List.getElem?_append_right (Nat.le_refl _), Nat.sub_self]
 rfl
theorem wrM_t (h : WrSt μ b g r t) (o : List UInt8) (i : Nat) : (bst (wrM μ b g t) b g r o i)[μ.length + 1]? = some (treeB t) := by
 rw [bst_o (by have := h.hb; omega) (by have := h.hr; omega), wrM, List.getElem?_append_right (by omega), show μ.length + 1 - μ.length = 1 by omega]
 rfl
theorem wrM_ok (h : WrSt μ b g r t) : okMem (wrM μ b g t) (wrM μ b g t).length = true := by
 rw [wrM_len]
 have h1 := okMem_more h.ok (m' := μ.length + 2) (by omega)
 have h2 := okMem_add (k := bcell b g) h1 (by have := h.hb; simp only [bcell, List.all_cons, List.all_nil, Bool.and_true, bnd]; exact Nat.blt_eq.mpr (by omega))
 have h3 := okMem_add (k := treeB t) h2 rfl
 simpa [wrM] using h3
theorem bst_get_lt {x : Blk} {o : List UInt8} {i q : Nat} (hq : q < (wrM μ b g t).length) : (bst (wrM μ b g t) b g r o i ++ [x])[q]? = (bst (wrM μ b g t) b g r o i)[q]? := List.getElem?_append_left (by rw [bst_len]; exact hq)
end
def stB (x : RStep) : Blk := ⟨[.pv (.int .i64 x.kind), .pv (.int .i64 x.index), .pv (.int .i64 x.cell)], 0, 3, 66, false⟩
def wrF (n : Nat) (s : List RStep) (k : Nat) : AF := [(2, .ptr n 0 0), (3, .ptr (n + 1) 0 0), (4, .fn 82 [.ptr n 0 0]), (11, .pv (.sl s.length (s.flatMap rstepC))), (12, .pv (.int .i64 s.length)), (13, .pv (.int .i64 k))]
theorem line_wr {μ : AM} {b g r : Nat} {t : Tree} (h : WrSt μ b g r t) (tl : AM) (htl : okMem (wrM μ b g t ++ tl) (wrM μ b g t ++ tl).length = true) (w : List UInt8) (ns : List Int) (o : List UInt8) (j : Nat) (hn : ns.length ≤ 1000) (hns : ∀ n ∈ ns, -10000000000 ≤ n ∧ n ≤ 10000000000) (hw : w.length ≤ 100) (ho : o.length ≤ 10000000000) :
  RefOK ctx 82 [.pv (.str w), .pv (.sl ns.length (ns.map (.int .i64))), .ptr μ.length 0 0] (bst (wrM μ b g t) b g r o j ++ tl) (.pv (.tup [])) (bst (wrM μ b g t) b g r (o ++ lineT w ns) (j + (ns.length + 2)) ++ tl) := by
 have hl := wrM_len (μ := μ) (b := b) (g := g) (t := t)
 have hb := h.hb
 have hr := h.hr
 have e : ∀ o j, bst (wrM μ b g t) b g r o j ++ tl = bst (wrM μ b g t ++ tl) b g r o j := fun o j => bst_app (by omega) (by omega) tl
 rw [e, e]
 refine lineM htl (by rw [List.length_append]; omega) (by rw [List.length_append]; omega) h.ne (by omega) (by omega) ?_ w ns hn hns hw ho
 rw [List.getElem?_append_left (by omega)]
 simp [wrM]
set_option maxHeartbeats 4000000 in
theorem write_step {μ : AM} {b g r : Nat} {kd c a : Int} {s : List RStep} {ks : List Tree} (h : WrSt μ b g r (.node kd s c a ks)) {m : Nat} {R : Exit → AF → AM → Prop} {o : List UInt8} {j k : Nat} (hlt : k < s.length) (ho : o.length ≤ 1000000000) :
  Aw ctx (fun _ => false) 67 m c50s (thenR (fun f' μ' => Sub (wrF μ.length s (k + 1)) f' ∧ ∃ junk, μ' = bst (wrM μ b g (.node kd s c a ks)) b g r (o ++ rstT (s.getD k zs)) (j + 4) ++ junk) R) (wrF μ.length s k) (bst (wrM μ b g (.node kd s c a ks)) b g r o j) := by
 have hf := h.hf
 rw [formedB_node] at hf
 simp only [Bool.and_eq_true] at hf
 have hxo : rstepOk (s.getD k zs) = true := List.all_eq_true.mp hf.1.1 _ (getD_mem hlt)
 have hw := h.hw
 rw [wt_node] at hw
 have e := fm_take rstepC_len s k zs hlt
 have hle := rsteps_len s
 generalize s.getD k zs = x at *
 obtain ⟨b1, b2⟩ := rstep_bounds hxo
 have hkind : x.kind = 0 ∨ x.kind = 1 := by
  simp [rstepOk, insideB] at hxo
  omega
 have hok3 : okMem (wrM μ b g (.node kd s c a ks) ++ [stB x]) (wrM μ b g (.node kd s c a ks) ++ [stB x]).length = true := by
  rw [List.length_append, List.length_singleton]
  exact okMem_add (okMem_more (wrM_ok h) (by omega)) rfl
 have hc := wrM_c h
 have hlen : ∀ o i, (bst (wrM μ b g (.node kd s c a ks)) b g r o i).length = μ.length + 2 := fun o i => by rw [bst_len, wrM_len]
 unfold c50s wrF
 obtain ⟨xk, xi, xc⟩ := x
 simp only at b1 b2 hkind
 have hb2 : ∀ n ∈ [xi, xc], -10000000000 ≤ n ∧ n ≤ 10000000000 := by
  intro n hn
  simp only [List.mem_cons, List.not_mem_nil, or_false] at hn
  rcases hn with rfl | rfl <;> omega
 have h6 := line_wr h [stB ⟨xk, xi, xc⟩] hok3 [114, 111, 119] [xi, xc] o j (by simp) hb2 (by decide) (by omega)
 have h7 := line_wr h [stB ⟨xk, xi, xc⟩] hok3 [103, 114, 97, 112, 104] [xi, xc] o j (by simp) hb2 (by decide) (by omega)
 rw [rstT_line]
 simp only
 rcases hkind with rfl | rfl
 ·iterate 9 first
   | refine ⟨fun _ => ?_, fun h => by simp at h <;> omega⟩
   | refine ⟨by simp [vb, e, hle, hlt, rstepC] <;> omega, by simp [vb, e, hle, hlt, rstepC] <;> omega, ?_⟩
   | (refine evH [(16, { val := some (.pv (.agg (rstepC ⟨0, xi, xc⟩))) })] ?_; iterate 2 (try simp only [bcell, rstepC, mem2_get, mem2_last, mem2_set0, mem2_set1, mem_last, mem_set, mem_len, go_sem]))
  refine evH [(26, { val := some (.pv (.tup [])), mem := some (bst (wrM μ b g (.node kd s c a ks)) b g r (o ++ lineT [114, 111, 119] [xi, xc]) (j + 4) ++ [stB ⟨0, xi, xc⟩]) })] ?_
  simp only [bcell, rstepC, mem2_get, mem2_last, mem2_set0, mem2_set1, mem_last, mem_set, mem_len, go_sem]
  refine ⟨fun _ => ?_, fun h => by simp at h <;> omega⟩
  refine evH [(26, { val := some (.pv (.tup [])), mem := some (bst (wrM μ b g (.node kd s c a ks)) b g r (o ++ lineT [114, 111, 119] [xi, xc]) (j + 4) ++ [stB ⟨0, xi, xc⟩]) })] ?_
  simp only [bcell, rstepC, mem2_get, mem2_last, mem2_set0, mem2_set1, mem_last, mem_set, mem_len, go_sem]
  try simp only [bcell, rstepC, mem2_get, mem2_last, mem2_set0, mem2_set1, mem_last, mem_set, mem_len, go_sem]
  refine ⟨(by simp [vb, e, hle, hlt] <;> omega), ?_, ?_⟩
  ·exact ⟨h6, trivial⟩
  refine evA ?_
  simp only [bcell, rstepC, mem2_get, mem2_last, mem2_set0, mem2_set1, mem_last, mem_set, mem_len, go_sem]
  try simp only [bcell, rstepC, mem2_get, mem2_last, mem2_set0, mem2_set1, mem_last, mem_set, mem_len, go_sem]
  refine ⟨(by simp [vb, e, hle, hlt] <;> omega), (by simp [vb, e, hle, hlt] <;> omega), ?_⟩
  exact ⟨by (repeat' (first | exact trivial | refine And.intro (by first | rfl | (simp [get, Nat.beq]; done) | (simp [get, Nat.beq]; omega) | (dsimp only [get]; congr 1 <;> first | rfl | omega | (simp; done) | (simp; omega))) ?_)), _, rfl⟩
 ·iterate 9 first
   | refine ⟨fun _ => ?_, fun h => by simp at h <;> omega⟩
   | refine ⟨by simp [vb, e, hle, hlt, rstepC] <;> omega, by simp [vb, e, hle, hlt, rstepC] <;> omega, ?_⟩
   | (refine evH [(16, { val := some (.pv (.agg (rstepC ⟨1, xi, xc⟩))) })] ?_; iterate 2 (try simp only [bcell, rstepC, mem2_get, mem2_last, mem2_set0, mem2_set1, mem_last, mem_set, mem_len, go_sem]))
  refine evH [(33, { val := some (.pv (.tup [])), mem := some (bst (wrM μ b g (.node kd s c a ks)) b g r (o ++ lineT [103, 114, 97, 112, 104] [xi, xc]) (j + 4) ++ [stB ⟨1, xi, xc⟩]) })] ?_
  simp only [bcell, rstepC, mem2_get, mem2_last, mem2_set0, mem2_set1, mem_last, mem_set, mem_len, go_sem]
  refine ⟨fun h => by simp at h <;> omega, fun _ => ?_⟩
  refine evH [(33, { val := some (.pv (.tup [])), mem := some (bst (wrM μ b g (.node kd s c a ks)) b g r (o ++ lineT [103, 114, 97, 112, 104] [xi, xc]) (j + 4) ++ [stB ⟨1, xi, xc⟩]) })] ?_
  simp only [bcell, rstepC, mem2_get, mem2_last, mem2_set0, mem2_set1, mem_last, mem_set, mem_len, go_sem]
  try simp only [bcell, rstepC, mem2_get, mem2_last, mem2_set0, mem2_set1, mem_last, mem_set, mem_len, go_sem]
  refine ⟨(by simp [vb, e, hle, hlt] <;> omega), ?_, ?_⟩
  ·exact ⟨h7, trivial⟩
  refine evA ?_
  simp only [bcell, rstepC, mem2_get, mem2_last, mem2_set0, mem2_set1, mem_last, mem_set, mem_len, go_sem]
  try simp only [bcell, rstepC, mem2_get, mem2_last, mem2_set0, mem2_set1, mem_last, mem_set, mem_len, go_sem]
  refine ⟨(by simp [vb, e, hle, hlt] <;> omega), (by simp [vb, e, hle, hlt] <;> omega), ?_⟩
  exact ⟨by (repeat' (first | exact trivial | refine And.intro (by first | rfl | (simp [get, Nat.beq]; done) | (simp [get, Nat.beq]; omega) | (dsimp only [get]; congr 1 <;> first | rfl | omega | (simp; done) | (simp; omega))) ?_)), _, rfl⟩
theorem okMem_tr {μ : AM} (h : okMem μ μ.length = true) (t : Tree) : okMem (μ ++ [treeB t]) (μ ++ [treeB t]).length = true := by
 rw [List.length_append, List.length_singleton]
 exact okMem_add (okMem_more h (by omega)) rfl
def WriteOK (x : Tree) : Prop := ∀ (μ : AM) (b g r : Nat) (o : List UInt8) (j : Nat), WrSt μ b g r x → o.length + 60 * wt x ≤ 1000000000 →
 RefOK ctx 50 [.ptr b g 0, .pv (treeP x)] (bst μ b g r o j) (.pv (.tup [])) (bst μ b g r (o ++ textN x) (j + writesN x))
theorem wrM_app {μ : AM} {b g r : Nat} {t : Tree} (h : WrSt μ b g r t) (o : List UInt8) (j : Nat) : bst (wrM μ b g t) b g r o j = bst μ b g r o j ++ [bcell b g, treeB t] := (bst_app h.hb h.hr _).symm
set_option maxHeartbeats 4000000 in
theorem write_kids {μ : AM} {b g r : Nat} {kd c a : Int} {s : List RStep} {ks : List Tree} (h : WrSt μ b g r (.node kd s c a ks)) {m : Nat} (hm : m ≤ μ.length) (ih : ∀ x ∈ ks, WriteOK x) {o : List UInt8} {j : Nat} (ho : o.length + 60 * wts ks ≤ 1000000000) {f : AF} (hf : Sub [(2, .ptr μ.length 0 0), (3, .ptr (μ.length + 1) 0 0)] f) :
  Aw ctx (fun _ => false) 67 m c50k (RetRD [] (.pv (.tup [])) (bst μ b g r (o ++ kidsT ks) (j + kidsW ks))) f (bst (wrM μ b g (.node kd s c a ks)) b g r o j) := by
 have hft := h.hf
 rw [formedB_node] at hft
 simp only [Bool.and_eq_true] at hft
 have hw := h.hw
 rw [wt_node] at hw
 have hwl := wts_len ks
 have hb := h.hb
 have hr := h.hr
 have hc := wrM_c h
 have ht := wrM_t h
 have hL := wrM_len (μ := μ) (b := b) (g := g) (t := .node kd s c a ks)
 have htx : ∀ l : List Tree, (∀ x ∈ l, x ∈ ks) → (kidsT l).length ≤ 60 * wts l := fun l hl => kidsT_len l fun x hx => textN_len x (List.all_eq_true.mp hft.2 _ (hl x hx)) (by have := wt_mem (hl x hx); omega)
 refine aw_frame _ hf ?_
 unfold c50k
 refine evA ?_
 simp only [ht, treeB, Tree.kind, Tree.steps, Tree.cell, Tree.pos, Tree.kids, kidsP, mem2_get, mem2_last, mem2_set0, mem2_set1, mem_last, mem_set, mem_len, go_sem]
 try simp only [ht, treeB, Tree.kind, Tree.steps, Tree.cell, Tree.pos, Tree.kids, kidsP, mem2_get, mem2_last, mem2_set0, mem2_set1, mem_last, mem_set, mem_len, go_sem]
 refine ⟨(by simp [vb] <;> omega), (by simp [vb] <;> omega), ?_⟩
 refine aw_block ?_
 refine aw_forJ ks.length (fun _ => True) (fun k => [(2, .ptr μ.length 0 0), (57, .pv (.sl ks.length (ks.flatMap treeC))), (58, .pv (.int .i64 ks.length)), (59, .pv (.int .i64 k))]) (fun k => bst (wrM μ b g (.node kd s c a ks)) b g r (o ++ kidsT (ks.take k)) (j + kidsW (ks.take k))) trivial (by (repeat' (first | exact trivial | refine And.intro (by first | rfl | (simp [get, Nat.beq]; done) | (simp [get, Nat.beq]; omega) | (dsimp only [get]; congr 1 <;> first | rfl | omega | (simp; done) | (simp; omega))) ?_))) ⟨[], by simp [kidsT, kidsW]⟩ (fun k => ⟨by rw [bst_len, hL]; omega, by simp only [okFrame, List.all_cons, List.all_nil, bnd, bst_len, hL, Bool.and_true]; exact Nat.blt_eq.mpr (by omega), by rw [bst_len]; exact bst_ok (wrM_ok h) (by omega) (by omega)⟩) fun k hk _ => ?_
 by_cases hlt : k < ks.length
 ·have e := kid_take ks k hlt
  have hle := kids_len ks
  have hmem := getD_mem (d := zt) hlt
  have hx := ih _ hmem
  have hfx := List.all_eq_true.mp hft.2 _ hmem
  have hwx := wt_mem hmem
  have e2 := take_succ_getD ks k zt hlt
  have htk := htx (ks.take k) fun x hx => List.mem_of_mem_take hx
  have hws : wts (ks.take k) + wt (ks.getD k zt) ≤ wts ks := by
   have h1 := wts_take ks (k + 1)
   rw [e2, wts_append] at h1
   simpa [wts] using h1
  generalize ks.getD k zt = x at *
  have hok3 := okMem_tr (wrM_ok h) x
  have hcall := hx (wrM μ b g (.node kd s c a ks) ++ [treeB x]) b g r (o ++ kidsT (ks.take k)) (j + kidsW (ks.take k)) ⟨hok3, by rw [List.length_append]; omega, by rw [List.length_append]; omega, h.ne, hfx, by omega⟩ (by rw [List.length_append]; omega)
  rw [← bst_app (by omega) (by omega), ← bst_app (by omega) (by omega)] at hcall
  obtain ⟨xk, xs, xc, xa, xl⟩ := x
  simp only [Tree.kind, Tree.steps, Tree.cell, Tree.pos, Tree.kids] at e
  iterate 7 first
   | refine ⟨fun _ => ?_, fun h => by simp at h <;> omega⟩
   | refine ⟨by simp [vb, e, hle, hlt, rstepsP, kidsP] <;> omega, by simp [vb, e, hle, hlt, rstepsP, kidsP] <;> omega, ?_⟩
   | (refine evH [(62, { val := some (.pv (.agg [.int .i64 xk, rstepsP xs, .int .i64 xc, .int .i64 xa, kidsP xl])) })] ?_; iterate 2 (try simp only [ht, treeB, rstepsP, kidsP, mem2_get, mem2_last, mem2_set0, mem2_set1, mem_last, mem_set, mem_len, go_sem]))
  have hc2 : ∀ (o : List UInt8) (i : Nat) (y : Blk), (bst (wrM μ b g (.node kd s c a ks)) b g r o i ++ [y])[μ.length]? = some (bcell b g) := fun o i y => (bst_get_lt (by omega)).trans (hc o i)
  refine evH [(65, { val := some (.pv (.tup [])), mem := some (bst (wrM μ b g (.node kd s c a ks)) b g r (o ++ kidsT (ks.take k) ++ textN (.node xk xs xc xa xl)) (j + kidsW (ks.take k) + writesN (.node xk xs xc xa xl)) ++ [treeB (.node xk xs xc xa xl)]) })] ?_
  simp only [hc2, bcell, mem2_get, mem2_last, mem2_set0, mem2_set1, mem_last, mem_set, mem_len, go_sem]
  try simp only [hc2, bcell, mem2_get, mem2_last, mem2_set0, mem2_set1, mem_last, mem_set, mem_len, go_sem]
  refine ⟨(by simp [vb] <;> omega), ?_, ?_⟩
  ·exact ⟨hcall, trivial⟩
  refine evA ?_
  simp only [ht, mem2_get, mem2_last, mem2_set0, mem2_set1, mem_last, mem_set, mem_len, go_sem]
  try simp only [ht, mem2_get, mem2_last, mem2_set0, mem2_set1, mem_last, mem_set, mem_len, go_sem]
  refine ⟨(by simp [vb, hlt] <;> omega), (by simp [vb, hlt] <;> omega), ?_⟩
  exact ⟨hlt, trivial, by (repeat' (first | exact trivial | refine And.intro (by first | rfl | (simp [get, Nat.beq]; done) | (simp [get, Nat.beq]; omega) | (dsimp only [get]; congr 1 <;> first | rfl | omega | (simp; done) | (simp; omega))) ?_)), _, by rw [e2, kidsT_snoc, kidsW_snoc, List.append_assoc o, Nat.add_assoc j]⟩
 ·obtain rfl : k = ks.length := by omega
  rw [List.take_length]
  iterate 5 first
   | refine ⟨fun h => by simp at h <;> omega, fun _ => ?_⟩
   | refine ⟨by simp [vb, hlt] <;> omega, by simp [vb, hlt] <;> omega, ?_⟩
   | (refine evA ?_; iterate 2 (try simp only [ht, mem2_get, mem2_last, mem2_set0, mem2_set1, mem_last, mem_set, mem_len, go_sem]))
  exact ⟨⟨trivial, trivial⟩, _, wrM_app h _ _⟩
theorem tail_kinds {k c a : Int} {n : Nat} (h : Rf.tailOk k c a n = true) : (k = 0 ∧ n = 0) ∨ k = 1 ∨ (k = 2 ∧ n ≤ 1024) := by
 unfold Rf.tailOk at h
 split at h
 ·simp at h; omega
 ·split at h
  ·omega
  ·split at h
   ·simp at h; omega
   ·cases h
set_option maxHeartbeats 4000000 in
theorem write_tail {μ : AM} {b g r : Nat} {kd c a : Int} {s : List RStep} {ks : List Tree} (h : WrSt μ b g r (.node kd s c a ks)) {m : Nat} (hm : m ≤ μ.length) (ih : ∀ x ∈ ks, WriteOK x) {o : List UInt8} {j : Nat} (ho : o.length + 60 + 60 * wts ks ≤ 1000000000) {f : AF} (hf : Sub [(2, .ptr μ.length 0 0), (3, .ptr (μ.length + 1) 0 0), (4, .fn 82 [.ptr μ.length 0 0])] f) :
  Aw ctx (fun _ => false) 67 m c50t (RetRD [] (.pv (.tup [])) (bst μ b g r (o ++ tailT kd c a ks.length ++ kidsT ks) (j + tailW kd + kidsW ks))) f (bst (wrM μ b g (.node kd s c a ks)) b g r o j) := by
 have hft := h.hf
 rw [formedB_node] at hft
 simp only [Bool.and_eq_true] at hft
 have hw := h.hw
 rw [wt_node] at hw
 have hwl := wts_len ks
 have hc := wrM_c h
 have ht := wrM_t h
 obtain ⟨b1, b2⟩ := tail_bounds hft.1.2
 have htl := tailT_len hft.1.2 (by omega)
 have hkk := fun f hf => write_kids h (m := m) hm ih (o := o ++ tailT kd c a ks.length) (j := j + tailW kd) (by rw [List.length_append]; omega) (f := f) hf
 have hln := fun w ns hn hns hw => line_wr h [] (by rw [List.append_nil]; exact wrM_ok h) w ns o j hn hns hw (by omega)
 simp only [List.append_nil] at hln
 refine aw_frame _ hf ?_
 rw [tailT_line] at hkk ⊢
 unfold c50t
 rcases tail_kinds hft.1.2 with ⟨rfl, h0⟩ | rfl | ⟨rfl, h2⟩
 ·have h1 := (hln [99, 108, 111, 115, 101, 100] [] (by simp) (by simp) (by decide)).weak (al' := [.pv (.str [99, 108, 111, 115, 101, 100]), .pv .nilsl, .ptr μ.length 0 0]) ⟨rfl, fun i x y hx hy => by
   match i, hx, hy with
   | 0, hx, hy => injection hx with hx; injection hy with hy; subst hx hy; exact .refl _
   | 1, hx, hy => injection hx with hx; injection hy with hy; subst hx hy; exact CW.nil
   | 2, hx, hy => injection hx with hx; injection hy with hy; subst hx hy; exact .refl _
   | _ + 3, hx, _ => simp at hx⟩
  refine evA ?_
  simp only [ht, treeB, Tree.kind, Tree.steps, Tree.cell, Tree.pos, Tree.kids, mem2_get, mem2_last, mem2_set0, mem2_set1, mem_last, mem_set, mem_len, go_sem]
  try simp only [ht, treeB, Tree.kind, Tree.steps, Tree.cell, Tree.pos, Tree.kids, mem2_get, mem2_last, mem2_set0, mem2_set1, mem_last, mem_set, mem_len, go_sem]
  refine ⟨(by simp [vb] <;> omega), (by simp [vb] <;> omega), ?_⟩
  refine evA ?_
  simp only [ht, treeB, Tree.kind, Tree.steps, Tree.cell, Tree.pos, Tree.kids, mem2_get, mem2_last, mem2_set0, mem2_set1, mem_last, mem_set, mem_len, go_sem]
  try simp only [ht, treeB, Tree.kind, Tree.steps, Tree.cell, Tree.pos, Tree.kids, mem2_get, mem2_last, mem2_set0, mem2_set1, mem_last, mem_set, mem_len, go_sem]
  refine ⟨(by simp [vb] <;> omega), (by simp [vb] <;> omega), ?_⟩
  refine evH [(46, { val := some (.pv (.tup [])), mem := some (bst (wrM μ b g (.node 0 s c a ks)) b g r (o ++ lineT [99, 108, 111, 115, 101, 100] []) (j + 2)) })] ?_
  simp only [ht, treeB, Tree.kind, Tree.steps, Tree.cell, Tree.pos, Tree.kids, mem2_get, mem2_last, mem2_set0, mem2_set1, mem_last, mem_set, mem_len, go_sem]
  refine ⟨fun _ => ?_, fun h => by simp at h <;> omega⟩
  refine evH [(46, { val := some (.pv (.tup [])), mem := some (bst (wrM μ b g (.node 0 s c a ks)) b g r (o ++ lineT [99, 108, 111, 115, 101, 100] []) (j + 2)) })] ?_
  simp only [ht, treeB, Tree.kind, Tree.steps, Tree.cell, Tree.pos, Tree.kids, mem2_get, mem2_last, mem2_set0, mem2_set1, mem_last, mem_set, mem_len, go_sem]
  try simp only [ht, treeB, Tree.kind, Tree.steps, Tree.cell, Tree.pos, Tree.kids, mem2_get, mem2_last, mem2_set0, mem2_set1, mem_last, mem_set, mem_len, go_sem]
  refine ⟨(by simp [vb] <;> omega), ?_, ?_⟩
  ·exact ⟨h1, trivial⟩
  exact hkk _ (by (repeat' (first | exact trivial | refine And.intro (by first | rfl | (simp [get, Nat.beq]; done) | (simp [get, Nat.beq]; omega) | (dsimp only [get]; congr 1 <;> first | rfl | omega | (simp; done) | (simp; omega))) ?_)))
 ·have h1 := hln [115, 112, 108, 105, 116] [c, a] (by simp) (by intro n hn; simp only [List.mem_cons, List.not_mem_nil, or_false] at hn; rcases hn with rfl | rfl <;> omega) (by decide)
  refine evA ?_
  simp only [ht, treeB, Tree.kind, Tree.steps, Tree.cell, Tree.pos, Tree.kids, mem2_get, mem2_last, mem2_set0, mem2_set1, mem_last, mem_set, mem_len, go_sem]
  try simp only [ht, treeB, Tree.kind, Tree.steps, Tree.cell, Tree.pos, Tree.kids, mem2_get, mem2_last, mem2_set0, mem2_set1, mem_last, mem_set, mem_len, go_sem]
  refine ⟨(by simp [vb] <;> omega), (by simp [vb] <;> omega), ?_⟩
  refine evA ?_
  simp only [ht, treeB, Tree.kind, Tree.steps, Tree.cell, Tree.pos, Tree.kids, mem2_get, mem2_last, mem2_set0, mem2_set1, mem_last, mem_set, mem_len, go_sem]
  try simp only [ht, treeB, Tree.kind, Tree.steps, Tree.cell, Tree.pos, Tree.kids, mem2_get, mem2_last, mem2_set0, mem2_set1, mem_last, mem_set, mem_len, go_sem]
  refine ⟨(by simp [vb] <;> omega), (by simp [vb] <;> omega), ?_⟩
  refine evA ?_
  simp only [ht, treeB, Tree.kind, Tree.steps, Tree.cell, Tree.pos, Tree.kids, mem2_get, mem2_last, mem2_set0, mem2_set1, mem_last, mem_set, mem_len, go_sem]
  refine ⟨fun h => by simp at h <;> omega, fun _ => ?_⟩
  refine evA ?_
  simp only [ht, treeB, Tree.kind, Tree.steps, Tree.cell, Tree.pos, Tree.kids, mem2_get, mem2_last, mem2_set0, mem2_set1, mem_last, mem_set, mem_len, go_sem]
  try simp only [ht, treeB, Tree.kind, Tree.steps, Tree.cell, Tree.pos, Tree.kids, mem2_get, mem2_last, mem2_set0, mem2_set1, mem_last, mem_set, mem_len, go_sem]
  refine ⟨(by simp [vb] <;> omega), (by simp [vb] <;> omega), ?_⟩
  refine evH [(55, { val := some (.pv (.tup [])), mem := some (bst (wrM μ b g (.node 1 s c a ks)) b g r (o ++ lineT [115, 112, 108, 105, 116] [c, a]) (j + 4)) })] ?_
  simp only [ht, treeB, Tree.kind, Tree.steps, Tree.cell, Tree.pos, Tree.kids, mem2_get, mem2_last, mem2_set0, mem2_set1, mem_last, mem_set, mem_len, go_sem]
  refine ⟨fun _ => ?_, fun h => by simp at h <;> omega⟩
  refine evH [(55, { val := some (.pv (.tup [])), mem := some (bst (wrM μ b g (.node 1 s c a ks)) b g r (o ++ lineT [115, 112, 108, 105, 116] [c, a]) (j + 4)) })] ?_
  simp only [ht, treeB, Tree.kind, Tree.steps, Tree.cell, Tree.pos, Tree.kids, mem2_get, mem2_last, mem2_set0, mem2_set1, mem_last, mem_set, mem_len, go_sem]
  try simp only [ht, treeB, Tree.kind, Tree.steps, Tree.cell, Tree.pos, Tree.kids, mem2_get, mem2_last, mem2_set0, mem2_set1, mem_last, mem_set, mem_len, go_sem]
  refine ⟨(by simp [vb] <;> omega), ?_, ?_⟩
  ·exact ⟨h1, trivial⟩
  exact hkk _ (by (repeat' (first | exact trivial | refine And.intro (by first | rfl | (simp [get, Nat.beq]; done) | (simp [get, Nat.beq]; omega) | (dsimp only [get]; congr 1 <;> first | rfl | omega | (simp; done) | (simp; omega))) ?_)))
 ·have h1 := hln [99, 97, 115, 101, 115] [(ks.length : Int)] (by simp) (by intro n hn; simp only [List.mem_cons, List.not_mem_nil, or_false] at hn; subst hn; omega) (by decide)
  refine evA ?_
  simp only [ht, treeB, Tree.kind, Tree.steps, Tree.cell, Tree.pos, Tree.kids, kidsP, mem2_get, mem2_last, mem2_set0, mem2_set1, mem_last, mem_set, mem_len, go_sem]
  try simp only [ht, treeB, Tree.kind, Tree.steps, Tree.cell, Tree.pos, Tree.kids, kidsP, mem2_get, mem2_last, mem2_set0, mem2_set1, mem_last, mem_set, mem_len, go_sem]
  refine ⟨(by simp [vb] <;> omega), (by simp [vb] <;> omega), ?_⟩
  refine evA ?_
  simp only [ht, treeB, Tree.kind, Tree.steps, Tree.cell, Tree.pos, Tree.kids, kidsP, mem2_get, mem2_last, mem2_set0, mem2_set1, mem_last, mem_set, mem_len, go_sem]
  try simp only [ht, treeB, Tree.kind, Tree.steps, Tree.cell, Tree.pos, Tree.kids, kidsP, mem2_get, mem2_last, mem2_set0, mem2_set1, mem_last, mem_set, mem_len, go_sem]
  refine ⟨(by simp [vb] <;> omega), (by simp [vb] <;> omega), ?_⟩
  refine evA ?_
  simp only [ht, treeB, Tree.kind, Tree.steps, Tree.cell, Tree.pos, Tree.kids, kidsP, mem2_get, mem2_last, mem2_set0, mem2_set1, mem_last, mem_set, mem_len, go_sem]
  refine ⟨fun h => by simp at h <;> omega, fun _ => ?_⟩
  refine evA ?_
  simp only [ht, treeB, Tree.kind, Tree.steps, Tree.cell, Tree.pos, Tree.kids, kidsP, mem2_get, mem2_last, mem2_set0, mem2_set1, mem_last, mem_set, mem_len, go_sem]
  try simp only [ht, treeB, Tree.kind, Tree.steps, Tree.cell, Tree.pos, Tree.kids, kidsP, mem2_get, mem2_last, mem2_set0, mem2_set1, mem_last, mem_set, mem_len, go_sem]
  refine ⟨(by simp [vb] <;> omega), (by simp [vb] <;> omega), ?_⟩
  refine evH [(42, { val := some (.pv (.tup [])), mem := some (bst (wrM μ b g (.node 2 s c a ks)) b g r (o ++ lineT [99, 97, 115, 101, 115] [(ks.length : Int)]) (j + 3)) })] ?_
  simp only [ht, treeB, Tree.kind, Tree.steps, Tree.cell, Tree.pos, Tree.kids, kidsP, mem2_get, mem2_last, mem2_set0, mem2_set1, mem_last, mem_set, mem_len, go_sem]
  refine ⟨fun h => by simp at h <;> omega, fun _ => ?_⟩
  refine evH [(42, { val := some (.pv (.tup [])), mem := some (bst (wrM μ b g (.node 2 s c a ks)) b g r (o ++ lineT [99, 97, 115, 101, 115] [(ks.length : Int)]) (j + 3)) })] ?_
  simp only [ht, treeB, Tree.kind, Tree.steps, Tree.cell, Tree.pos, Tree.kids, kidsP, mem2_get, mem2_last, mem2_set0, mem2_set1, mem_last, mem_set, mem_len, go_sem]
  try simp only [ht, treeB, Tree.kind, Tree.steps, Tree.cell, Tree.pos, Tree.kids, kidsP, mem2_get, mem2_last, mem2_set0, mem2_set1, mem_last, mem_set, mem_len, go_sem]
  refine ⟨(by simp [vb] <;> omega), ?_, ?_⟩
  ·exact ⟨h1, trivial⟩
  exact hkk _ (by (repeat' (first | exact trivial | refine And.intro (by first | rfl | (simp [get, Nat.beq]; done) | (simp [get, Nat.beq]; omega) | (dsimp only [get]; congr 1 <;> first | rfl | omega | (simp; done) | (simp; omega))) ?_)))
end Pur
end Go.Proofs.YtaleoeblooeglaaGreatDoor
namespace Go.Proofs.YtaleoeblooeglaaGreatDoor
namespace Pur
open Go.RowKit
attribute [local go_sem] evOps evOp evOpV evRun evK argF List.map hintAt stripped get put tmpsOf tmpOf tmpO tmpL tmpP conds ev cond_true cond_false Nat.beq Nat.ble Nat.add quiet After thenR blockR IfD List.append_eq List.nil_append List.cons_append evInt exactI_a exactI_b exactI_c exactI_d exactI_e exactI_f evBin evStr evBool evUn guardC calm quiet.isCallK evPick List.getElem?_cons_zero List.getElem?_cons_succ fromCells fromPVs cellsOf List.all oneCell List.length_cons List.length_nil mkAgg plains List.drop List.take List.getD Option.getD_some bo1 bo2 ba1 ba2 bn1 bn2 kk_i64 kk_u8 kk_i32 kk_u64 setAt List.set Nat.reduceAdd Nat.reduceMul evCall safeCall refsOf refsIn scalarA scalar scalarL thawL mapAll thawArg thawRef after freeze RetD RetE evResult evRess evRes1 thaw_pv mkTup nilOf_a nilOf_b nilOf_bb nilOf_c nilOf_d nilOf_e nilOf_f nilOf_g nilOf_h nilOf_i nilOf_j nilOf_k nilOf_l nilOf_m eqLeaf_a eqLeaf_b eqLeaf_c eqOffs evMM bytesOf evOpsF AfterF footOf footRefs notIn indepF footAt freeOk still evParts fillA zeros intOfA boundA srcOf List.isEmpty appNil_0 appNil_1 appNil_2 Int.reduceToNat Nat.mul_one Nat.reduceSub evC evOpsT evOpsTF autoH tabHint look hintD strip guarded RetPD RetRD mpLen keysOk leafKA leafK bitI nilOf_n nilOf_o Bool.or_false Bool.or_true Bool.and_true Bool.and_false Nat.blt renF renM renB renV idxOf solF solM solA solV thawRef ev1
section
open Rf
theorem valid_formed {t : Tree} (h : validB t = true) : formedB t = true ∧ wt t ≤ 65536 := by
 simp only [validB, Bool.and_eq_true, decide_eq_true_eq] at h
 exact ⟨h.2, h.1.2⟩
def formatN (t : Tree) : List UInt8 × Int := if validB t then (if (textN t).length > 65536 then ([], 8) else (textN t, 0)) else ([], 1)
end
section
open Rf
structure FamS (σ : Type) where
 E : σ → World → Prop
 hE : ∀ k (w w' : World), E k w → Below w.heap.size w w' → E k w'
 Fo : Nat → Prop
noncomputable def fam {σ : Type} (X : FamS σ) : Fam σ := ⟨Tryz.prog, by kernel_rfl, [], X.E, X.hE, X.Fo⟩
mutual
def vis {σ : Type} (st : σ → Int → Tree → Bool × σ) (k : σ) (lev : Int) : Tree → Bool × σ
 | .node kd s c a l => match st k lev (.node kd s c a l) with
  | (false, k1) => (false, k1)
  | (true, k1) => visK st k1 (lev + 1) l
def visK {σ : Type} (st : σ → Int → Tree → Bool × σ) (k : σ) (lev : Int) : List Tree → Bool × σ
 | [] => (true, k)
 | t :: r => match vis st k lev t with
  | (false, k1) => (false, k1)
  | (true, k1) => visK st k1 lev r
end
mutual
theorem vis_G {σ : Type} {st : σ → Int → Tree → Bool × σ} {G : σ → Prop} (hG : ∀ k lev t, G k → (st k lev t).1 = true → G (st k lev t).2) : ∀ (t : Tree) (k : σ) (lev : Int), G k → (vis st k lev t).1 = true → G (vis st k lev t).2
 | .node kd s c a l, k, lev, hk, h => by
  have h1 := hG k lev (.node kd s c a l) hk
  rw [vis] at h ⊢
  generalize st k lev (.node kd s c a l) = q at *
  obtain ⟨b, k1⟩ := q
  cases b with
  | false => cases h
  | true => exact visK_G hG l k1 (lev + 1) (h1 rfl) h
theorem visK_G {σ : Type} {st : σ → Int → Tree → Bool × σ} {G : σ → Prop} (hG : ∀ k lev t, G k → (st k lev t).1 = true → G (st k lev t).2) : ∀ (l : List Tree) (k : σ) (lev : Int), G k → (visK st k lev l).1 = true → G (visK st k lev l).2
 | [], k, lev, hk, h => by rw [visK]; exact hk
 | t :: r, k, lev, hk, h => by
  have h1 := vis_G hG t k lev hk
  rw [visK] at h ⊢
  generalize vis st k lev t = q at *
  obtain ⟨b, k1⟩ := q
  cases b with
  | false => cases h
  | true => exact visK_G hG r k1 lev (h1 rfl) h
end
def c68 : ACode := (⟨_, by conv => (lhs; reduce; try simp only [lt1, Int.cast_ofNat_Int, Int.reduceNegSucc, UInt8.reduceOfNat])⟩ : {x // codeOf Tryz.prog 68 (fun _ => false) = some x}).1
theorem fn68 : fnOf Tryz.prog 68 (fun _ => false) = some (c68, [.t 6], 28, true) := by kernel_rfl
theorem get_below {μ : AM} {b : Nat} {k : Blk} (h : μ[b]? = some k) (x : Blk) : (μ ++ [x])[b]? = some k := by
 have := (List.getElem?_eq_some_iff.mp h).1
 rw [List.getElem?_append_left this]
 exact h
theorem bnd_moreV : ∀ (d : Nat) (v : AV) (m m' : Nat), m ≤ m' → bnd d m v = true → bnd d m' v = true := by
 intro d
 induction d with
 | zero =>
  intro v m m' hmm h
  cases v <;> simp only [bnd] at h ⊢ <;> first | exact h | (have := Nat.blt_eq.mp h; exact Nat.blt_eq.mpr (by omega))
 | succ d ih =>
  intro v m m' hmm h
  cases v <;> simp only [bnd] at h ⊢ <;> first
   | exact h
   | (have := Nat.blt_eq.mp h; exact Nat.blt_eq.mpr (by omega))
   | (rw [List.all_eq_true] at h ⊢; exact fun x hx => ih x m m' hmm (h x hx))
   | exact ih _ m m' hmm h
theorem okMem_addV {μ : AM} {k : Blk} (h : okMem μ μ.length = true) (hk : k.cells.all (bnd 3 (μ.length + 1)) = true) : okMem (μ ++ [k]) (μ ++ [k]).length = true := by
 unfold okMem at h ⊢
 rw [List.all_eq_true] at h ⊢
 intro q hq
 rw [List.length_append, List.length_singleton]
 rcases List.mem_append.mp hq with hq | hq
 ·have := h q hq
  rw [List.all_eq_true] at this ⊢
  exact fun v hv => bnd_moreV 3 v _ _ (by omega) (this v hv)
 ·rw [List.mem_singleton.mp hq]
  exact hk
theorem okMem_tree {μ : AM} (h : okMem μ μ.length = true) (t : Tree) : okMem (μ ++ [treeB t]) (μ ++ [treeB t]).length = true :=
 okMem_addV h rfl
theorem awY_skip {σ : Type} {F : Fam σ} {own : Nat → Bool} {n m : Nat} {R : σ → Exit → AF → AM → Prop} {k : σ} {f : AF} {μ : AM} (h : R k .normal f μ) : AwY F own n m .skip R k f μ := awY_lift (evA h)
theorem awY_exit {σ : Type} {F : Fam σ} {own : Nat → Bool} {n m id : Nat} {R : σ → Exit → AF → AM → Prop} {k : σ} {f : AF} {μ : AM} (h : R k (.exit id) f μ) : AwY F own n m (.exit id) R k f μ := awY_lift (aw_exit h)
variable {σ : Type} {X : FamS σ}
set_option maxHeartbeats 4000000 in
theorem visit_ok (l b1 b2 : Nat) (e1 e2 : TypeId) (st : σ → Int → Tree → Bool × σ) (G : σ → Prop) (hG : ∀ k lev t, G k → (st k lev t).1 = true → G (st k lev t).2)
    (hY : ∀ (k : σ) (lev : Int) (t : Tree) (μ : AM), G k → okMem μ μ.length = true → wt t ≤ 1000000000 → -1000000000 ≤ lev → lev ≤ 3000000000 → YdOK (fam X) l [.pv (.int .i64 lev), .pv (treeP t)] k μ (.pv (.bool (st k lev t).1)) (st k lev t).2 μ) :
    ∀ (t : Tree), wt t ≤ 1000000000 → ∀ (k : σ) (lev : Int) (μ : AM), G k → okMem μ μ.length = true → -1000000000 ≤ lev → lev + wt t ≤ 2000000000 →
      μ[b1]? = some ⟨[.pv (.val (.func (.yield l) #[] #[]))], 0, 1, e1, false⟩ → μ[b2]? = some ⟨[.fn 68 [.ptr b1 0 0, .ptr b2 0 0]], 0, 1, e2, false⟩ →
      YOK (fam X) 68 [.pv (.int .i64 lev), .pv (treeP t), .ptr b1 0 0, .ptr b2 0 0] k μ (.pv (.bool (vis st k lev t).1)) (vis st k lev t).2 μ := by
  refine Tree.ind fun kd s c a ks ih hw k lev μ hk hμ hl0 hl1 h1 h2 => ?_
  refine y_body (F := fam X) (k := k) (Fn.of (C := (fam X).C k) fn68 rfl) rfl (Nat.le_refl _) rfl hμ ?_
  unfold c68
  refine awY_seq (awY_lift ?_)
  refine evA ?_
  simp only [thenY, treeP, Tree.kind, Tree.steps, Tree.cell, Tree.pos, Tree.kids, mem2_get, mem2_last, mem2_set0, mem2_set1, mem_last, mem_set, mem_len, go_sem]
  try simp only [thenY, treeP, Tree.kind, Tree.steps, Tree.cell, Tree.pos, Tree.kids, mem2_get, mem2_last, mem2_set0, mem2_set1, mem_last, mem_set, mem_len, go_sem]
  refine ⟨(by simp [vb] <;> omega), (by simp [vb] <;> omega), ?_⟩
  refine awY_seq (awY_seq ?_)
  refine awY_mid 3 [] [] ?_
  simp only [MidAt, List.take_succ_cons, List.take_zero, List.drop_succ_cons, List.drop_zero, List.getElem?_cons_succ, List.getElem?_cons_zero, go_sem, mem_last, get_below h1, get_below h2, panT, thenY]
  have hT := okMem_tree hμ (.node kd s c a ks)
  refine ⟨by simp [VCs], trivial, trivial, .pv (.bool (st k lev (.node kd s c a ks)).1), (st k lev (.node kd s c a ks)).2, μ ++ [treeB (.node kd s c a ks)], .inr ⟨.t 9, [.t 10, .t 11], l, rfl, rfl, hY k lev _ _ hk hT hw (by omega) (by omega)⟩, ?_⟩
  have hvis : vis st k lev (.node kd s c a ks) = match st k lev (.node kd s c a ks) with
    | (false, k1) => (false, k1)
    | (true, k1) => visK st k1 (lev + 1) ks := by rw [vis]
  rw [hvis]
  have hk1 := hG k lev (.node kd s c a ks) hk
  generalize st k lev (.node kd s c a ks) = q at *
  obtain ⟨b, k1⟩ := q
  simp only [go_sem, thenY]
  cases b with
  | false =>
    refine ⟨by simp [VCs], trivial, ?_⟩
    refine awY_cond (t := true) rfl ?_
    rw [cond_true]
    refine awY_lift ?_
    repeat' (first
      | ((with_reducible first | show VCs _ | show All _); simp [vb] <;> omega)
      | exact (rfl : some _ = _)
      | (fail_if_success refine awL ?_
         refine evA ?_
         repeat1' dsimp only [c68, thenY, RetY, go_sem]
         first
         | refine aw4 ?_ ?_ rfl ?_
         | apply aw3
         | apply aw2
         | (refine awB (fun hc => ?_) fun hc => ?_ <;> first | (cases hc; done) | (exfalso; simp at hc <;> omega) | (try simp only [bn] at hc; try contradiction))
         | skip))
    exact ⟨rfl, [], _, rfl, trivial, rfl⟩
  | true =>
    refine ⟨by simp [VCs], trivial, ?_⟩
    refine awY_cond (t := false) rfl ?_
    rw [cond_false]
    refine awY_lift ?_
    refine evA ?_
    simp only [go_sem, thenY]
    refine awY_seq (awY_seq (awY_lift ?_))
    refine evA ?_
    simp only [thenY, treeB, Tree.kind, Tree.steps, Tree.cell, Tree.pos, Tree.kids, kidsP, mem2_get, mem2_last, mem2_set0, mem2_set1, mem_last, mem_set, mem_len, go_sem]
    try simp only [thenY, treeB, Tree.kind, Tree.steps, Tree.cell, Tree.pos, Tree.kids, kidsP, mem2_get, mem2_last, mem2_set0, mem2_set1, mem_last, mem_set, mem_len, go_sem]
    refine ⟨(by simp [vb] <;> omega), (by simp [vb] <;> omega), ?_⟩
    generalize hr : visK st k1 (lev + 1) ks = r
    rw [wt_node] at hw hl1
    refine awY_block ?_
    refine awY_loop (fun j k' f' μ' => ∃ i, i ≤ ks.length ∧ j = ks.length - i ∧ visK st k' (lev + 1) (ks.drop i) = r ∧ Sub [(0, .pv (.int .i64 lev)), (3, .ptr b2 0 0), (15, .pv (.sl ks.length (ks.flatMap treeC))), (16, .pv (.int .i64 ks.length)), (17, .pv (.int .i64 i))] f' ∧ ∃ junk, μ' = μ ++ junk ∧ okMem (μ ++ junk) (μ ++ junk).length = true ∧ G k') ?_ ks.length ⟨0, Nat.zero_le _, rfl, by rw [List.drop_zero]; exact hr, by (repeat' (first | exact trivial | refine And.intro (by first | rfl | (simp [get, Nat.beq]; done) | (simp [get, Nat.beq]; omega) | (dsimp only [get]; congr 1 <;> first | rfl | omega | (simp; done) | (simp; omega))) ?_)), _, rfl, hT, hk1 rfl⟩
    rintro j k' f' μ' ⟨i, hi, rfl, hv, hf, junk, rfl, hok, hkk⟩
    refine awY_frame _ hf ?_
    clear hf f'
    have g1 : (μ ++ junk)[b1]? = some ⟨[.pv (.val (.func (.yield l) #[] #[]))], 0, 1, e1, false⟩ := by rw [List.getElem?_append_left (List.getElem?_eq_some_iff.mp h1).1]; exact h1
    have g2 : (μ ++ junk)[b2]? = some ⟨[.fn 68 [.ptr b1 0 0, .ptr b2 0 0]], 0, 1, e2, false⟩ := by rw [List.getElem?_append_left (List.getElem?_eq_some_iff.mp h2).1]; exact h2
    by_cases hlt : i < ks.length
    · have e := kid_take ks i hlt
      have hle := kids_len ks
      have hkl := wts_len ks
      have hwx := wt_mem (getD_mem (d := zt) hlt)
      have hd : ks.drop i = ks.getD i zt :: ks.drop (i + 1) := by rw [List.drop_eq_getElem_cons hlt, List.getD, List.getElem?_eq_getElem hlt]; rfl
      rw [hd, visK] at hv
      have hx := ih _ (getD_mem (d := zt) hlt) (by omega) k' (lev + 1)
      generalize ks.getD i zt = x at *
      have hT2 := okMem_tree hok x
      have hx := hx _ hkk hT2 (by omega) (by omega) (get_below g1 _) (get_below g2 _)
      obtain ⟨xk, xs, xc, xa, xl⟩ := x
      simp only [Tree.kind, Tree.steps, Tree.cell, Tree.pos, Tree.kids] at e
      simp only [treeP, treeB, Tree.kind, Tree.steps, Tree.cell, Tree.pos, Tree.kids] at hx hT2
      refine awY_seq (awY_lift ?_)
      refine evA ?_
      simp only [thenY, mem2_get, mem2_last, mem2_set0, mem2_set1, mem_last, mem_set, mem_len, go_sem]
      try simp only [thenY, mem2_get, mem2_last, mem2_set0, mem2_set1, mem_last, mem_set, mem_len, go_sem]
      refine ⟨(by simp [vb, hlt] <;> omega), (by simp [vb, hlt] <;> omega), ?_⟩
      refine awY_seq (awY_cond (t := decide ((i : Int) < ks.length)) rfl ?_)
      rw [decide_eq_true (by omega : (i : Int) < ks.length), cond_true]
      refine awY_skip ?_
      refine awY_seq (awY_block ?_)
      refine awY_seq (awY_lift ?_)
      refine evH [(20, { val := some (.pv (.agg [.int .i64 xk, rstepsP xs, .int .i64 xc, .int .i64 xa, kidsP xl])) })] ?_
      simp only [thenY, mem2_get, mem2_last, mem2_set0, mem2_set1, mem_last, mem_set, mem_len, go_sem]
      try simp only [thenY, mem2_get, mem2_last, mem2_set0, mem2_set1, mem_last, mem_set, mem_len, go_sem]
      refine ⟨(by simp [vb, e, hle, hlt] <;> omega), (by simp [vb, e, hle, hlt] <;> omega), ?_⟩
      refine awY_seq ?_
      refine awY_mid 4 [] [] ?_
      simp only [MidAt, List.take_succ_cons, List.take_zero, List.drop_succ_cons, List.drop_zero, List.getElem?_cons_succ, List.getElem?_cons_zero, go_sem, mem_last, panT, thenY, get_below g1, get_below g2]
      refine ⟨by simp [VCs, minI, maxI]; omega, trivial, trivial, _, _, _, .inl ⟨_, _, rfl, hx⟩, ?_⟩
      clear hx
      have hk2 := vis_G hG (.node xk xs xc xa xl) k' (lev + 1) hkk
      generalize vis st k' (lev + 1) (.node xk xs xc xa xl) = q at *
      obtain ⟨b, k2⟩ := q
      simp only [go_sem, thenY]
      cases b with
      | false =>
        refine ⟨by simp [VCs], trivial, ?_⟩
        refine awY_cond (t := true) rfl ?_
        rw [cond_true]
        refine awY_lift ?_
        subst hv
        repeat' (first
          | ((with_reducible first | show VCs _ | show All _); simp [vb] <;> omega)
          | exact (rfl : some _ = _)
          | (fail_if_success refine awL ?_
             refine evA ?_
             repeat1' dsimp only [c68, thenY, blockY, RetY, go_sem]
             first
             | refine aw4 ?_ ?_ rfl ?_
             | apply aw3
             | apply aw2
             | (refine awB (fun hc => ?_) fun hc => ?_ <;> first | (cases hc; done) | (exfalso; simp at hc <;> omega) | (try simp only [bn] at hc; try contradiction))
             | skip))
        exact ⟨rfl, [], _, rfl, trivial, by rw [List.append_assoc]⟩
      | true =>
        refine ⟨by simp [VCs], trivial, ?_⟩
        refine awY_cond (t := false) rfl ?_
        rw [cond_false]
        refine awY_skip ?_
        simp only [thenY, blockY]
        refine awY_lift ?_
        refine evA ?_
        simp only [thenY, blockY, mem2_get, mem2_last, mem2_set0, mem2_set1, mem_last, mem_set, mem_len, go_sem]
        try simp only [thenY, blockY, mem2_get, mem2_last, mem2_set0, mem2_set1, mem_last, mem_set, mem_len, go_sem]
        refine ⟨(by simp [vb, hlt] <;> omega), (by simp [vb, hlt] <;> omega), ?_⟩
        exact ⟨_, by omega, i + 1, by omega, rfl, hv, by (repeat' (first | exact trivial | refine And.intro (by first | rfl | (simp [get, Nat.beq]; done) | (simp [get, Nat.beq]; omega) | (dsimp only [get]; congr 1 <;> first | rfl | omega | (simp; done) | (simp; omega))) ?_)), _, by rw [List.append_assoc], by rw [← List.append_assoc]; exact hT2, hk2 rfl⟩
    · obtain rfl : i = ks.length := by omega
      refine awY_seq (awY_lift ?_)
      refine evA ?_
      simp only [thenY, mem2_get, mem2_last, mem2_set0, mem2_set1, mem_last, mem_set, mem_len, go_sem]
      try simp only [thenY, mem2_get, mem2_last, mem2_set0, mem2_set1, mem_last, mem_set, mem_len, go_sem]
      refine ⟨(by simp [vb, hlt] <;> omega), (by simp [vb, hlt] <;> omega), ?_⟩
      refine awY_seq (awY_cond (t := decide ((ks.length : Int) < ks.length)) rfl ?_)
      rw [decide_eq_false (by omega : ¬ (ks.length : Int) < ks.length), cond_false]
      refine awY_exit ?_
      simp only [thenY, blockY, Nat.beq_refl, cond_true]
      refine awY_lift ?_
      rw [List.drop_length, visK] at hv
      subst hv
      repeat' (first
        | ((with_reducible first | show VCs _ | show All _); simp [vb] <;> omega)
        | exact (rfl : some _ = _)
        | (fail_if_success refine awL ?_
           refine evA ?_
           repeat1' dsimp only [c68, thenY, blockY, RetY, go_sem]
           first
           | refine aw4 ?_ ?_ rfl ?_
           | apply aw3
           | apply aw2
           | (refine awB (fun hc => ?_) fun hc => ?_ <;> first | (cases hc; done) | (exfalso; simp at hc <;> omega) | (try simp only [bn] at hc; try contradiction))
           | skip))
      exact ⟨rfl, [], _, rfl, trivial, rfl⟩
end
section
open Rf
def c67 : ACode := (⟨_, by conv => (lhs; reduce; try simp only [lt1, Int.cast_ofNat_Int, Int.reduceNegSucc, UInt8.reduceOfNat])⟩ : {x // codeOf Tryz.prog 67 (fun _ => false) = some x}).1
theorem fn67 : fnOf Tryz.prog 67 (fun _ => false) = some (c67, [], 8, true) := by kernel_rfl
def c38 : ACode := (⟨_, by conv => (lhs; reduce; try simp only [lt1, Int.cast_ofNat_Int, Int.reduceNegSucc, UInt8.reduceOfNat])⟩ : {x // codeOf Tryz.prog 38 (fun _ => false) = some x}).1
theorem fn38 : fnOf Tryz.prog 38 (fun _ => false) = some (c38, [.t 2], 4, true) := by kernel_rfl
theorem nodes_ok (t : Tree) (μ : AM) (hμ : okMem μ μ.length = true) : RefOK ctx 38 [.pv (treeP t)] μ (.fn 67 [.ptr μ.length 0 0]) (μ ++ [treeB t]) := by
  refine ref_body' (C := ctx) (Fn.of fn38 rfl) rfl (by simp) (by simp [bnd, Nat.blt]) (okMem_tree hμ t) ?_
  unfold c38
  refine evA ?_
  simp only [treeP, treeB, mem2_get, mem2_last, mem2_set0, mem2_set1, mem_last, mem_set, mem_len, go_sem]
  try simp only [treeP, treeB, mem2_get, mem2_last, mem2_set0, mem2_set1, mem_last, mem_set, mem_len, go_sem]
  refine ⟨(by simp [vb] <;> omega), (by simp [vb] <;> omega), ?_⟩
  refine evA ?_
  simp only [treeP, treeB, mem2_get, mem2_last, mem2_set0, mem2_set1, mem_last, mem_set, mem_len, go_sem]
  try simp only [treeP, treeB, mem2_get, mem2_last, mem2_set0, mem2_set1, mem_last, mem_set, mem_len, go_sem]
  refine ⟨(by simp [vb] <;> omega), (by simp [vb] <;> omega), ?_⟩
  repeat' (first
    | ((with_reducible first | show VCs _ | show All _); simp [vb] <;> omega)
    | exact (rfl : some _ = _)
    | (fail_if_success refine awL ?_
       refine evA ?_
       repeat1' dsimp only [c38, go_sem]
       first
       | refine aw4 ?_ ?_ rfl ?_
       | apply aw3
       | apply aw2
       | (refine awB (fun hc => ?_) fun hc => ?_ <;> first | (cases hc; done) | (exfalso; simp at hc <;> omega) | (try simp only [bn] at hc; try contradiction))
       | skip))
  exact ⟨⟨trivial, rfl⟩, [], (List.append_nil _).symm⟩
variable {σ : Type} {X : FamS σ}
theorem nodes1_ok (l : Nat) (st : σ → Int → Tree → Bool × σ) (G : σ → Prop) (hG : ∀ k lev t, G k → (st k lev t).1 = true → G (st k lev t).2)
  (hY : ∀ (k : σ) (lev : Int) (t : Tree) (μ : AM), G k → okMem μ μ.length = true → wt t ≤ 1000000000 → -1000000000 ≤ lev → lev ≤ 3000000000 → YdOK (fam X) l [.pv (.int .i64 lev), .pv (treeP t)] k μ (.pv (.bool (st k lev t).1)) (st k lev t).2 μ)
  (t : Tree) (hw : wt t ≤ 1000000000) (k : σ) (hk : G k) :
  YOK (fam X) 67 [.pv (.val (.func (.yield l) #[] #[])), .iptr [.int .i64 t.kind, rstepsP t.steps, .int .i64 t.cell, .int .i64 t.pos, kidsP t.kids] 0] k [] (.pv (.tup [])) (vis st k 1 t).2 [] := by
 refine y_body (F := fam X) (k := k) (Fn.of (C := (fam X).C k) fn67 rfl) rfl (Nat.le_refl _) rfl rfl ?_
 unfold c67
 refine awY_seq (awY_lift ?_)
 refine evA ?_
 dsimp only [thenY, go_sem]
 try dsimp only [thenY, go_sem]
 refine ⟨(by simp [vb] <;> omega), (by simp [vb] <;> omega), ?_⟩
 refine awY_seq (awY_lift ?_)
 refine evA ?_
 dsimp only [thenY, go_sem]
 try dsimp only [thenY, go_sem]
 refine ⟨(by simp [vb] <;> omega), (by simp [vb] <;> omega), ?_⟩
 refine awY_seq (awY_lift ?_)
 refine evA ?_
 dsimp only [thenY, go_sem]
 try dsimp only [thenY, go_sem]
 refine ⟨(by simp [vb] <;> omega), (by simp [vb] <;> omega), ?_⟩
 refine awY_mid 2 [] [] ?_
 simp only [MidAt, List.take_succ_cons, List.take_zero, List.drop_succ_cons, List.drop_zero, List.getElem?_cons_succ, List.getElem?_cons_zero, go_sem, panT, thenY]
 refine ⟨by simp [VCs], trivial, trivial, _, _, _, .inl ⟨_, _, rfl, visit_ok l 0 1 _ _ st G hG hY t hw k 1 _ hk rfl (by omega) (by omega) rfl rfl⟩, ?_⟩
 generalize vis st k 1 t = q
 obtain ⟨b, k2⟩ := q
 simp only [go_sem, thenY, RetY]
 refine ⟨by simp [VCs], trivial, ?_⟩
 exact ⟨trivial, [], _, rfl, trivial, rfl⟩
end
end Pur
end Go.Proofs.YtaleoeblooeglaaGreatDoor
namespace Go.Proofs.YtaleoeblooeglaaGreatDoor
namespace Pur
open Go.RowKit
section
open Rf
def c15 : ACode := (⟨_, by conv => (lhs; reduce; try simp only [lt1, Int.cast_ofNat_Int, Int.reduceNegSucc, UInt8.reduceOfNat])⟩ : {x // codeOf Tryz.prog 15 (fun _ => false) = some x}).1
theorem fn15 : fnOf Tryz.prog 15 (fun _ => false) = some (c15, [.t 2], 16, true) := by kernel_rfl
def c17 : ACode := (⟨_, by conv => (lhs; reduce; try simp only [lt1, Int.cast_ofNat_Int, Int.reduceNegSucc, UInt8.reduceOfNat])⟩ : {x // codeOf Tryz.prog 17 (fun _ => false) = some x}).1
theorem fn17 : fnOf Tryz.prog 17 (fun _ => false) = some (c17, [.t 2], 13, true) := by kernel_rfl
def c13 : ACode := (⟨_, by conv => (lhs; reduce; try simp only [lt1, Int.cast_ofNat_Int, Int.reduceNegSucc, UInt8.reduceOfNat])⟩ : {x // codeOf Tryz.prog 13 (fun _ => false) = some x}).1
theorem fn13 : fnOf Tryz.prog 13 (fun _ => false) = some (c13, [.cell 2 1 false], 27, true) := by kernel_rfl
end
end Pur
end Go.Proofs.YtaleoeblooeglaaGreatDoor
namespace Go.Proofs.YtaleoeblooeglaaGreatDoor
namespace Rf
open Pur
def stS (k : Int) (_ : Int) (t : Tree) : Bool × Int := (true, IntKind.i64.wrap (k + t.steps.length))
def stD (k : Int) (lev : Int) (_ : Tree) : Bool × Int := (true, if k < lev then lev else k)
theorem wrap_in {n : Int} (h1 : 0 ≤ n) (h2 : n ≤ 4000000000) : IntKind.i64.wrap n = n := wrap64_id (by unfold minI; omega) (by unfold maxI; omega)
mutual
theorem vis_stS : ∀ (t : Tree) (k lev : Int), 0 ≤ k → k + wt t ≤ 3000000000 → vis stS k lev t = (true, k + stepsN t)
 | .node kd s c a l, k, lev, h0, h1 => by
  rw [wt_node] at h1
  rw [vis, stepsN_node]
  show (match stS k lev (.node kd s c a l) with | (false, k1) => (false, k1) | (true, k1) => visK stS k1 (lev + 1) l) = _
  have hs : stS k lev (.node kd s c a l) = (true, k + s.length) := by
   simp only [stS, Tree.steps]
   rw [wrap_in (by omega) (by omega)]
  rw [hs]
  show visK stS _ _ l = _
  rw [visK_stS l _ _ (by omega) (by push_cast at h1; omega)]
  simp only [Prod.mk.injEq, true_and]
  push_cast
  omega
theorem visK_stS : ∀ (l : List Tree) (k lev : Int), 0 ≤ k → k + wts l ≤ 3000000000 → visK stS k lev l = (true, k + stepsNs l)
 | [], k, lev, h0, h1 => by rw [visK]; simp [stepsNs]
 | t :: r, k, lev, h0, h1 => by
  rw [wts] at h1
  have := stepsN_wt t
  rw [visK, vis_stS t k lev h0 (by push_cast at h1; omega)]
  show visK stS _ _ r = _
  rw [visK_stS r _ _ (by omega) (by push_cast at h1; omega), stepsNs]
  simp only [Prod.mk.injEq, true_and]
  push_cast
  omega
end
mutual
theorem vis_stD : ∀ (t : Tree) (k lev : Int), lev - 1 ≤ k → vis stD k lev t = (true, if k < lev + depthN t - 1 then lev + depthN t - 1 else k)
 | .node kd s c a l, k, lev, h0 => by
  rw [vis, depthN_node]
  show visK stD (if k < lev then lev else k) (lev + 1) l = _
  rw [visK_stD l _ _ (by split <;> omega)]
  simp only [Prod.mk.injEq, true_and]
  (repeat' split) <;> omega
theorem visK_stD : ∀ (l : List Tree) (k lev : Int), lev - 1 ≤ k → visK stD k lev l = (true, if k < lev + depthNs l - 1 then lev + depthNs l - 1 else k)
 | [], k, lev, h0 => by
  rw [visK]
  simp only [depthNs, Prod.mk.injEq, true_and]
  (repeat' split) <;> omega
 | t :: r, k, lev, h0 => by
  rw [visK, vis_stD t k lev h0]
  show visK stD _ lev r = _
  rw [visK_stD r _ _ (by split <;> omega), depthNs]
  simp only [Prod.mk.injEq, true_and]
  rcases Nat.le_total (depthN t) (depthNs r) with h | h
  ·rw [Nat.max_eq_right h]
   (repeat' split) <;> omega
  ·rw [Nat.max_eq_left h]
   (repeat' split) <;> omega
end
def stV (k : Int × Bool) (lev : Int) (t : Tree) : Bool × Int × Bool :=
 let c := IntKind.i64.wrap (k.1 + (1 + t.steps.length))
 let bad := bif decide (lev > 4096) then true else bif decide (c > 65536) then true else !nodeB t
 (!bad, c, bad)
theorem bif_tt (a b : Bool) : (bif a then true else b) = (a || b) := by cases a <;> rfl
mutual
theorem vis_stV : ∀ (t : Tree) (c lev : Int), 0 ≤ c → c + wt t ≤ 3000000000 → (vis stV (c, false) lev t).2.2 = !(vis stV (c, false) lev t).1 ∧
  ((vis stV (c, false) lev t).1 = true ↔ (lev + depthN t ≤ 4097 ∧ c + wt t ≤ 65536 ∧ formedB t = true)) ∧ ((vis stV (c, false) lev t).1 = true → (vis stV (c, false) lev t).2 = (c + wt t, false))
 | .node kd s x a l, c, lev, h0, h1 => by
  rw [wt_node] at h1 ⊢
  rw [vis, depthN_node, formedB_node]
  have hs : stV (c, false) lev (.node kd s x a l) = (!(decide (lev > 4096) || (decide (c + (1 + s.length) > 65536) || !(s.all rstepOk && tailOk kd x a l.length))), c + (1 + s.length), decide (lev > 4096) || (decide (c + (1 + s.length) > 65536) || !(s.all rstepOk && tailOk kd x a l.length))) := by
   have hw : IntKind.i64.wrap (c + (1 + s.length)) = c + (1 + s.length) := wrap_in (by omega) (by push_cast at h1; omega)
   simp only [stV, nodeB, Tree.steps, Tree.kind, Tree.cell, Tree.pos, Tree.kids, bif_tt, hw]
  rw [hs]
  cases hb : decide (lev > 4096) || (decide (c + (1 + s.length) > 65536) || !(s.all rstepOk && tailOk kd x a l.length)) with
  | true =>
   refine ⟨rfl, ⟨(fun h => by cases h), fun ⟨g1, g2, g3⟩ => ?_⟩, (fun h => by cases h)⟩
   exfalso
   simp only [Bool.and_eq_true] at g3
   simp only [Bool.or_eq_true, decide_eq_true_eq, Bool.not_eq_true', Bool.and_eq_false_iff] at hb
   rw [g3.1.1, g3.1.2] at hb
   push_cast at g1 g2
   simp at hb
   omega
  | false =>
   simp only [Bool.or_eq_false_iff, decide_eq_false_iff_not, Bool.not_eq_false'] at hb
   obtain ⟨b1, b2, b3⟩ := hb
   obtain ⟨q1, q2, q3⟩ := visK_stV l (c + (1 + s.length)) (lev + 1) (by omega) (by push_cast at h1; omega) (by omega) (by omega)
   refine ⟨q1, q2.trans ?_, fun h => (q3 h).trans ?_⟩
   ·rw [b3, Bool.true_and]
    push_cast
    constructor
    ·rintro ⟨g1, g2, g3⟩; exact ⟨by omega, by omega, g3⟩
    ·rintro ⟨g1, g2, g3⟩; exact ⟨by omega, by omega, g3⟩
   ·push_cast
    rw [Prod.mk.injEq]
    exact ⟨by omega, rfl⟩
theorem visK_stV : ∀ (l : List Tree) (c lev : Int), 0 ≤ c → c + wts l ≤ 3000000000 → c ≤ 65536 → lev ≤ 4097 → (visK stV (c, false) lev l).2.2 = !(visK stV (c, false) lev l).1 ∧
  ((visK stV (c, false) lev l).1 = true ↔ (lev + depthNs l ≤ 4097 ∧ c + wts l ≤ 65536 ∧ l.all formedB = true)) ∧ ((visK stV (c, false) lev l).1 = true → (visK stV (c, false) lev l).2 = (c + wts l, false))
 | [], c, lev, h0, h1, h2, h3 => by
  rw [visK]
  refine ⟨rfl, ⟨fun _ => ⟨by simp [depthNs]; omega, by simp [wts]; omega, rfl⟩, fun _ => rfl⟩, fun _ => by simp [wts]⟩
 | t :: r, c, lev, h0, h1, h2, h3 => by
  rw [wts] at h1 ⊢
  rw [visK, depthNs, List.all_cons]
  obtain ⟨q1, q2, q3⟩ := vis_stV t c lev h0 (by push_cast at h1; omega)
  generalize vis stV (c, false) lev t = v at *
  obtain ⟨b, k1⟩ := v
  simp only at q1 q2 q3
  cases b with
  | false =>
   refine ⟨q1, ⟨(fun h => by cases h), fun ⟨g1, g2, g3⟩ => ?_⟩, (fun h => by cases h)⟩
   rw [Bool.and_eq_true] at g3
   have := Nat.le_max_left (depthN t) (depthNs r)
   exact absurd (q2.mpr ⟨by omega, by push_cast at g2; omega, g3.1⟩) (by simp)
  | true =>
   obtain ⟨g1, g2, g3⟩ := q2.mp rfl
   obtain rfl := q3 rfl
   obtain ⟨p1, p2, p3⟩ := visK_stV r (c + wt t) lev (by omega) (by push_cast at h1; omega) (by omega) h3
   refine ⟨p1, p2.trans ?_, fun h => (p3 h).trans ?_⟩
   ·rw [g3, Bool.true_and]
    push_cast
    constructor
    ·rintro ⟨e1, e2, e3⟩; exact ⟨by rcases Nat.le_total (depthN t) (depthNs r) with h | h <;> simp only [Nat.max_eq_right h, Nat.max_eq_left h] <;> omega, by omega, e3⟩
    ·rintro ⟨e1, e2, e3⟩; exact ⟨by have := Nat.le_max_right (depthN t) (depthNs r); omega, by omega, e3⟩
   ·push_cast
    rw [Prod.mk.injEq]
    exact ⟨by omega, rfl⟩
end
theorem valid_eq (t : Tree) (h : wt t ≤ 1000000000) : (vis stV (0, false) 1 t).2.2 = !validB t := by
 obtain ⟨q1, q2, -⟩ := vis_stV t 0 1 (by omega) (by omega)
 rw [q1]
 congr 1
 rw [Bool.eq_iff_iff, q2]
 simp only [validB, Bool.and_eq_true, decide_eq_true_eq]
 constructor
 ·rintro ⟨a, b, c⟩; exact ⟨⟨by omega, by omega⟩, c⟩
 ·rintro ⟨⟨a, b⟩, c⟩; exact ⟨by omega, by omega, c⟩
end Rf
namespace Pur
open Go.RowKit
attribute [local go_sem] evOps evOp evOpV evRun evK argF List.map hintAt stripped get put tmpsOf tmpOf tmpO tmpL tmpP conds ev cond_true cond_false Nat.beq Nat.ble Nat.add quiet After thenR blockR IfD List.append_eq List.nil_append List.cons_append evInt exactI_a exactI_b exactI_c exactI_d exactI_e exactI_f evBin evStr evBool evUn guardC calm quiet.isCallK evPick List.getElem?_cons_zero List.getElem?_cons_succ fromCells fromPVs cellsOf List.all oneCell List.length_cons List.length_nil mkAgg plains List.drop List.take List.getD Option.getD_some bo1 bo2 ba1 ba2 bn1 bn2 kk_i64 kk_u8 kk_i32 kk_u64 setAt List.set Nat.reduceAdd Nat.reduceMul evCall safeCall refsOf refsIn scalarA scalar scalarL thawL mapAll thawArg thawRef after freeze RetD RetE evResult evRess evRes1 thaw_pv mkTup nilOf_a nilOf_b nilOf_bb nilOf_c nilOf_d nilOf_e nilOf_f nilOf_g nilOf_h nilOf_i nilOf_j nilOf_k nilOf_l nilOf_m eqLeaf_a eqLeaf_b eqLeaf_c eqOffs evMM bytesOf evOpsF AfterF footOf footRefs notIn indepF footAt freeOk still evParts fillA zeros intOfA boundA srcOf List.isEmpty appNil_0 appNil_1 appNil_2 Int.reduceToNat Nat.mul_one Nat.reduceSub evC evOpsT evOpsTF autoH tabHint look hintD strip guarded RetPD RetRD mpLen keysOk leafKA leafK bitI nilOf_n nilOf_o Bool.or_false Bool.or_true Bool.and_true Bool.and_false Nat.blt renF renM renB renV idxOf solF solM solA solV thawRef ev1
open Rf
def cntB (k : Int) : Blk := ⟨[.pv (.int .i64 k)], 0, 1, 3, false⟩
theorem cnt_lit (k : Int) : ∀ b ∈ [cntB k], LitB b := by
 intro b hb
 rw [List.mem_singleton.mp hb]
 exact ⟨by simp [cntB, litV], rfl, rfl, by simp [cntB]⟩
set_option maxHeartbeats 2000000 in
theorem steps_ok (t : Tree) (hw : wt t ≤ 1000000000) : PureOK ctx 15 [treeP t] (.int .i64 (stepsN t)) := by
  refine pure_bodyM (C := ctx) (Fn.of fn15 rfl) rfl ?_
  unfold c15
  refine awM_seq (awM_lift fun D => ?_)
  refine evA ?_
  dsimp only [treeP, go_sem]
  try dsimp only [treeP, go_sem]
  refine ⟨(by simp [vb] <;> omega), (by simp [vb] <;> omega), ?_⟩
  refine awM_seq (awM_lift fun D => ?_)
  refine evA ?_
  dsimp only [treeP, go_sem]
  try dsimp only [treeP, go_sem]
  refine ⟨(by simp [vb] <;> omega), (by simp [vb] <;> omega), ?_⟩
  refine awM_seq (awM_seq (awM_lift fun D => ?_))
  have hn := (nodes_ok t [treeB t, cntB 0] rfl).atD D
  refine evH [(7, { val := some (.fn 67 [.ptr 2 0 0]), mem := some ([treeB t, cntB 0] ++ [treeB t]) })] ?_
  dsimp only [treeP, treeB, cntB, go_sem]
  try dsimp only [treeP, treeB, cntB, go_sem]
  refine ⟨(by simp [vb] <;> omega), ?_, ?_⟩
  · exact ⟨hn, trivial⟩
  refine awM_keep [1, 2] rfl ?_
  dsimp only [renF, renM, renB, renV, idxOf, go_sem]
  refine awM_block (awM_range (σ := Int) (q := 1) (bt := 1) (k0 := 0) (k' := stepsN t) (fo := fun k => [cntB k]) (stop := fun _ => false) (junk := [treeB t]) (kb := treeB t) (cells := [.int .i64 t.kind, rstepsP t.steps, .int .i64 t.cell, .int .i64 t.pos, kidsP t.kids]) (g0 := [(3, .ptr 0 0 0)]) (rv := .pv (.tup [])) rfl (by omega) rfl rfl rfl (by simp [treeB]) (by kernel_rfl) (fun _ => rfl) cnt_lit rfl rfl (by (repeat' (first | exact trivial | refine And.intro (by first | rfl | (simp [get, Nat.beq]; done) | (simp [get, Nat.beq]; omega) | (dsimp only [get]; congr 1 <;> first | rfl | omega | (simp; done) | (simp; omega))) ?_))) (by omega) (by omega) (by omega) ?_ (fun _ => ?_) (fun h => by cases h))
  · intro w0 w1 S γ l L hX hround
    have := nodes1_ok (X := ⟨_, hX.hE, _⟩) l stS (fun _ => True) (fun _ _ _ _ _ => trivial) (fun k lev u μ _ hμ hwu hl0 hl1 => hround (.int .i64 lev) (treeP u) k _ true μ rfl rfl ?_) t hw 0 trivial
    · rw [vis_stS t 0 1 (by omega) (by omega)] at this
      rw [Int.zero_add] at this
      exact this
    · refine awR_reg false [] ?_
      dsimp only [treeP, rstepsP, kidsP, cntB, thenR, go_sem]
      refine ⟨by simp [VCs], by simp [All], ?_⟩
      refine awR_block (awR_reg false [(4, { mode := 1 })] ?_)
      dsimp only [treeP, rstepsP, kidsP, cntB, thenR, go_sem]
      refine ⟨by simp [VCs], by simp [All], ?_⟩
      exact ⟨rfl, _, rfl⟩
  · refine awM_lift fun D => ?_
    repeat' (first
      | ((with_reducible first | show VCs _ | show All _); simp [vb] <;> omega)
      | exact (rfl : some _ = _)
      | (fail_if_success refine awL ?_
         refine evA ?_
         repeat1' dsimp only [c15, cntB, go_sem]
         first
         | refine aw4 ?_ ?_ rfl ?_
         | apply aw3
         | apply aw2
         | (refine awB (fun hc => ?_) fun hc => ?_ <;> first | (cases hc; done) | (exfalso; simp at hc <;> omega) | (try simp only [bn] at hc; try contradiction))
         | skip))
set_option maxHeartbeats 2000000 in
theorem depth_ok (t : Tree) (hw : wt t ≤ 1000000000) : PureOK ctx 17 [treeP t] (.int .i64 (depthN t)) := by
  refine pure_bodyM (C := ctx) (Fn.of fn17 rfl) rfl ?_
  unfold c17
  refine awM_seq (awM_lift fun D => ?_)
  refine evA ?_
  dsimp only [treeP, go_sem]
  try dsimp only [treeP, go_sem]
  refine ⟨(by simp [vb] <;> omega), (by simp [vb] <;> omega), ?_⟩
  refine awM_seq (awM_lift fun D => ?_)
  refine evA ?_
  dsimp only [treeP, go_sem]
  try dsimp only [treeP, go_sem]
  refine ⟨(by simp [vb] <;> omega), (by simp [vb] <;> omega), ?_⟩
  refine awM_seq (awM_seq (awM_lift fun D => ?_))
  have hn := (nodes_ok t [treeB t, cntB 0] rfl).atD D
  refine evH [(6, { val := some (.fn 67 [.ptr 2 0 0]), mem := some ([treeB t, cntB 0] ++ [treeB t]) })] ?_
  dsimp only [treeP, treeB, cntB, go_sem]
  try dsimp only [treeP, treeB, cntB, go_sem]
  refine ⟨(by simp [vb] <;> omega), ?_, ?_⟩
  · exact ⟨hn, trivial⟩
  refine awM_keep [1, 2] rfl ?_
  dsimp only [renF, renM, renB, renV, idxOf, go_sem]
  refine awM_block (awM_range (σ := Int) (q := 1) (bt := 1) (k0 := 0) (k' := depthN t) (fo := fun k => [cntB k]) (stop := fun _ => false) (junk := [treeB t]) (kb := treeB t) (cells := [.int .i64 t.kind, rstepsP t.steps, .int .i64 t.cell, .int .i64 t.pos, kidsP t.kids]) (g0 := [(3, .ptr 0 0 0)]) (rv := .pv (.tup [])) rfl (by omega) rfl rfl rfl (by simp [treeB]) (by kernel_rfl) (fun _ => rfl) cnt_lit rfl rfl (by (repeat' (first | exact trivial | refine And.intro (by first | rfl | (simp [get, Nat.beq]; done) | (simp [get, Nat.beq]; omega) | (dsimp only [get]; congr 1 <;> first | rfl | omega | (simp; done) | (simp; omega))) ?_))) (by omega) (by omega) (by omega) ?_ (fun _ => ?_) (fun h => by cases h))
  · intro w0 w1 S γ l L hX hround
    have := nodes1_ok (X := ⟨_, hX.hE, _⟩) l stD (fun _ => True) (fun _ _ _ _ _ => trivial) (fun k lev u μ _ hμ hwu hl0 hl1 => hround (.int .i64 lev) (treeP u) k _ true μ rfl rfl ?_) t hw 0 trivial
    · rw [vis_stD t 0 1 (by omega)] at this
      have e : (if (0 : Int) < 1 + depthN t - 1 then (1 : Int) + depthN t - 1 else 0) = depthN t := by split <;> omega
      rw [e] at this
      exact this
    · refine awR_reg false [] ?_
      dsimp only [treeP, rstepsP, kidsP, cntB, thenR, go_sem]
      refine ⟨by simp [VCs], by simp [All], ?_⟩
      refine awR_block (awR_reg false [] ?_)
      dsimp only [treeP, rstepsP, kidsP, cntB, thenR, go_sem]
      refine ⟨by simp [VCs], by simp [All], ?_⟩
      exact ⟨rfl, [], rfl⟩
  · refine awM_lift fun D => ?_
    repeat' (first
      | ((with_reducible first | show VCs _ | show All _); simp [vb] <;> omega)
      | exact (rfl : some _ = _)
      | (fail_if_success refine awL ?_
         refine evA ?_
         repeat1' dsimp only [c17, cntB, go_sem]
         first
         | refine aw4 ?_ ?_ rfl ?_
         | apply aw3
         | apply aw2
         | (refine awB (fun hc => ?_) fun hc => ?_ <;> first | (cases hc; done) | (exfalso; simp at hc <;> omega) | (try simp only [bn] at hc; try contradiction))
         | skip))
def valB (k : Int × Bool) : AM := [⟨[.pv (.bool false)], 0, 1, 4, false⟩, cntB k.1]
theorem val_lit (k : Int × Bool) : ∀ b ∈ valB k, LitB b := by
 intro b hb
 simp only [valB, List.mem_cons, List.not_mem_nil, or_false] at hb
 rcases hb with rfl | rfl
 ·exact ⟨by simp [litV], rfl, rfl, by simp⟩
 ·exact ⟨by simp [cntB, litV], rfl, rfl, by simp [cntB]⟩
set_option maxHeartbeats 4000000 in
theorem valid_ok (t : Tree) (hw : wt t ≤ 1000000000) : PureOK ctx 13 [treeP t] (.bool (validB t)) := by
  refine pure_bodyM (C := ctx) (Fn.of fn13 rfl) rfl ?_
  unfold c13
  refine awM_seq (awM_lift fun D => ?_)
  refine evA ?_
  dsimp only [treeP, go_sem]
  try dsimp only [treeP, go_sem]
  refine ⟨(by simp [vb] <;> omega), (by simp [vb] <;> omega), ?_⟩
  refine awM_seq (awM_lift fun D => ?_)
  refine evA ?_
  dsimp only [treeP, go_sem]
  try dsimp only [treeP, go_sem]
  refine ⟨(by simp [vb] <;> omega), (by simp [vb] <;> omega), ?_⟩
  refine awM_seq (awM_seq (awM_lift fun D => ?_))
  have hn := (nodes_ok t ([treeB t] ++ valB (0, false)) rfl).atD D
  refine evH [(7, { val := some (.fn 67 [.ptr 3 0 0]), mem := some (([treeB t] ++ valB (0, false)) ++ [treeB t]) })] ?_
  dsimp only [treeP, treeB, cntB, valB, go_sem]
  try dsimp only [treeP, treeB, cntB, valB, go_sem]
  refine ⟨(by simp [vb] <;> omega), ?_, ?_⟩
  · exact ⟨hn, trivial⟩
  refine awM_keep [1, 2, 3] rfl ?_
  dsimp only [renF, renM, renB, renV, idxOf, go_sem]
  have hve := valid_eq t hw
  refine awM_block (awM_range (σ := Int × Bool) (q := 2) (bt := 2) (k0 := (0, false)) (k' := (vis stV (0, false) 1 t).2) (fo := valB) (stop := fun k => k.2) (junk := [treeB t]) (kb := treeB t) (cells := [.int .i64 t.kind, rstepsP t.steps, .int .i64 t.cell, .int .i64 t.pos, kidsP t.kids]) (g0 := [(2, .ptr 0 0 0), (3, .ptr 1 0 0)]) (rv := .pv (.tup [])) rfl (by omega) rfl rfl rfl (by simp [treeB]) (by kernel_rfl) (fun _ => rfl) val_lit rfl rfl (by (repeat' (first | exact trivial | refine And.intro (by first | rfl | (simp [get, Nat.beq]; done) | (simp [get, Nat.beq]; omega) | (dsimp only [get]; congr 1 <;> first | rfl | omega | (simp; done) | (simp; omega))) ?_))) (by omega) (by omega) (by omega) ?_ (fun hst => ?_) (fun hst => ?_))
  · intro w0 w1 S γ l L hX hround
    refine nodes1_ok (X := ⟨_, hX.hE, _⟩) l stV (fun k => k.2 = false) (fun k lev u hk hst => ?_) (fun k lev u μ hk hμ hwu hl0 hl1 => hround (.int .i64 lev) (treeP u) k _ (stV k lev u).1 μ hk ?_ ?_) t hw (0, false) rfl
    · simp only [stV, Bool.not_eq_true'] at hst ⊢
      exact hst
    · simp only [stV, Bool.not_not]
    · refine awR_seq (awR_reg false [] ?_)
      dsimp only [treeP, rstepsP, kidsP, cntB, valB, thenR, go_sem]
      refine ⟨by simp [VCs], by simp [All], ?_⟩
      refine awR_reg false [] ?_
      dsimp only [treeP, rstepsP, kidsP, cntB, valB, thenR, go_sem]
      refine ⟨by simp [VCs], by simp [All], ?_⟩
      have hnode := node_ok u hwu
      refine awR_block (awR_seq (awR_reg false [(5, { mode := 1 })] ?_))
      dsimp only [treeP, rstepsP, kidsP, cntB, valB, thenR, go_sem]
      have hsl : u.steps.length ≤ 1000000000 := by
        obtain ⟨kd, s, c, a, ks⟩ := u
        rw [wt_node] at hwu
        simp only [Tree.steps]
        omega
      refine ⟨by simp [VCs, minI, maxI]; omega, by simp [All], ?_⟩
      have hst : stV k lev u = (!(bif decide (4096 < lev) then true else bif decide (65536 < IntKind.i64.wrap (k.1 + (1 + (u.steps.length : Int)))) then true else !nodeB u), IntKind.i64.wrap (k.1 + (1 + u.steps.length)), bif decide (4096 < lev) then true else bif decide (65536 < IntKind.i64.wrap (k.1 + (1 + (u.steps.length : Int)))) then true else !nodeB u) := rfl
      rw [hst]
      unfold treeP rstepsP kidsP at hnode
      refine awR_seq (awR_reg true [(8, { val := some (.pv (.bool (nodeB u))) })] ?_)
      dsimp only [treeP, rstepsP, kidsP, cntB, valB, thenR, go_sem]
      generalize decide (4096 < lev) = A
      generalize decide (65536 < IntKind.i64.wrap (k.1 + (1 + (u.steps.length : Int)))) = B
      generalize nodeB u = N at *
      refine ⟨by simp [VCs], by cases A <;> cases B <;> simp [All, VCs] <;> exact hnode, ?_⟩
      refine awR_cond rfl ?_
      cases A <;> cases B <;> cases N
      all_goals first
        | (refine awR_skip ?_
           exact ⟨rfl, _, rfl⟩)
        | (refine awR_seq (awR_reg false [] ?_)
           dsimp only [treeP, rstepsP, kidsP, cntB, valB, thenR, go_sem]
           refine ⟨by simp [VCs], by simp [All], ?_⟩
           refine awR_ret ?_
           exact ⟨rfl, _, rfl⟩)
  · rw [hve, Bool.not_eq_false'] at hst
    refine awM_lift fun D => ?_
    repeat' (first
      | ((with_reducible first | show VCs _ | show All _); simp [vb] <;> omega)
      | exact (rfl : some _ = _)
      | (fail_if_success refine awL ?_
         refine evA ?_
         repeat1' dsimp only [c13, cntB, valB, go_sem]
         first
         | refine aw4 ?_ ?_ rfl ?_
         | apply aw3
         | apply aw2
         | (refine awB (fun hc => ?_) fun hc => ?_ <;> first | (cases hc; done) | (exfalso; simp at hc <;> omega) | (try simp only [bn] at hc; try contradiction))
         | skip))
    rw [hst]
  · rw [hve, Bool.not_eq_true'] at hst
    rw [hst]
    dsimp only [blockR, thenR, valB, cntB, go_sem]
    exact ⟨by simp [VCs], rfl⟩
end Pur
end Go.Proofs.YtaleoeblooeglaaGreatDoor
namespace Go.Proofs.YtaleoeblooeglaaGreatDoor
namespace Pur
open Go.RowKit
attribute [local go_sem] evOps evOp evOpV evRun evK argF List.map hintAt stripped get put tmpsOf tmpOf tmpO tmpL tmpP conds ev cond_true cond_false Nat.beq Nat.ble Nat.add quiet After thenR blockR IfD List.append_eq List.nil_append List.cons_append evInt exactI_a exactI_b exactI_c exactI_d exactI_e exactI_f evBin evStr evBool evUn guardC calm quiet.isCallK evPick List.getElem?_cons_zero List.getElem?_cons_succ fromCells fromPVs cellsOf List.all oneCell List.length_cons List.length_nil mkAgg plains List.drop List.take List.getD Option.getD_some bo1 bo2 ba1 ba2 bn1 bn2 kk_i64 kk_u8 kk_i32 kk_u64 setAt List.set Nat.reduceAdd Nat.reduceMul evCall safeCall refsOf refsIn scalarA scalar scalarL thawL mapAll thawArg thawRef after freeze RetD RetE evResult evRess evRes1 thaw_pv mkTup nilOf_a nilOf_b nilOf_bb nilOf_c nilOf_d nilOf_e nilOf_f nilOf_g nilOf_h nilOf_i nilOf_j nilOf_k nilOf_l nilOf_m eqLeaf_a eqLeaf_b eqLeaf_c eqOffs evMM bytesOf evOpsF AfterF footOf footRefs notIn indepF footAt freeOk still evParts fillA zeros intOfA boundA srcOf List.isEmpty appNil_0 appNil_1 appNil_2 Int.reduceToNat Nat.mul_one Nat.reduceSub evC evOpsT evOpsTF autoH tabHint look hintD strip guarded RetPD RetRD mpLen keysOk leafKA leafK bitI nilOf_n nilOf_o Bool.or_false Bool.or_true Bool.and_true Bool.and_false Nat.blt renF renM renB renV idxOf solF solM solA solV thawRef ev1
section
open Rf
theorem stepsT_len' (s : List RStep) (h : s.all rstepOk = true) : ∀ k, k ≤ s.length → (stepsT (s.take k)).length ≤ 60 * k := by
 intro k
 induction k with
 | zero => intro _; simp [stepsT]
 | succ k ih =>
  intro hk
  rw [take_succ_getD s k zs (by omega), stepsT_snoc, List.length_append]
  have := rstT_len (List.all_eq_true.mp h _ (getD_mem (d := zs) (by omega : k < s.length)))
  have := ih (by omega)
  omega
set_option maxHeartbeats 4000000 in
theorem write_ok : ∀ t, WriteOK t := by
 refine Tree.ind fun kd s c a ks ih μ b g r o j h ho => ?_
 have hft := h.hf
 rw [formedB_node] at hft
 simp only [Bool.and_eq_true] at hft
 have hw := h.hw
 rw [wt_node] at hw ho
 have hb := h.hb
 have hr := h.hr
 have ht := wrM_t h
 have hL := wrM_len (μ := μ) (b := b) (g := g) (t := .node kd s c a ks)
 have hsl := stepsT_len' s hft.1.1
 refine ref_body' (C := ctx) (Fn.of fn50 rfl) rfl (by rw [bst_len, bst_len]; omega) rfl (by rw [bst_len]; exact bst_ok h.ok hb hr) ?_
 rw [bst_len, textN_node, writesN_node]
 unfold c50
 refine evA ?_
 simp only [treeP, Tree.kind, Tree.steps, Tree.cell, Tree.pos, Tree.kids, kidsP, rstepsP, mem2_get, mem2_last, mem2_set0, mem2_set1, mem_last, mem_set, mem_len, go_sem]
 try simp only [treeP, Tree.kind, Tree.steps, Tree.cell, Tree.pos, Tree.kids, kidsP, rstepsP, mem2_get, mem2_last, mem2_set0, mem2_set1, mem_last, mem_set, mem_len, go_sem]
 refine ⟨(by simp [vb] <;> omega), (by simp [vb] <;> omega), ?_⟩
 have e : bst μ b g r o j ++ [⟨[.ptr b g 0], 0, 1, 75, false⟩] ++ [⟨[.pv (.int .i64 kd), .pv (.sl s.length (s.flatMap rstepC)), .pv (.int .i64 c), .pv (.int .i64 a), .pv (.sl ks.length (ks.flatMap treeC))], 0, 5, 25, false⟩] = bst (wrM μ b g (.node kd s c a ks)) b g r o j := by
  rw [wrM_app h, List.append_assoc]
  rfl
 rw [e]
 simp only [List.length_append, List.length_cons, List.length_nil, bst_len]
 refine evA ?_
 simp only [ht, treeB, Tree.kind, Tree.steps, Tree.cell, Tree.pos, Tree.kids, kidsP, rstepsP, mem2_get, mem2_last, mem2_set0, mem2_set1, mem_last, mem_set, mem_len, go_sem]
 try simp only [ht, treeB, Tree.kind, Tree.steps, Tree.cell, Tree.pos, Tree.kids, kidsP, rstepsP, mem2_get, mem2_last, mem2_set0, mem2_set1, mem_last, mem_set, mem_len, go_sem]
 refine ⟨(by simp [vb] <;> omega), (by simp [vb] <;> omega), ?_⟩
 refine evA ?_
 simp only [ht, treeB, Tree.kind, Tree.steps, Tree.cell, Tree.pos, Tree.kids, kidsP, rstepsP, mem2_get, mem2_last, mem2_set0, mem2_set1, mem_last, mem_set, mem_len, go_sem]
 try simp only [ht, treeB, Tree.kind, Tree.steps, Tree.cell, Tree.pos, Tree.kids, kidsP, rstepsP, mem2_get, mem2_last, mem2_set0, mem2_set1, mem_last, mem_set, mem_len, go_sem]
 refine ⟨(by simp [vb] <;> omega), (by simp [vb] <;> omega), ?_⟩
 refine aw_block ?_
 refine aw_forJ s.length (fun _ => True) (wrF μ.length s) (fun k => bst (wrM μ b g (.node kd s c a ks)) b g r (o ++ stepsT (s.take k)) (j + 4 * k)) trivial (by unfold wrF; (repeat' (first | exact trivial | refine And.intro (by first | rfl | (simp [get, Nat.beq]; done) | (simp [get, Nat.beq]; omega) | (dsimp only [get]; congr 1 <;> first | rfl | omega | (simp; done) | (simp; omega))) ?_))) ⟨[], by simp [stepsT]⟩ (fun k => ⟨by rw [bst_len, hL]; omega, by simp only [wrF, okFrame, List.all_cons, List.all_nil, bnd, bst_len, hL, Bool.and_true, Bool.true_and, Bool.and_eq_true]; exact ⟨Nat.blt_eq.mpr (by omega), Nat.blt_eq.mpr (by omega), Nat.blt_eq.mpr (by omega)⟩, by rw [bst_len]; exact bst_ok (wrM_ok h) (by omega) (by omega)⟩) fun k hk _ => ?_
 have hsk := hsl k hk
 by_cases hlt : k < s.length
 ·have hs := write_step h (m := μ.length) (R := blockR 0 (thenR (fun f μ' => Aw ctx (fun _ => false) 67 μ.length c50t (RetRD [] (.pv (.tup [])) (bst μ b g r (o ++ ((s.map rstT).flatten ++ tailT kd c a ks.length ++ (ks.map textN).flatten)) (j + (4 * s.length + tailW kd + (ks.map writesN).sum)))) f μ') (RetRD [] (.pv (.tup [])) (bst μ b g r (o ++ ((s.map rstT).flatten ++ tailT kd c a ks.length ++ (ks.map textN).flatten)) (j + (4 * s.length + tailW kd + (ks.map writesN).sum)))))) (o := o ++ stepsT (s.take k)) (j := j + 4 * k) hlt (by rw [List.length_append]; omega)
  refine aw_mono hs fun e' f' μ' hh => ?_
  cases e' with
  | normal =>
   obtain ⟨h1, junk, h2⟩ := hh
   refine ⟨hlt, trivial, h1, junk, ?_⟩
   rw [h2, take_succ_getD s k zs hlt, stepsT_snoc, List.append_assoc o, show j + 4 * k + 4 = j + 4 * (k + 1) by omega]
  | _ => exact hh
 ·obtain rfl : k = s.length := by omega
  rw [List.take_length] at hsk ⊢
  have htl := fun f hf => write_tail h (m := μ.length) (Nat.le_refl _) ih (o := o ++ stepsT s) (j := j + 4 * s.length) (by rw [List.length_append]; omega) (f := f) hf
  unfold wrF
  iterate 5 first
   | refine ⟨fun h => by simp at h <;> omega, fun _ => ?_⟩
   | refine ⟨by simp [vb] <;> omega, by simp [vb] <;> omega, ?_⟩
   | (refine evA ?_; iterate 2 (try simp only [ht, mem2_get, mem2_last, mem2_set0, mem2_set1, mem_last, mem_set, mem_len, go_sem]))
  have := htl [(14, .pv (.bool (decide ((s.length : Int) < s.length)))), (2, .ptr μ.length 0 0), (3, .ptr (μ.length + 1) 0 0), (4, .fn 82 [.ptr μ.length 0 0]), (11, .pv (.sl s.length (s.flatMap rstepC))), (12, .pv (.int .i64 s.length)), (13, .pv (.int .i64 s.length))] (by (repeat' (first | exact trivial | refine And.intro (by first | rfl | (simp [get, Nat.beq]; done) | (simp [get, Nat.beq]; omega) | (dsimp only [get]; congr 1 <;> first | rfl | omega | (simp; done) | (simp; omega))) ?_)))
  rw [show o ++ stepsT s ++ tailT kd c a ks.length ++ kidsT ks = o ++ ((s.map rstT).flatten ++ tailT kd c a ks.length ++ (ks.map textN).flatten) by simp [stepsT, kidsT], show j + 4 * s.length + tailW kd + kidsW ks = j + (4 * s.length + tailW kd + (ks.map writesN).sum) by simp [kidsW]; omega] at this
  exact this
theorem ren_row (keep : List Nat) (d : Nat) (l : List UInt8) : (byteA l).map (renV keep d) = byteA l := by
 unfold byteA
 rw [List.map_map]
 refine List.map_congr_left fun x _ => ?_
 cases d <;> rfl
def bldF : Blk := bldB (.pv (.val (.pointer none))) (.pv .nilsl) 0
def wf0 (s : List RStep) : Nat → AF
 | 0 => wrF 2 s 0
 | k + 1 => wrF 3 s (k + 1)
def wm0 (t : Tree) (s : List RStep) : Nat → AM
 | 0 => [treeB t, bldF, bcell 1 0, treeB t]
 | k + 1 => bst (wrM [treeB t, bldF, rowB [] 0] 1 0 t) 1 0 2 (stepsT (s.take (k + 1))) (4 * (k + 1) - 1)
set_option maxHeartbeats 4000000 in
theorem write_new (t : Tree) (hf : formedB t = true) (hw : wt t ≤ 1000000) : RefOK ctx 50 [.ptr 1 0 0, .pv (treeP t)] [treeB t, bldF] (.pv (.tup [])) (bst [treeB t, bldF, rowB [] 0] 1 0 2 (textN t) (writesN t - 1)) := by
 obtain ⟨kd, s, c, a, ks⟩ := t
 have h : WrSt [treeB (.node kd s c a ks), bldF, rowB [] 0] 1 0 2 (.node kd s c a ks) := ⟨rfl, by simp, by simp, by simp, hf, hw⟩
 have hft := hf
 rw [formedB_node] at hft
 simp only [Bool.and_eq_true] at hft
 rw [wt_node] at hw
 have hsl := stepsT_len' s hft.1.1
 have ih : ∀ x ∈ ks, WriteOK x := fun x _ => write_ok x
 refine ref_body' (C := ctx) (Fn.of fn50 rfl) rfl (by simp [bst_len]) rfl (by rw [bst_len]; exact bst_ok (by rfl) (by simp) (by simp)) ?_
 rw [textN_node, writesN_node]
 unfold c50
 refine evA ?_
 dsimp only [treeP, treeB, bldF, bldB, Tree.kind, Tree.steps, Tree.cell, Tree.pos, Tree.kids, kidsP, rstepsP, go_sem]
 try dsimp only [treeP, treeB, bldF, bldB, Tree.kind, Tree.steps, Tree.cell, Tree.pos, Tree.kids, kidsP, rstepsP, go_sem]
 refine ⟨(by simp [vb] <;> omega), (by simp [vb] <;> omega), ?_⟩
 refine evA ?_
 dsimp only [treeP, treeB, Tree.kind, Tree.steps, Tree.cell, Tree.pos, Tree.kids, kidsP, rstepsP, go_sem]
 try dsimp only [treeP, treeB, Tree.kind, Tree.steps, Tree.cell, Tree.pos, Tree.kids, kidsP, rstepsP, go_sem]
 refine ⟨(by simp [vb] <;> omega), (by simp [vb] <;> omega), ?_⟩
 refine evA ?_
 dsimp only [treeP, treeB, Tree.kind, Tree.steps, Tree.cell, Tree.pos, Tree.kids, kidsP, rstepsP, go_sem]
 try dsimp only [treeP, treeB, Tree.kind, Tree.steps, Tree.cell, Tree.pos, Tree.kids, kidsP, rstepsP, go_sem]
 refine ⟨(by simp [vb] <;> omega), (by simp [vb] <;> omega), ?_⟩
 refine aw_block ?_
 refine aw_loopJ (fun k => k ≤ s.length) (wf0 s) (wm0 (.node kd s c a ks) s) (fun k => s.length - k) 0 (Nat.zero_le _) (by unfold wf0 wrF; (repeat' (first | exact trivial | refine And.intro (by first | rfl | (simp [get, Nat.beq]; done) | (simp [get, Nat.beq]; omega) | (dsimp only [get]; congr 1 <;> first | rfl | omega | (simp; done) | (simp; omega))) ?_))) ⟨[], rfl⟩ (fun k hk => ?_) fun k hk => ?_
 ·cases k with
  | zero => exact ⟨by simp [wm0], rfl, rfl⟩
  | succ k => exact ⟨by simp [wm0, bst_len, wrM], by simp only [wm0, bst_len, wrM]; rfl, by simp only [wm0]; rw [bst_len]; exact bst_ok (wrM_ok h) (by simp [wrM]) (by simp [wrM])⟩
 have hsk := hsl k hk
 by_cases hlt : k < s.length
 ·cases k with
  | succ k =>
   have hs := write_step h (m := 2) (R := blockR 0 (thenR (fun f μ' => Aw ctx (fun _ => false) 67 2 c50t (RetRD [] (.pv (.tup [])) (bst [treeB (.node kd s c a ks), bldF, rowB [] 0] 1 0 2 ((s.map rstT).flatten ++ tailT kd c a ks.length ++ (ks.map textN).flatten) (4 * s.length + tailW kd + (ks.map writesN).sum - 1))) f μ') (RetRD [] (.pv (.tup [])) (bst [treeB (.node kd s c a ks), bldF, rowB [] 0] 1 0 2 ((s.map rstT).flatten ++ tailT kd c a ks.length ++ (ks.map textN).flatten) (4 * s.length + tailW kd + (ks.map writesN).sum - 1))))) (o := stepsT (s.take (k + 1))) (j := 4 * (k + 1) - 1) hlt (by omega)
   refine aw_mono hs fun e' f' μ' hh => ?_
   cases e' with
   | normal =>
    obtain ⟨h1, junk, h2⟩ := hh
    refine ⟨k + 1 + 1, by omega, by omega, h1, junk, ?_⟩
    rw [h2, wm0, take_succ_getD s (k + 1) zs hlt, stepsT_snoc, show 4 * (k + 1) - 1 + 4 = 4 * (k + 1 + 1) - 1 by omega]
   | _ => exact hh
  | zero =>
   have hxo : rstepOk (s.getD 0 zs) = true := List.all_eq_true.mp hft.1.1 _ (getD_mem hlt)
   have e := fm_take rstepC_len s 0 zs hlt
   rw [Nat.zero_mul, List.drop_zero] at e
   have hle := rsteps_len s
   have e1 := take_succ_getD s 0 zs hlt
   generalize s.getD 0 zs = x at *
   obtain ⟨b1, b2⟩ := rstep_bounds hxo
   have hkind : x.kind = 0 ∨ x.kind = 1 := by
    simp [rstepOk, insideB] at hxo
    omega
   obtain ⟨xk, xi, xc⟩ := x
   simp only at b1 b2 hkind
   have hb2 : ∀ n ∈ [xi, xc], -10000000000 ≤ n ∧ n ≤ 10000000000 := by
    intro n hn
    simp only [List.mem_cons, List.not_mem_nil, or_false] at hn
    rcases hn with rfl | rfl <;> omega
   have hl1 := fun w hw0 hw1 => lineF (μ := [treeB (.node kd s c a ks), bldF, bcell 1 0, treeB (.node kd s c a ks), stB ⟨xk, xi, xc⟩]) rfl (b := 1) (g := 0) (c := 2) rfl (by simp) rfl w [xi, xc] (by simp) hb2 hw0 hw1
   have hr := rstT_line ⟨xk, xi, xc⟩
   have e3 : stepsT (s.take 1) = rstT ⟨xk, xi, xc⟩ := by rw [e1]; simp [stepsT]
   have a1 : wf0 s 0 = [(2, .ptr 2 0 0), (3, .ptr 3 0 0), (4, .fn 82 [.ptr 2 0 0]), (11, .pv (.sl s.length (s.flatMap rstepC))), (12, .pv (.int .i64 s.length)), (13, .pv (.int .i64 0))] := rfl
   have a2 : wm0 (.node kd s c a ks) s 0 = [treeB (.node kd s c a ks), bldF, bcell 1 0, treeB (.node kd s c a ks)] := rfl
   rw [a1, a2]
   rcases hkind with rfl | rfl
   ·have h6 := hl1 [114, 111, 119] (by simp) (by simp)
    replace hr : rstT ⟨0, xi, xc⟩ = lineT [114, 111, 119] [xi, xc] := hr
    refine evA ?_
    dsimp only [go_sem]
    try dsimp only [go_sem]
    refine ⟨(by simp [vb] <;> omega), (by simp [vb] <;> omega), ?_⟩
    refine evA ?_
    dsimp only [go_sem]
    refine ⟨fun _ => ?_, fun h => by simp at h; subst h; simp at hlt⟩
    iterate 5 first
     | refine ⟨by simp [vb, e, hle, hlt, rstepC] <;> omega, by simp [vb, e, hle, hlt, rstepC] <;> omega, ?_⟩
     | (refine evH [(16, { val := some (.pv (.agg (rstepC ⟨0, xi, xc⟩))) })] ?_; iterate 2 (try dsimp only [bcell, rstepC, treeB, bldF, bldB, Tree.kind, Tree.steps, Tree.cell, Tree.pos, Tree.kids, go_sem]))
    refine evH [(26, { val := some (.pv (.tup [])), mem := some [treeB (.node kd s c a ks), bldB (.ptr 1 0 0) (.ref 5 3 0 (lineT [114, 111, 119] [xi, xc]).length) 0, bcell 1 0, treeB (.node kd s c a ks), stB ⟨0, xi, xc⟩, rowB (lineT [114, 111, 119] [xi, xc]) 3] })] ?_
    dsimp only [bcell, rstepC, go_sem]
    refine ⟨fun _ => ?_, fun h => by simp at h <;> omega⟩
    refine evH [(26, { val := some (.pv (.tup [])), mem := some [treeB (.node kd s c a ks), bldB (.ptr 1 0 0) (.ref 5 3 0 (lineT [114, 111, 119] [xi, xc]).length) 0, bcell 1 0, treeB (.node kd s c a ks), stB ⟨0, xi, xc⟩, rowB (lineT [114, 111, 119] [xi, xc]) 3] })] ?_
    dsimp only [bcell, rstepC, go_sem]
    try dsimp only [bcell, rstepC, go_sem]
    refine ⟨(by simp [vb] <;> omega), ?_, ?_⟩
    ·exact ⟨h6, trivial⟩
    refine aw_keep [0, 1, 5, 2, 3] rfl ?_
    dsimp only [renF, renM, renB, renV, idxOf, treeB, bldB, rowB, bcell, stB, go_sem]
    simp only [ren_row]
    refine evA ?_
    dsimp only [bcell, rstepC, go_sem]
    try dsimp only [bcell, rstepC, go_sem]
    refine ⟨(by simp [vb] <;> omega), (by simp [vb] <;> omega), ?_⟩
    exact ⟨1, by omega, by omega, by unfold wf0 wrF; (repeat' (first | exact trivial | refine And.intro (by first | rfl | (simp [get, Nat.beq]; done) | (simp [get, Nat.beq]; omega) | (dsimp only [get]; congr 1 <;> first | rfl | omega | (simp; done) | (simp; omega))) ?_)), [], by rw [wm0, Nat.zero_add, e3, hr]; rfl⟩
   ·have h6 := hl1 [103, 114, 97, 112, 104] (by simp) (by simp)
    replace hr : rstT ⟨1, xi, xc⟩ = lineT [103, 114, 97, 112, 104] [xi, xc] := hr
    refine evA ?_
    dsimp only [go_sem]
    try dsimp only [go_sem]
    refine ⟨(by simp [vb] <;> omega), (by simp [vb] <;> omega), ?_⟩
    refine evA ?_
    dsimp only [go_sem]
    refine ⟨fun _ => ?_, fun h => by simp at h; subst h; simp at hlt⟩
    iterate 5 first
     | refine ⟨by simp [vb, e, hle, hlt, rstepC] <;> omega, by simp [vb, e, hle, hlt, rstepC] <;> omega, ?_⟩
     | (refine evH [(16, { val := some (.pv (.agg (rstepC ⟨1, xi, xc⟩))) })] ?_; iterate 2 (try dsimp only [bcell, rstepC, treeB, bldF, bldB, Tree.kind, Tree.steps, Tree.cell, Tree.pos, Tree.kids, go_sem]))
    refine evH [(33, { val := some (.pv (.tup [])), mem := some [treeB (.node kd s c a ks), bldB (.ptr 1 0 0) (.ref 5 3 0 (lineT [103, 114, 97, 112, 104] [xi, xc]).length) 0, bcell 1 0, treeB (.node kd s c a ks), stB ⟨1, xi, xc⟩, rowB (lineT [103, 114, 97, 112, 104] [xi, xc]) 3] })] ?_
    dsimp only [bcell, rstepC, go_sem]
    refine ⟨fun h => by simp at h <;> omega, fun _ => ?_⟩
    refine evH [(33, { val := some (.pv (.tup [])), mem := some [treeB (.node kd s c a ks), bldB (.ptr 1 0 0) (.ref 5 3 0 (lineT [103, 114, 97, 112, 104] [xi, xc]).length) 0, bcell 1 0, treeB (.node kd s c a ks), stB ⟨1, xi, xc⟩, rowB (lineT [103, 114, 97, 112, 104] [xi, xc]) 3] })] ?_
    dsimp only [bcell, rstepC, go_sem]
    try dsimp only [bcell, rstepC, go_sem]
    refine ⟨(by simp [vb] <;> omega), ?_, ?_⟩
    ·exact ⟨h6, trivial⟩
    refine aw_keep [0, 1, 5, 2, 3] rfl ?_
    dsimp only [renF, renM, renB, renV, idxOf, treeB, bldB, rowB, bcell, stB, go_sem]
    simp only [ren_row]
    refine evA ?_
    dsimp only [bcell, rstepC, go_sem]
    try dsimp only [bcell, rstepC, go_sem]
    refine ⟨(by simp [vb] <;> omega), (by simp [vb] <;> omega), ?_⟩
    exact ⟨1, by omega, by omega, by unfold wf0 wrF; (repeat' (first | exact trivial | refine And.intro (by first | rfl | (simp [get, Nat.beq]; done) | (simp [get, Nat.beq]; omega) | (dsimp only [get]; congr 1 <;> first | rfl | omega | (simp; done) | (simp; omega))) ?_)), [], by rw [wm0, Nat.zero_add, e3, hr]; rfl⟩
 ·obtain rfl : k = s.length := by omega
  have hst : stepsT s = (s.map rstT).flatten := rfl
  have hkt : kidsT ks = (ks.map textN).flatten := rfl
  have hkw : kidsW ks = (ks.map writesN).sum := rfl
  rw [List.take_length] at hsk
  have htw : 2 ≤ tailW kd := by unfold tailW; split <;> (try split) <;> omega
  rw [← hst, ← hkt, ← hkw]
  cases s with
  | cons x s' =>
   have htl := fun f hf => write_tail h (m := 2) (by simp) ih (o := stepsT (x :: s')) (j := 4 * (x :: s').length - 1) (by omega) (f := f) hf
   have e4 : 4 * (x :: s').length - 1 + tailW kd + kidsW ks = 4 * (x :: s').length + tailW kd + kidsW ks - 1 := by simp only [List.length_cons]; omega
   rw [e4] at htl
   have e5 : wm0 (.node kd (x :: s') c a ks) (x :: s') (x :: s').length = bst (wrM [treeB (.node kd (x :: s') c a ks), bldF, rowB [] 0] 1 0 (.node kd (x :: s') c a ks)) 1 0 2 (stepsT (x :: s')) (4 * (x :: s').length - 1) := by
    simp only [List.length_cons, wm0]
    rw [show (x :: s').take (s'.length + 1) = x :: s' from List.take_length (l := x :: s')]
   rw [e5]
   have e6 : wf0 (x :: s') (x :: s').length = wrF 3 (x :: s') (x :: s').length := rfl
   rw [e6]
   unfold wrF
   generalize hM : bst (wrM [treeB (.node kd (x :: s') c a ks), bldF, rowB [] 0] 1 0 (.node kd (x :: s') c a ks)) 1 0 2 (stepsT (x :: s')) (4 * (x :: s').length - 1) = MM at *
   iterate 5 first
    | refine ⟨fun h => by simp at h <;> omega, fun _ => ?_⟩
    | refine ⟨by simp [vb] <;> omega, by simp [vb] <;> omega, ?_⟩
    | (refine evA ?_; iterate 2 (try dsimp only [go_sem]))
   exact htl _ (by (repeat' (first | exact trivial | refine And.intro (by first | rfl | (simp [get, Nat.beq]; done) | (simp [get, Nat.beq]; omega) | (dsimp only [get]; congr 1 <;> first | rfl | omega | (simp; done) | (simp; omega))) ?_)))
  | nil =>
   have a1 : wf0 [] 0 = [(2, .ptr 2 0 0), (3, .ptr 3 0 0), (4, .fn 82 [.ptr 2 0 0]), (11, .pv (.sl 0 [])), (12, .pv (.int .i64 0)), (13, .pv (.int .i64 0))] := rfl
   have a2 : wm0 (.node kd [] c a ks) [] 0 = [treeB (.node kd [] c a ks), bldF, bcell 1 0, treeB (.node kd [] c a ks)] := rfl
   rw [List.length_nil, a1, a2]
   have hb := tail_bounds hft.1.2
   obtain ⟨b1, b2⟩ := hb
   have hwl := wts_len ks
   have htl := tailT_len hft.1.2 (by omega)
   have hkk := fun f hf => write_kids h (m := 2) (by simp) ih (o := tailT kd c a ks.length) (j := tailW kd - 1) (by omega) (f := f) hf
   have hln := fun w ns hn hns hw0 hw => lineF (μ := [treeB (.node kd [] c a ks), bldF, bcell 1 0, treeB (.node kd [] c a ks)]) rfl (b := 1) (g := 0) (c := 2) rfl (by simp) rfl w ns hn hns hw0 hw
   have e4 : tailW kd - 1 + kidsW ks = 4 * 0 + tailW kd + kidsW ks - 1 := by omega
   rw [e4] at hkk
   rw [show stepsT [] = [] from rfl, List.nil_append]
   rw [tailT_line] at hkk ⊢
   rcases tail_kinds hft.1.2 with ⟨rfl, h0⟩ | rfl | ⟨rfl, h2⟩
   ·have h1 := (hln [99, 108, 111, 115, 101, 100] [] (by simp) (by simp) (by simp) (by simp)).weak (al' := [.pv (.str [99, 108, 111, 115, 101, 100]), .pv .nilsl, .ptr 2 0 0]) ⟨rfl, fun i x y hx hy => by
     match i, hx, hy with
     | 0, hx, hy => injection hx with hx; injection hy with hy; subst hx hy; exact .refl _
     | 1, hx, hy => injection hx with hx; injection hy with hy; subst hx hy; exact CW.nil
     | 2, hx, hy => injection hx with hx; injection hy with hy; subst hx hy; exact .refl _
     | _ + 3, hx, _ => simp at hx⟩
    iterate 9 first
     | refine ⟨fun h => by simp at h <;> omega, fun _ => ?_⟩
     | refine ⟨by simp [vb] <;> omega, by simp [vb] <;> omega, ?_⟩
     | (refine evA ?_; iterate 2 (try dsimp only [treeB, bldF, bldB, bcell, Tree.kind, Tree.steps, Tree.cell, Tree.pos, Tree.kids, go_sem]))
    refine evH [(46, { val := some (.pv (.tup [])), mem := some [treeB (.node 0 [] c a ks), bldB (.ptr 1 0 0) (.ref 4 1 0 (lineT [99, 108, 111, 115, 101, 100] []).length) 0, bcell 1 0, treeB (.node 0 [] c a ks), rowB (lineT [99, 108, 111, 115, 101, 100] []) 1] })] ?_
    dsimp only [treeB, bldF, bldB, bcell, Tree.kind, Tree.steps, Tree.cell, Tree.pos, Tree.kids, go_sem]
    refine ⟨fun _ => ?_, fun h => by simp at h <;> omega⟩
    refine evH [(46, { val := some (.pv (.tup [])), mem := some [treeB (.node 0 [] c a ks), bldB (.ptr 1 0 0) (.ref 4 1 0 (lineT [99, 108, 111, 115, 101, 100] []).length) 0, bcell 1 0, treeB (.node 0 [] c a ks), rowB (lineT [99, 108, 111, 115, 101, 100] []) 1] })] ?_
    dsimp only [treeB, bldF, bldB, bcell, Tree.kind, Tree.steps, Tree.cell, Tree.pos, Tree.kids, go_sem]
    try dsimp only [treeB, bldF, bldB, bcell, Tree.kind, Tree.steps, Tree.cell, Tree.pos, Tree.kids, go_sem]
    refine ⟨(by simp [vb] <;> omega), ?_, ?_⟩
    ·exact ⟨h1, trivial⟩
    refine aw_keep [0, 1, 4, 2, 3] rfl ?_
    dsimp only [renF, renM, renB, renV, idxOf, treeB, bldB, rowB, bcell, stB, go_sem]
    simp only [ren_row]
    exact hkk _ (by (repeat' (first | exact trivial | refine And.intro (by first | rfl | (simp [get, Nat.beq]; done) | (simp [get, Nat.beq]; omega) | (dsimp only [get]; congr 1 <;> first | rfl | omega | (simp; done) | (simp; omega))) ?_)))
   ·have h1 := hln [115, 112, 108, 105, 116] [c, a] (by simp) (by intro n hn; simp only [List.mem_cons, List.not_mem_nil, or_false] at hn; rcases hn with rfl | rfl <;> omega) (by simp) (by simp)
    iterate 9 first
     | refine ⟨fun h => by simp at h <;> omega, fun _ => ?_⟩
     | refine ⟨by simp [vb] <;> omega, by simp [vb] <;> omega, ?_⟩
     | (refine evA ?_; iterate 2 (try dsimp only [treeB, bldF, bldB, bcell, Tree.kind, Tree.steps, Tree.cell, Tree.pos, Tree.kids, go_sem]))
    refine evA ?_
    dsimp only [treeB, Tree.kind, Tree.steps, Tree.cell, Tree.pos, Tree.kids, go_sem]
    refine ⟨fun h => by simp at h <;> omega, fun _ => ?_⟩
    refine evA ?_
    dsimp only [treeB, Tree.kind, Tree.steps, Tree.cell, Tree.pos, Tree.kids, go_sem]
    try dsimp only [treeB, Tree.kind, Tree.steps, Tree.cell, Tree.pos, Tree.kids, go_sem]
    refine ⟨(by simp [vb] <;> omega), (by simp [vb] <;> omega), ?_⟩
    refine evH [(55, { val := some (.pv (.tup [])), mem := some [treeB (.node 1 [] c a ks), bldB (.ptr 1 0 0) (.ref 4 3 0 (lineT [115, 112, 108, 105, 116] [c, a]).length) 0, bcell 1 0, treeB (.node 1 [] c a ks), rowB (lineT [115, 112, 108, 105, 116] [c, a]) 3] })] ?_
    dsimp only [treeB, bldF, bldB, bcell, Tree.kind, Tree.steps, Tree.cell, Tree.pos, Tree.kids, go_sem]
    refine ⟨fun _ => ?_, fun h => by simp at h <;> omega⟩
    refine evH [(55, { val := some (.pv (.tup [])), mem := some [treeB (.node 1 [] c a ks), bldB (.ptr 1 0 0) (.ref 4 3 0 (lineT [115, 112, 108, 105, 116] [c, a]).length) 0, bcell 1 0, treeB (.node 1 [] c a ks), rowB (lineT [115, 112, 108, 105, 116] [c, a]) 3] })] ?_
    dsimp only [treeB, bldF, bldB, bcell, Tree.kind, Tree.steps, Tree.cell, Tree.pos, Tree.kids, go_sem]
    try dsimp only [treeB, bldF, bldB, bcell, Tree.kind, Tree.steps, Tree.cell, Tree.pos, Tree.kids, go_sem]
    refine ⟨(by simp [vb] <;> omega), ?_, ?_⟩
    ·exact ⟨h1, trivial⟩
    refine aw_keep [0, 1, 4, 2, 3] rfl ?_
    dsimp only [renF, renM, renB, renV, idxOf, treeB, bldB, rowB, bcell, stB, go_sem]
    simp only [ren_row]
    exact hkk _ (by (repeat' (first | exact trivial | refine And.intro (by first | rfl | (simp [get, Nat.beq]; done) | (simp [get, Nat.beq]; omega) | (dsimp only [get]; congr 1 <;> first | rfl | omega | (simp; done) | (simp; omega))) ?_)))
   ·have h1 := hln [99, 97, 115, 101, 115] [(ks.length : Int)] (by simp) (by intro n hn; simp only [List.mem_cons, List.not_mem_nil, or_false] at hn; subst hn; omega) (by simp) (by simp)
    iterate 9 first
     | refine ⟨fun h => by simp at h <;> omega, fun _ => ?_⟩
     | refine ⟨by simp [vb] <;> omega, by simp [vb] <;> omega, ?_⟩
     | (refine evA ?_; iterate 2 (try dsimp only [treeB, bldF, bldB, bcell, Tree.kind, Tree.steps, Tree.cell, Tree.pos, Tree.kids, kidsP, go_sem]))
    refine evA ?_
    dsimp only [treeB, Tree.kind, Tree.steps, Tree.cell, Tree.pos, Tree.kids, kidsP, go_sem]
    refine ⟨fun h => by simp at h <;> omega, fun _ => ?_⟩
    refine evA ?_
    dsimp only [treeB, Tree.kind, Tree.steps, Tree.cell, Tree.pos, Tree.kids, kidsP, go_sem]
    try dsimp only [treeB, Tree.kind, Tree.steps, Tree.cell, Tree.pos, Tree.kids, kidsP, go_sem]
    refine ⟨(by simp [vb] <;> omega), (by simp [vb] <;> omega), ?_⟩
    refine evH [(42, { val := some (.pv (.tup [])), mem := some [treeB (.node 2 [] c a ks), bldB (.ptr 1 0 0) (.ref 4 2 0 (lineT [99, 97, 115, 101, 115] [(ks.length : Int)]).length) 0, bcell 1 0, treeB (.node 2 [] c a ks), rowB (lineT [99, 97, 115, 101, 115] [(ks.length : Int)]) 2] })] ?_
    dsimp only [treeB, bldF, bldB, bcell, Tree.kind, Tree.steps, Tree.cell, Tree.pos, Tree.kids, kidsP, go_sem]
    refine ⟨fun h => by simp at h <;> omega, fun _ => ?_⟩
    refine evH [(42, { val := some (.pv (.tup [])), mem := some [treeB (.node 2 [] c a ks), bldB (.ptr 1 0 0) (.ref 4 2 0 (lineT [99, 97, 115, 101, 115] [(ks.length : Int)]).length) 0, bcell 1 0, treeB (.node 2 [] c a ks), rowB (lineT [99, 97, 115, 101, 115] [(ks.length : Int)]) 2] })] ?_
    dsimp only [treeB, bldF, bldB, bcell, Tree.kind, Tree.steps, Tree.cell, Tree.pos, Tree.kids, kidsP, go_sem]
    try dsimp only [treeB, bldF, bldB, bcell, Tree.kind, Tree.steps, Tree.cell, Tree.pos, Tree.kids, kidsP, go_sem]
    refine ⟨(by simp [vb] <;> omega), ?_, ?_⟩
    ·exact ⟨h1, trivial⟩
    refine aw_keep [0, 1, 4, 2, 3] rfl ?_
    dsimp only [renF, renM, renB, renV, idxOf, treeB, bldB, rowB, bcell, stB, go_sem]
    simp only [ren_row]
    exact hkk _ (by (repeat' (first | exact trivial | refine And.intro (by first | rfl | (simp [get, Nat.beq]; done) | (simp [get, Nat.beq]; omega) | (dsimp only [get]; congr 1 <;> first | rfl | omega | (simp; done) | (simp; omega))) ?_)))
theorem textN_ne (t : Tree) : textN t ≠ [] := by
 obtain ⟨k, s, c, a, l⟩ := t
 rw [textN_node]
 have : tailT k c a l.length ≠ [] := by
  unfold tailT
  split
  ·simp
  ·split <;> simp
 simp [this]
def c26 : ACode := (⟨_, by conv => (lhs; reduce; try simp only [lt1, Int.cast_ofNat_Int, Int.reduceNegSucc, UInt8.reduceOfNat])⟩ : {x // codeOf Tryz.prog 26 (fun _ => false) = some x}).1
theorem fn26 : fnOf Tryz.prog 26 (fun _ => false) = some (c26, [.t 2, .t 3], 13, true) := by kernel_rfl
set_option maxHeartbeats 4000000 in
theorem format_ok (t : Tree) (hw : wt t ≤ 1000000000) : PureOK ctx 26 [treeP t] (.tup [.str (formatN t).1, .int .i64 (formatN t).2]) := by
  have hv := valid_ok t hw
  unfold formatN
  refine pure_body' (C := ctx) (Fn.of fn26 rfl) rfl ?_
  unfold c26
  cases hb : validB t with
  | false =>
    rw [hb] at hv
    repeat' (first
      | ((with_reducible first | show VCs _ | show All _); simp [vb] <;> omega)
      | exact (rfl : some _ = _)
      | (fail_if_success refine awL ?_
         refine evT [(13, fun _ => some (.bool false))] ?_
         repeat1' dsimp only [c26, treeP, go_sem]
         first
         | refine aw4 ?_ ?_ rfl ?_
         | apply aw3
         | apply aw2
         | (refine awB (fun hc => ?_) fun hc => ?_ <;> first | (cases hc; done) | (exfalso; simp at hc <;> omega) | (try simp only [bn] at hc; try contradiction))
         | skip))
    exact ⟨hv, trivial⟩
  | true =>
    obtain ⟨hf, hw2⟩ := valid_formed hb
    have hwr := write_new t hf (by omega)
    have hne := textN_ne t
    rw [hb] at hv
    generalize textN t = T at *
    generalize hj : writesN t - 1 = j at *
    have hlen := blen_ok (μ := bst [treeB t, bldF, rowB [] 0] 1 0 2 T j) (by rw [bst_len]; exact bst_ok (by rfl) (by simp) (by simp)) (b := 1) (g := 0) (r := 2) (j := j) (n := T.length) (x := .ptr 1 0 0) rfl
    have hstr := bstring_ok (μ := bst [treeB t, bldF, rowB [] 0] 1 0 2 T j) (b := 1) (g := 0) (r := 2) (j := j) (x := .ptr 1 0 0) hne rfl rfl
    refine evT [(13, fun _ => some (.bool true))] ?_
    dsimp only [treeP, go_sem]
    try dsimp only [treeP, go_sem]
    refine ⟨(by simp [vb] <;> omega), (by simp [vb] <;> omega), ?_⟩
    refine evT [(13, fun _ => some (.bool true))] ?_
    dsimp only [treeP, go_sem]
    try dsimp only [treeP, go_sem]
    refine ⟨(by simp [vb] <;> omega), ?_, ?_⟩
    · exact ⟨hv, trivial⟩
    iterate 5 first
      | refine ⟨fun h => by simp at h <;> omega, fun _ => ?_⟩
      | refine ⟨by simp [vb] <;> omega, by simp [vb] <;> omega, ?_⟩
      | (refine evH [(9, { val := some (.pv (.tup [])), mem := some [treeB t, bldB (.ptr 1 0 0) (.ref 2 j 0 T.length) 0, rowB T j] })] ?_; iterate 2 (try dsimp only [treeB, go_sem]))
    refine evH [(9, { val := some (.pv (.tup [])), mem := some [treeB t, bldB (.ptr 1 0 0) (.ref 2 j 0 T.length) 0, rowB T j] })] ?_
    dsimp only [treeB, go_sem]
    try dsimp only [treeB, go_sem]
    refine ⟨(by simp [vb] <;> omega), ?_, ?_⟩
    · exact ⟨hwr, trivial⟩
    refine evH [(10, { val := some (.pv (.int .i64 T.length)), ro := true })] ?_
    dsimp only [treeB, go_sem]
    try dsimp only [treeB, go_sem]
    refine ⟨(by simp [vb] <;> omega), ?_, ?_⟩
    · exact ⟨hlen, trivial⟩
    refine evA ?_
    dsimp only [go_sem]
    refine ⟨fun hc => ?_, fun hc => ?_⟩
    · rw [if_pos rfl, if_pos (by simp at hc; omega)]
      refine evA ?_
      dsimp only [go_sem]
      try dsimp only [go_sem]
      refine ⟨(by simp [vb] <;> omega), (by simp [vb] <;> omega), ?_⟩
      refine evA ?_
      dsimp only [go_sem]
      exact ⟨trivial, rfl⟩
    · rw [if_pos rfl, if_neg (by simp at hc; omega)]
      refine evH [(12, { val := some (.pv (.str T)), mem := some ([treeB t, bldB (.ptr 1 0 0) (.ref 2 j 0 T.length) 0, rowB T j].set 2 { rowB T j with frozen := true }) })] ?_
      dsimp only [go_sem]
      refine evH [(12, { val := some (.pv (.str T)), mem := some ([treeB t, bldB (.ptr 1 0 0) (.ref 2 j 0 T.length) 0, rowB T j].set 2 { rowB T j with frozen := true }) })] ?_
      dsimp only [go_sem]
      try dsimp only [go_sem]
      refine ⟨(by simp [vb] <;> omega), ?_, ?_⟩
      · exact ⟨hstr, trivial⟩
      refine evA ?_
      dsimp only [go_sem]
      exact ⟨trivial, rfl⟩
end
end Pur
end Go.Proofs.YtaleoeblooeglaaGreatDoor
namespace Go.Proofs.YtaleoeblooeglaaGreatDoor
namespace Rf
def parseN (s : List UInt8) : Tree × Int :=
 if s.length > 65536 then (zt, 8) else match treeF ((spC 10 s).length + 1) 1 (spC 10 s) with
  | some (t, _) => if Pur.formatN t = (s, 0) then (t, 0) else (zt, 3)
  | none => (zt, 3)
theorem kidsG_wt {tf : List Ln → Option (Tree × List Ln)} (h : ∀ ls t r, tf ls = some (t, r) → wt t + r.length ≤ ls.length) : ∀ (n : Nat) (ls : List Ln) (ts : List Tree) (r : List Ln), kidsG tf n ls = some (ts, r) → wts ts + r.length ≤ ls.length
 | 0, ls, ts, r, e => by injection e with e; injection e with e1 e; subst e e1; simp [wts]
 | n + 1, ls, ts, r, e => by
  rw [kidsG] at e
  split at e
  ·rename_i t r1 h1
   split at e
   ·rename_i ts' r2 h2
    injection e with e
    injection e with e1 e
    subst e e1
    have := kidsG_wt h n r1 ts' r2 h2
    have := h _ _ _ h1
    rw [wts]
    omega
   ·cases e
  ·cases e
theorem nodeF_wt : ∀ (f : Nat) (lev : Int) (S : List RStep) (ls : List Ln) (t : Tree) (r : List Ln), nodeF f lev S ls = some (t, r) → wt t + r.length ≤ S.length + ls.length
 | 0, _, _, _, _, _, e => by cases e
 | f + 1, lev, S, ls, t, r, e => by
  have ih : ∀ (S : List RStep) (ls : List Ln) (t : Tree) (r : List Ln), nodeF f lev S ls = some (t, r) → wt t + r.length ≤ S.length + ls.length := fun S ls t r => nodeF_wt f lev S ls t r
  have ihk : ∀ (ls : List Ln) (t : Tree) (r : List Ln), (if lev + 1 ≤ 4096 then nodeF f (lev + 1) [] ls else none) = some (t, r) → wt t + r.length ≤ ls.length := fun ls t r h => by
   split at h
   ·simpa using nodeF_wt f (lev + 1) [] ls t r h
   ·cases h
  have one : ∀ (n : Nat) (x : Ln) (l : List Ln) (k c a : Int), (match kidsG (fun l => if lev + 1 ≤ 4096 then nodeF f (lev + 1) [] l else none) n l with | some (ks, r') => some (Tree.node k S c a ks, r') | none => none) = some (t, r) → wt t + r.length ≤ S.length + (x :: l).length := fun n x l k c a h => by
   split at h
   ·rename_i ks r' hk
    injection h with h
    injection h with h1 h
    subst h h1
    have := kidsG_wt ihk _ _ _ _ hk
    rw [wt_node, List.length_cons]
    omega
   ·cases h
  cases ls with
  | nil => cases e
  | cons x l =>
   rw [nodeF] at e
   split at e
   ·cases e
   ·rename_i w ns hl
    split at e
    ·have := ih _ _ _ _ e
     simp at this ⊢
     omega
    ·split at e
     ·have := ih _ _ _ _ e
      simp at this ⊢
      omega
     ·split at e
      ·injection e with e
       injection e with e1 e
       subst e e1
       rw [wt_node]
       simp [wts]
       omega
      ·split at e
       ·exact one _ _ _ _ _ _ e
       ·split at e
        ·exact one _ _ _ _ _ _ e
        ·cases e
end Rf
namespace Pur
open Go.RowKit
attribute [local go_sem] evOps evOp evOpV evRun evK argF List.map hintAt stripped get put tmpsOf tmpOf tmpO tmpL tmpP conds ev cond_true cond_false Nat.beq Nat.ble Nat.add quiet After thenR blockR IfD List.append_eq List.nil_append List.cons_append evInt exactI_a exactI_b exactI_c exactI_d exactI_e exactI_f evBin evStr evBool evUn guardC calm quiet.isCallK evPick List.getElem?_cons_zero List.getElem?_cons_succ fromCells fromPVs cellsOf List.all oneCell List.length_cons List.length_nil mkAgg plains List.drop List.take List.getD Option.getD_some bo1 bo2 ba1 ba2 bn1 bn2 kk_i64 kk_u8 kk_i32 kk_u64 setAt List.set Nat.reduceAdd Nat.reduceMul evCall safeCall refsOf refsIn scalarA scalar scalarL thawL mapAll thawArg thawRef after freeze RetD RetE evResult evRess evRes1 thaw_pv mkTup nilOf_a nilOf_b nilOf_bb nilOf_c nilOf_d nilOf_e nilOf_f nilOf_g nilOf_h nilOf_i nilOf_j nilOf_k nilOf_l nilOf_m eqLeaf_a eqLeaf_b eqLeaf_c eqOffs evMM bytesOf evOpsF AfterF footOf footRefs notIn indepF footAt freeOk still evParts fillA zeros intOfA boundA srcOf List.isEmpty appNil_0 appNil_1 appNil_2 Int.reduceToNat Nat.mul_one Nat.reduceSub evC evOpsT evOpsTF autoH tabHint look hintD strip guarded RetPD RetRD mpLen keysOk leafKA leafK bitI nilOf_n nilOf_o Bool.or_false Bool.or_true Bool.and_true Bool.and_false Nat.blt renF renM renB renV idxOf solF solM solA solV thawRef ev1
open Rf
noncomputable def L28 (path : List Nat) : Code := subC (bodyOf Tryz.prog 28) path
def c28a : ACode := (⟨_, by conv => (lhs; reduce; try simp only [lt1, Int.cast_ofNat_Int, Int.reduceNegSucc, UInt8.reduceOfNat])⟩ : {x // comp Tryz.prog no 35 (L28 [0]) = some x}).1
def c28b : ACode := (⟨_, by conv => (lhs; reduce; try simp only [lt1, Int.cast_ofNat_Int, Int.reduceNegSucc, UInt8.reduceOfNat])⟩ : {x // comp Tryz.prog no 35 (L28 [1, 0]) = some x}).1
def c28d : ACode := (⟨_, by conv => (lhs; reduce; try simp only [lt1, Int.cast_ofNat_Int, Int.reduceNegSucc, UInt8.reduceOfNat])⟩ : {x // comp Tryz.prog no 35 (L28 [1, 1, 1]) = some x}).1
theorem comp28a : comp Tryz.prog no 35 (L28 [0]) = some c28a := by kernel_rfl
theorem comp28b : comp Tryz.prog no 35 (L28 [1, 0]) = some c28b := by kernel_rfl
theorem comp28d : comp Tryz.prog no 35 (L28 [1, 1, 1]) = some c28d := by kernel_rfl
theorem PureOK.atD {C : Ctx} {g : FuncId} {ps : List PV} {r : PV} (h : PureOK C g ps r) (D : List Deferred) : PureOK { C with D := D } g ps r := h
theorem PanOK.atD {C : Ctx} {g : FuncId} {al : List AV} {μ : AM} {c : List PanicEntry} {Q : AM → Prop} (h : PanOK C g al μ c Q) (D : List Deferred) : PanOK { C with D := D } g al μ c Q :=
 ⟨h.1, fun w0 S γ w vs hW hp => (h.2 w0 S γ w vs ⟨hW.mem, hW.below, hW.live, hW.env⟩ hp).mono fun e w' ⟨S', γ', μ', h1, h2, h3, h4⟩ => ⟨S', γ', μ', h1, h2, ⟨h3.mem, h3.below, h3.live, h3.env⟩, h4⟩⟩
def slots : AF := [(2, .ptr 0 0 0), (3, .ptr 1 0 0)]
def mainR (s : List UInt8) : Exit → AF → AM → Prop := fun e f μ => match e with
 | .ret => Sub slots f ∧ (parseN s).2 = 0 ∧ ∃ junk, μ = [treeB (parseN s).1, errB 0] ++ junk
 | .panic c => c = wrongE ∧ parseN s = (zt, 3) ∧ Sub slots f ∧ ∃ a b c d e n junk, μ = [tcB a b c d e, errB n] ++ junk
 | _ => False
theorem main_aw (D : List Deferred) (s : List UInt8) (hs : s.length ≤ 65536) : Aw { ctx with D := D } no 35 2 c28d (mainR s) [(0, .pv (.str s)), (2, .ptr 0 0 0), (3, .ptr 1 0 0)] [zeroTB, errB 0] := by
 have hsp := PureOK.atD (split_ok 10 s (by omega)) D
 obtain ⟨hb1, hb2⟩ := spC_bound 10 s
 have hct := tree_ct ((spC 10 s).length + 1) 1 (spC 10 s) [] (by omega) (by omega) (by omega) (by omega) fun x hx => by have := hb2 x hx; omega
 have hwt := fun t r h => nodeF_wt ((spC 10 s).length + 1) 1 [] (spC 10 s) t r h
 have hP : parseN s = match treeF ((spC 10 s).length + 1) 1 (spC 10 s) with
  | some (t, _) => if formatN t = (s, 0) then (t, 0) else (zt, 3)
  | none => (zt, 3) := by unfold parseN; rw [if_neg (by omega)]
 unfold c28d
 refine evT [(55, fun _ => some (wordsL (spC 10 s)))] ?_
 dsimp only [zeroTB, errB, wordsL, go_sem]
 try dsimp only [zeroTB, errB, wordsL, go_sem]
 refine ⟨(by simp [vb] <;> omega), ?_, ?_⟩
 ·exact ⟨hsp, trivial⟩
 generalize hls : spC 10 s = ls at *
 cases ht : treeF (ls.length + 1) 1 ls with
 | none =>
  rw [ht] at hct hP
  simp only at hP
  have hp := (PanOK.frame hct [2] [zeroTB, errB 0, readerB ls] (by simp) (by simp) ⟨rfl, trivial⟩ rfl (by simp [bnd, Nat.blt]) (by rintro _ ⟨r, rfl⟩; simp)).atD D
  refine aw_seq ?_
  refine aw_pan 3 true [] ?_
  simp only [PanAt, List.take_succ_cons, List.take_zero, List.getElem?_cons_succ, List.getElem?_cons_zero, go_sem, panT]
  refine ⟨by simp [VCs], by simp [VCs, All], wrongE, _, hp, ?_⟩
  rintro μ1 ⟨_, ⟨r, rfl⟩, rfl⟩
  exact ⟨rfl, hP, by (repeat' (first | exact trivial | refine And.intro (by first | rfl | (simp [get, Nat.beq, slots]; done) | (simp [get, Nat.beq, slots]; omega) | (dsimp only [get]; congr 1 <;> first | rfl | omega | (simp; done) | (simp; omega))) ?_)), _, _, _, _, _, _, [readerB r], rfl⟩
 | some p =>
  obtain ⟨t, r⟩ := p
  rw [ht] at hct hP
  simp only at hP
  have hw : wt t ≤ 1000000000 := by
   have : nodeF (ls.length + 1) 1 [] ls = some (t, r) := by
    rw [treeF, if_pos (by omega)] at ht
    exact ht
   have := hwt t r this
   simp at this
   omega
  have hp := (RefOK.frame hct [2] [zeroTB, errB 0, readerB ls] (by simp) (by simp) ⟨rfl, trivial⟩ rfl (by simp [bnd, Nat.blt]) (by simp)).atD D
  have hfo := (format_ok t hw).atD D
  generalize hF : formatN t = F at *
  obtain ⟨F, n⟩ := F
  simp only at hfo
  refine evH [(19, { val := some (.pv (treeP t)), mem := some [zeroTB, errB 0, readerB r] })] ?_
  dsimp only [zeroTB, errB, treeP, go_sem]
  try dsimp only [zeroTB, errB, treeP, go_sem]
  refine ⟨(by simp [vb] <;> omega), ?_, ?_⟩
  ·exact ⟨hp, trivial⟩
  refine evT [(26, fun _ => some (.tup [.str F, .int .i64 n]))] ?_
  dsimp only [zeroTB, errB, treeP, go_sem]
  try dsimp only [zeroTB, errB, treeP, go_sem]
  refine ⟨(by simp [vb] <;> omega), ?_, ?_⟩
  ·exact ⟨hfo, trivial⟩
  refine evA ?_
  dsimp only [go_sem]
  try dsimp only [go_sem]
  refine ⟨(by simp [vb] <;> omega), (by simp [vb] <;> omega), ?_⟩
  refine evA ?_
  dsimp only [go_sem]
  refine ⟨fun hc => ?_, fun hc => ?_⟩
  ·have hne : ¬ ((F, n) = (s, (0 : Int))) := by
    rintro h
    injection h with h1 h2
    subst h1 h2
    simp at hc
   rw [if_neg hne] at hP
   refine aw_pan 2 true [] ?_
   simp only [PanAt, List.take_succ_cons, List.take_zero, List.getElem?_cons_succ, List.getElem?_cons_zero, go_sem, panT]
   exact ⟨trivial, trivial, rfl, hP, by (repeat' (first | exact trivial | refine And.intro (by first | rfl | (simp [get, Nat.beq, slots]; done) | (simp [get, Nat.beq, slots]; omega) | (dsimp only [get]; congr 1 <;> first | rfl | omega | (simp; done) | (simp; omega))) ?_)), _, _, _, _, _, _, [readerB r], rfl⟩
  ·have hq : (F, n) = (s, (0 : Int)) := by
    by_cases hn : n = 0
    ·subst hn
     simp at hc
     rw [hc]
    ·simp [hn] at hc
   rw [if_pos hq] at hP
   refine evA ?_
   dsimp only [go_sem]
   refine evA ?_
   dsimp only [go_sem]
   try dsimp only [go_sem]
   refine ⟨(by simp [vb] <;> omega), (by simp [vb] <;> omega), ?_⟩
   refine evA ?_
   dsimp only [go_sem]
   refine ⟨by (repeat' (first | exact trivial | refine And.intro (by first | rfl | (simp [get, Nat.beq, slots]; done) | (simp [get, Nat.beq, slots]; omega) | (dsimp only [get]; congr 1 <;> first | rfl | omega | (simp; done) | (simp; omega))) ?_)), by rw [hP], [readerB r], ?_⟩
   rw [hP]
   rfl
theorem head_aw (s : List UInt8) : Aw ctx no 35 0 c28a (fun e f μ => e = .normal ∧ Sub ((0, .pv (.str s)) :: slots) f ∧ μ = [zeroTB, errB 0]) [(0, .pv (.str s))] [] := by
 unfold c28a
 refine evA ?_
 dsimp only [go_sem]
 try dsimp only [go_sem]
 refine ⟨(by simp [vb] <;> omega), (by simp [vb] <;> omega), ?_⟩
 exact ⟨rfl, by (repeat' (first | exact trivial | refine And.intro (by first | rfl | (simp [get, Nat.beq, slots]; done) | (simp [get, Nat.beq, slots]; omega) | (dsimp only [get]; congr 1 <;> first | rfl | omega | (simp; done) | (simp; omega))) ?_)), rfl⟩
theorem len_aw (s : List UInt8) (hs : s.length ≤ 4000000000) : Aw ctx no 35 2 c28b (fun e f μ => (e = .normal ∧ s.length ≤ 65536 ∧ Sub ((0, .pv (.str s)) :: slots) f ∧ μ = [zeroTB, errB 0]) ∨ (e = .ret ∧ 65536 < s.length ∧ Sub slots f ∧ μ = [zeroTB, errB 8])) ((0, .pv (.str s)) :: slots) [zeroTB, errB 0] := by
 unfold c28b slots
 refine evA ?_
 dsimp only [zeroTB, errB, go_sem]
 try dsimp only [zeroTB, errB, go_sem]
 refine ⟨(by simp [vb] <;> omega), (by simp [vb] <;> omega), ?_⟩
 refine evA ?_
 dsimp only [zeroTB, errB, go_sem]
 refine ⟨fun hc => ?_, fun hc => ?_⟩
 ·simp at hc
  refine evA ?_
  dsimp only [zeroTB, errB, go_sem]
  try dsimp only [zeroTB, errB, go_sem]
  refine ⟨(by simp [vb] <;> omega), (by simp [vb] <;> omega), ?_⟩
  refine evA ?_
  dsimp only [zeroTB, errB, go_sem]
  exact .inr ⟨rfl, by omega, by (repeat' (first | exact trivial | refine And.intro (by first | rfl | (simp [get, Nat.beq, slots]; done) | (simp [get, Nat.beq, slots]; omega) | (dsimp only [get]; congr 1 <;> first | rfl | omega | (simp; done) | (simp; omega))) ?_)), rfl⟩
 ·simp at hc
  refine evA ?_
  dsimp only [zeroTB, errB, go_sem]
  exact .inl ⟨rfl, by omega, by (repeat' (first | exact trivial | refine And.intro (by first | rfl | (simp [get, Nat.beq, slots]; done) | (simp [get, Nat.beq, slots]; omega) | (dsimp only [get]; congr 1 <;> first | rfl | omega | (simp; done) | (simp; omega))) ?_)), rfl⟩
theorem ExtM.lower {m : Nat} {w w' : World} {S S' : Nat → Prop} {γ γ' : Gh} (h : ExtM m w S γ w' S' γ') : ExtM 0 w S γ w' S' γ' := ⟨h.stay, fun b e hb => absurd hb (by omega), h.more, h.cbs, h.size, h.frame⟩
theorem ExtM.low {w w' : World} {S S' : Nat → Prop} {γ γ' γ'' : Gh} (h : ExtM 0 w S γ w' S' γ') (hs : ∀ b e, γ'' b = some e → γ' b = some e) : ExtM 0 w S γ w' S' γ'' := ⟨h.stay, fun b e hb => absurd hb (by omega), h.more, fun b e hb => h.cbs b e (hs b e hb), h.size, h.frame⟩
theorem zero_weak (tl : AM) : MW (zeroTB :: tl) (treeB zt :: tl) :=
 PW.cons ⟨PW.cons (CW.refl _) (PW.cons CW.nil (PW.cons (CW.refl _) (PW.cons (CW.refl _) (PW.cons CW.nil PW.nil)))), rfl, rfl, rfl, rfl⟩ (MW.refl tl)
theorem parse_end {w w' : World} {S S' : Nat → Prop} {γ' : Gh} {a' : Act} {μ : AM} {f : AF} (t : Tree) (n : Int) (hE : ExtM 0 w S (fun _ => none) w' S' γ') (hW : Wd ctx w S' γ' μ w') (hF : FR [] 35 w' S' γ' f a') (hs : Sub slots f) (hm : ∃ junk, μ = [treeB t, errB n] ++ junk) :
  ∃ u, (results Tryz.f28 a'.tmps).run Tryz.prog w' = .ok u w' ∧ ∃ v, Ending.returned u = .returned v ∧ Below w.heap.size w w' ∧ Is w' (fun g => S g ∨ (w.heap.size ≤ g ∧ g < w'.heap.size)) (.tup [treeP t, .int .i64 n]) v := by
 obtain ⟨h2, h3, -⟩ := hs
 obtain ⟨junk, rfl⟩ := hm
 have he : RetE (.pv (.tup [treeP t, .int .i64 n])) (evResult f ([treeB t, errB n] ++ junk) [.cell 2 5 true, .cell 3 1 false]) := by
  simp only [RetE, evResult, go_sem, h2, h3, treeB, errB, List.cons_append, List.nil_append]
  exact ⟨by simp [VCs], rfl⟩
 unfold RetE at he
 split at he
 ·rename_i vc v e1
  obtain ⟨e2, rfl⟩ := he
  obtain ⟨u, hu, hv⟩ := run_result (fn := Tryz.f28) hW (hF : FR ctx.D 35 w' S' γ' f a') (by kernel_rfl) e1 e2
  refine ⟨u, hu, u, rfl, hW.below, (thaw_is hW depth (p := .tup [treeP t, .int .i64 n]) rfl hv).stay ⟨fun g hg => ?_, fun _ _ => rfl⟩⟩
  rcases hg with hg | ⟨b, e, he, rfl⟩
  ·rcases hE.more g hg with h | ⟨b, e, h, -⟩ | h
   ·exact .inl h
   ·cases h
   ·exact .inr ⟨h, hW.live g hg⟩
  ·rcases hE.cbs b e he with ⟨b0, e0, h, -⟩ | h
   ·cases h
   ·exact .inr ⟨h, hW.cb_lt he⟩
 ·exact he.elim
set_option maxHeartbeats 1000000 in
theorem parse_ok (s : List UInt8) (hs : s.length ≤ 4000000000) : PureOK ctx 28 [.str s] (.tup [treeP (parseN s).1, .int .i64 (parseN s).2]) := by
 refine ⟨by kernel_rfl, fun w S us hE hS hp => ?_⟩
 have hW : Wd ctx w S (fun _ => none) [] w := ⟨⟨fun b k hk => by simp at hk, fun b k hk => by simp at hk, fun _ _ => rfl, fun b b' e e' h => by cases h⟩, Below.refl _ _, hS, hE⟩
 have hpv : PW (VR w S (fun _ => none)) ([PV.str s].map .pv) us := PW.map_pv hp
 have hus : us.length ≤ 35 := by rw [← hp.len]; simp
 refine calls_of_wp_defers Tryz.func28 rfl (wp_seq ?_)
 refine wp_mono (head_aw s _ comp28a w S (fun _ => none) w _ hW (entry_fr (fn := Tryz.f28) hpv hus)) fun e1 a1 w1 hh => ?_
 obtain ⟨S1, γ1, f1, μ1, x1, x2, x3, rfl, hs1, rfl⟩ := hh
 refine wp_seq ?_
 refine wp_mono (aw_frame _ hs1 (len_aw s hs) _ comp28b w S1 γ1 w1 a1 x2 x3) fun e2 a2 w2 hh => ?_
 obtain ⟨S2, γ2, f2, μ2, y1, y2, y3, hy⟩ := hh
 rcases hy with ⟨rfl, hlen, hs2, rfl⟩ | ⟨rfl, hlen, hs2, rfl⟩
 ·show Code.wp Tryz.prog _ _ _ _
  have hmf : ∀ (fn : Go.Fn) (first cap : Array Value) (w : World), (Instr.makeFunc fn first cap).run Tryz.prog w = .ok (.func fn first cap) w := fun _ _ _ _ => rfl
  obtain ⟨tm, df⟩ := a2
  have hsz : tm.size = 35 := y3.size
  obtain rfl : df = [] := y3.defers
  iterate 9 (go_step <;> try go_simp)
  obtain ⟨h0, h2, h3, -⟩ := hs2
  have v0 := y3.val 0
  have v2 := y3.val 2
  have v3 := y3.val 3
  rw [h0] at v0
  rw [h2] at v2
  rw [h3] at v3
  have hE12 := x1.trans y1.lower
  have hc54 : callable ctx.P 54 = true := by kernel_rfl
  generalize hD : ([{ target := Target.fn (Go.Fn.func 54) #[tm[2], tm[3]], args := #[] }] : List Deferred) = D
  refine wp_mono (main_aw D s hlen _ comp28d w S2 γ2 w2 _ ⟨y2.mem, y2.below, y2.live, y2.env⟩ ⟨by simp [hsz], rfl, fun t => ?_⟩) fun e3 a3 w3 hh => ?_
  ·match t with
   | 0 => simpa [Act.eval, get, Nat.beq] using v0
   | 1 => exact .any _
   | 2 => simpa [Act.eval, get, Nat.beq] using v2
   | 3 => simpa [Act.eval, get, Nat.beq] using v3
   | t + 4 => exact .any _
  obtain ⟨S3, γ3, f3, μ3, z1, z2, z3, z4⟩ := hh
  have w2' : VR w2 S2 γ2 (.ptr 0 0 0) tm[2] := by simpa [Act.eval, hsz] using v2
  have w3' : VR w2 S2 γ2 (.ptr 1 0 0) tm[3] := by simpa [Act.eval, hsz] using v3
  have hE3 : Ext w2 S2 γ2 w3 S3 γ3 := ⟨z1.stay, fun b e hb => z1.gh b e (Nat.lt_of_not_le fun h => by rw [y2.mem.none b (by simpa using h)] at hb; cases hb) hb, z1.more, z1.cbs, z1.size, z1.frame⟩
  cases e3 with
  | ret =>
   obtain ⟨k1, k2, k3⟩ := z4
   show Leaves _ _ _ _ a3.defers _ _
   rw [show a3.defers = D from z3.defers, ← hD]
   refine leaves_cons (f := 54) (args := #[tm[2], tm[3]]) (by simp) (by simp [go_sem]; exact run_callFunc hc54 _) ?_
   refine (catch_idle _ _ w3).mono ?_
   rintro e u' w'' ⟨rfl, rfl, rfl⟩
   have := parse_end (a' := { a3 with defers := [] }) (parseN s).1 0 (hE12.trans z1.lower) ⟨z2.mem, z2.below, z2.live, z2.env⟩ ⟨z3.size, rfl, z3.val⟩ k1 k3
   rw [k2]
   exact this
  | panic c =>
   obtain ⟨rfl, k1, k2, a, b, c, d, e, n, junk, rfl⟩ := z4
   show Leaves _ _ _ _ a3.defers _ _
   rw [show a3.defers = D from z3.defers, ← hD]
   refine leaves_cons (f := 54) (args := #[tm[2], tm[3]]) (by simp [wrongE]) (by simp [go_sem]; exact run_callFunc hc54 _) ?_
   have hγ : ∀ b, b < 2 → lowGh γ3 2 b = γ3 b := fun b h => by simp [lowGh, h]
   have hW3 : Wd ctx w S3 γ3 ([tcB a b c d e, errB n] ++ junk) w3 := ⟨z2.mem, z2.below, z2.live, z2.env⟩
   refine (catch_wrong _ _ a b c d e n (hW3.drop (by rfl)) (bnd_vr hγ 3 rfl (w2'.ext hE3)) (bnd_vr hγ 3 rfl (w3'.ext hE3))).mono ?_
   rintro e u' w4 ⟨rfl, rfl, S4, γ4, junk4, j1, j2⟩
   have := parse_end (a' := { a3 with defers := [] }) (f := slots) zt 3 (((hE12.trans z1.lower).low fun b e h => ?_).trans (j1.toM 0)) (j2.weak (zero_weak _)) ⟨z3.size, rfl, fun t => ?_⟩ (by (repeat' (first | exact trivial | refine And.intro (by first | rfl | (simp [get, Nat.beq, slots]; done) | (simp [get, Nat.beq, slots]; omega) | (dsimp only [get]; congr 1 <;> first | rfl | omega | (simp; done) | (simp; omega))) ?_))) ⟨_, rfl⟩
   ·rw [k1]
    exact this
   ·unfold lowGh at h
    split at h
    ·exact h
    ·cases h
   ·obtain ⟨q2, q3, -⟩ := k2
    have u2 := z3.val 2
    have u3 := z3.val 3
    rw [q2] at u2
    rw [q3] at u3
    match t with
    | 0 => exact .any _
    | 1 => exact .any _
    | 2 => exact (bnd_vr hγ 3 rfl u2).ext j1
    | 3 => exact (bnd_vr hγ 3 rfl u3).ext j1
    | t + 4 => exact .any _
  | _ => exact z4.elim
 ·show Leaves _ _ _ _ _ _ _
  rw [show a2.defers = [] from y3.defers]
  obtain ⟨u, hu, hR⟩ := parse_end (w := w) (S := S) (a' := { a2 with defers := [] }) zt 8 (x1.trans (ExtM.lower y1)) (y2.weak (zero_weak _)) ⟨y3.size, rfl, y3.val⟩ hs2 ⟨[], rfl⟩
  refine ⟨u, hu, ?_⟩
  have e : parseN s = (zt, 8) := by unfold parseN; rw [if_pos (by omega)]
  rw [e]
  exact hR
end Pur
end Go.Proofs.YtaleoeblooeglaaGreatDoor
namespace Go.Proofs.YtaleoeblooeglaaGreatDoor
namespace Pur
open Go.RowKit
section
open Rf
def stepsOf : List PV → Option (List RStep)
 | [] => some []
 | .int .i64 a :: .int .i64 b :: .int .i64 c :: r => match stepsOf r with
  | some l => some (⟨a, b, c⟩ :: l)
  | none => none
 | _ => none
structure Leaf where
 k : Int
 s : List RStep
 c : Int
 a : Int
 deriving DecidableEq
def leafOf : PV → Option Leaf
 | .agg [.int .i64 k, .sl n cs, .int .i64 c, .int .i64 a, .sl 0 []] => match stepsOf cs with
  | some s => bif Nat.beq n s.length && Nat.ble n 1000 then some ⟨k, s, c, a⟩ else none
  | none => none
 | _ => none
def Leaf.t (x : Leaf) : Tree := .node x.k x.s x.c x.a []
theorem stepsOf_ok : ∀ (cs : List PV) (s : List RStep), stepsOf cs = some s → cs = s.flatMap rstepC
 | [], s, h => by injection h with h; subst h; rfl
 | [.int .i64 _], _, h => by cases h
 | [.int .i64 _, .int .i64 _], _, h => by cases h
 | .int .i64 a :: .int .i64 b :: .int .i64 c :: r, s, h => by
  rw [stepsOf] at h
  split at h
  ·rename_i l hl
   injection h with h
   subst h
   rw [stepsOf_ok r l hl]
   rfl
  ·cases h
theorem leafOf_ok {p : PV} {x : Leaf} (h : leafOf p = some x) : p = treeP x.t ∧ wt x.t ≤ 1000000000 := by
 unfold leafOf at h
 split at h
 ·split at h
  ·rename_i s hs
   rename_i k n cs c a _
   cases hb : (Nat.beq n s.length && Nat.ble n 1000) with
   | false => rw [hb] at h; cases h
   | true =>
    rw [hb, cond_true] at h
    injection h with h
    subst h
    rw [Bool.and_eq_true] at hb
    have h1 := Nat.eq_of_beq_eq_true hb.1
    have h2 := Nat.le_of_ble_eq_true hb.2
    subst h1
    rw [stepsOf_ok cs s hs]
    refine ⟨rfl, ?_⟩
    rw [Leaf.t, wt_node]
    simp [wts]
    omega
  ·cases h
 ·cases h
def onLeaf (f : Leaf → Option PV) : List PV → Option PV := fun ps => match ps.map (canon 3) with
 | [p] => match leafOf p with
  | some x => f x
  | none => none
 | _ => none
theorem onLeaf_ok {g : FuncId} {f : Leaf → Option PV} (h : ∀ x r, wt x.t ≤ 1000000000 → f x = some r → PureOK ctx g [treeP x.t] r) (ps : List PV) (r : PV) (hr : onLeaf f ps = some r) : PureOK ctx g ps r := by
 unfold onLeaf at hr
 split at hr
 ·rename_i p hp
  split at hr
  ·rename_i x hx
   obtain ⟨h1, h2⟩ := leafOf_ok hx
   refine PureOK.canon_args 3 ?_
   rw [hp, h1]
   exact h x r h2 hr
  ·cases hr
 ·cases hr
def exL : Leaf := ⟨0, [⟨0, 1, 0⟩, ⟨0, 2, 1⟩, ⟨0, 0, 0⟩], 0, 0⟩
def exT : List UInt8 := [114, 111, 119, 32, 49, 32, 48, 10, 114, 111, 119, 32, 50, 32, 49, 10, 114, 111, 119, 32, 48, 32, 48, 10, 99, 108, 111, 115, 101, 100, 10]
def exB : List UInt8 := [114, 111, 119, 32, 48, 49, 32, 48, 10, 99, 108, 111, 115, 101, 100, 10]
def validL (x : Leaf) : Bool := x.s.all rstepOk && Rf.tailOk x.k x.c x.a 0
theorem depthL (x : Leaf) : depthN x.t = 1 := by rw [Leaf.t, depthN_node]; rfl
theorem stepsL (x : Leaf) : stepsN x.t = x.s.length := by rw [Leaf.t, stepsN_node]; rfl
theorem validL_ok (x : Leaf) (h : x.s.length ≤ 1000) : validB x.t = validL x := by
 have hw : wt x.t = 1 + x.s.length := by rw [Leaf.t, wt_node]; rfl
 have d1 : decide (depthN x.t ≤ 4096) = true := by rw [depthL]; rfl
 have d2 : decide (wt x.t ≤ 65536) = true := by rw [hw]; simp; omega
 unfold validB
 rw [d1, d2, Leaf.t, formedB_node]
 simp [validL]
theorem exT_ok : formatN exL.t = (exT, 0) := by
 have h1 : textN exL.t = exT := by
  rw [Leaf.t, textN_node]
  kernel_rfl
 unfold formatN
 rw [validL_ok exL (by decide), h1]
 rfl
def exBt : Tree := .node 0 [⟨0, 1, 0⟩] 0 0 []
theorem exB_ok : parseN exB = (zt, 3) := by
 have h1 : treeF ((spC 10 exB).length + 1) 1 (spC 10 exB) = some (exBt, [[]]) := by kernel_rfl
 have h2 : formatN exBt ≠ (exB, 0) := by
  have h3 : textN exBt = [114, 111, 119, 32, 49, 32, 48, 10, 99, 108, 111, 115, 101, 100, 10] := by
   rw [exBt, textN_node]
   kernel_rfl
  unfold formatN
  rw [h3]
  intro h
  split at h
  ·split at h
   ·cases h
   ·injection h with h _
    cases h
  ·cases h
 unfold parseN
 rw [if_neg (by decide), h1]
 simp only
 rw [if_neg h2]
theorem exP_ok : parseN exT = (exL.t, 0) := by
 have h1 : treeF ((spC 10 exT).length + 1) 1 (spC 10 exT) = some (exL.t, [[]]) := by kernel_rfl
 unfold parseN
 rw [if_neg (by decide), h1]
 simp only
 rw [if_pos exT_ok]
def awT : Tabs where
 fns := awFns
 pure := [(13, onLeaf fun x => bif Nat.ble x.s.length 1000 then some (.bool (validL x)) else none), (15, onLeaf fun x => some (.int .i64 x.s.length)), (17, onLeaf fun _ => some (.int .i64 1)),
  (26, onLeaf fun x => if x = exL then some (.tup [.str exT, .int .i64 0]) else none),
  (28, fun ps => match ps with
   | [.str s] => if s = exB then some (.tup [.agg [.int .i64 0, .sl 0 [], .int .i64 0, .int .i64 0, .sl 0 []], .int .i64 3]) else
    if s = exT then some (.tup [.agg [.int .i64 0, .sl 3 [.int .i64 0, .int .i64 1, .int .i64 0, .int .i64 0, .int .i64 2, .int .i64 1, .int .i64 0, .int .i64 0, .int .i64 0], .int .i64 0, .int .i64 0, .sl 0 []], .int .i64 0]) else none
   | _ => none)]
 ref := []
 mem := [77]
theorem awT_ok : TabOK ctx awT where
 dz := rfl
 fns g e h := by
  have key : ∀ (l : List (Nat × FnE)), (∀ p ∈ l, ∃ own, fnOf Tryz.prog p.1 own = some (p.2.x, p.2.rs, p.2.n, true)) → lookB l g = some e → ∃ own, fnOf Tryz.prog g own = some (e.x, e.rs, e.n, true) := by
   intro l
   induction l with
   | nil => intro _ h; cases h
   | cons p r ih =>
    obtain ⟨k, y⟩ := p
    intro hl h
    rw [lookB] at h
    cases hk : Nat.beq k g with
    | true =>
     rw [hk, cond_true] at h
     injection h with h
     subst h
     have := Nat.eq_of_beq_eq_true hk
     subst this
     exact hl (k, y) (by simp)
    | false =>
     rw [hk, cond_false] at h
     exact ih (fun p hp => hl p (by simp [hp])) h
  exact key awFns awFns_ok h
 pure g s h ps r hr := by
  have look : ∀ {k : Nat} {x : List PV → Option PV} {l : List (Nat × (List PV → Option PV))}, lookB ((k, x) :: l) g = some s → (k = g ∧ x = s) ∨ lookB l g = some s := fun {k x l} h => by
   rw [lookB] at h
   cases hk : Nat.beq k g with
   | true =>
    rw [hk, cond_true] at h
    injection h with h
    exact .inl ⟨Nat.eq_of_beq_eq_true hk, h⟩
   | false =>
    rw [hk, cond_false] at h
    exact .inr h
  rcases look h with ⟨rfl, rfl⟩ | h
  ·refine onLeaf_ok (fun x r hw h => ?_) ps r hr
   cases hb : Nat.ble x.s.length 1000 with
   | false => rw [hb] at h; cases h
   | true =>
    rw [hb, cond_true] at h
    injection h with h
    subst h
    rw [← validL_ok x (Nat.le_of_ble_eq_true hb)]
    exact valid_ok x.t hw
  rcases look h with ⟨rfl, rfl⟩ | h
  ·refine onLeaf_ok (fun x r hw h => ?_) ps r hr
   injection h with h
   subst h
   have := steps_ok x.t hw
   rw [stepsL] at this
   exact this
  rcases look h with ⟨rfl, rfl⟩ | h
  ·refine onLeaf_ok (fun x r hw h => ?_) ps r hr
   injection h with h
   subst h
   have := depth_ok x.t hw
   rw [depthL] at this
   exact this
  rcases look h with ⟨rfl, rfl⟩ | h
  ·refine onLeaf_ok (fun x r hw h => ?_) ps r hr
   split at h
   ·rename_i he
    subst he
    injection h with h
    subst h
    have := format_ok exL.t hw
    rw [exT_ok] at this
    exact this
   ·cases h
  rcases look h with ⟨rfl, rfl⟩ | h
  ·dsimp only at hr
   split at hr
   ·split at hr
    ·rename_i he
     subst he
     injection hr with hr
     subst hr
     have := parse_ok exB (by decide)
     rw [exB_ok] at this
     exact this
    ·split at hr
     ·rename_i he
      subst he
      injection hr with hr
      subst hr
      have := parse_ok exT (by decide)
      rw [exP_ok] at this
      exact this
     ·cases hr
   ·cases hr
  ·cases h
 ref g s h := by cases h
end
section
open Rf
set_option maxRecDepth 100000 in
theorem awake_run : callP awT (run awT 2000) 11 [] = some (.bool true) := by kernel_rfl
theorem awake_ok : PureOK ctx 11 [] (.bool true) := callP_ok awT_ok (stepC_ok awT_ok 2000) awake_run
end
end Pur
end Go.Proofs.YtaleoeblooeglaaGreatDoor
namespace Go.Proofs.YtaleoeblooeglaaGreatDoor
namespace Rf
inductive Wide (B : Nat) : Tree → Prop where
 | node (k : Int) (s : List RStep) (c a : Int) (l : List Tree) : s.length ≤ B → l.length ≤ B → (∀ t ∈ l, Wide B t) → Wide B (.node k s c a l)
theorem sizeN_up {B : Nat} : ∀ (t : Tree), Wide B t → ∀ left : Int, 0 ≤ left → sizeN t left ≤ left + 1 + B := by
 refine Tree.ind fun k s c a l ih hw left h0 => ?_
 cases hw with
 | node _ _ _ _ _ h1 h2 h3 =>
  have : ∀ (l : List Tree), (∀ t ∈ l, ∀ left : Int, 0 ≤ left → sizeN t left ≤ left + 1 + B) → ∀ n : Int, n ≤ left + 1 + B → sizeK left n l ≤ left + 1 + B := fun l => by
   induction l with
   | nil => intro _ n hn; exact hn
   | cons t r ihr =>
    intro h n hn
    rw [sizeK]
    by_cases hc : n > left
    ·rw [if_pos hc]; exact hn
    ·rw [if_neg hc]
     have := h t (by simp) (left - n) (by omega)
     exact ihr (fun x hx => h x (by simp [hx])) _ (by omega)
  rw [sizeN_node]
  exact this l (fun t ht => ih t ht (h3 t ht)) _ (by omega)
end Rf
namespace Pur
open Go.RowKit
attribute [local go_sem] evOps evOp evOpV evRun evK argF List.map hintAt stripped get put tmpsOf tmpOf tmpO tmpL tmpP conds ev cond_true cond_false Nat.beq Nat.ble Nat.add quiet After thenR blockR IfD List.append_eq List.nil_append List.cons_append evInt exactI_a exactI_b exactI_c exactI_d exactI_e exactI_f evBin evStr evBool evUn guardC calm quiet.isCallK evPick List.getElem?_cons_zero List.getElem?_cons_succ fromCells fromPVs cellsOf List.all oneCell List.length_cons List.length_nil mkAgg plains List.drop List.take List.getD Option.getD_some bo1 bo2 ba1 ba2 bn1 bn2 kk_i64 kk_u8 kk_i32 kk_u64 setAt List.set Nat.reduceAdd Nat.reduceMul evCall safeCall refsOf refsIn scalarA scalar scalarL thawL mapAll thawArg thawRef after freeze RetD RetE evResult evRess evRes1 thaw_pv mkTup nilOf_a nilOf_b nilOf_bb nilOf_c nilOf_d nilOf_e nilOf_f nilOf_g nilOf_h nilOf_i nilOf_j nilOf_k nilOf_l nilOf_m eqLeaf_a eqLeaf_b eqLeaf_c eqOffs evMM bytesOf evOpsF AfterF footOf footRefs notIn indepF footAt freeOk still evParts fillA zeros intOfA boundA srcOf List.isEmpty appNil_0 appNil_1 appNil_2 Int.reduceToNat Nat.mul_one Nat.reduceSub evC evOpsT evOpsTF autoH tabHint look hintD strip guarded RetPD RetRD mpLen keysOk leafKA leafK bitI nilOf_n nilOf_o Bool.or_false Bool.or_true Bool.and_true Bool.and_false Nat.blt renF renM renB renV idxOf solF solM solA solV thawRef ev1
open Rf
set_option maxHeartbeats 4000000 in
theorem size_wide : ∀ (t : Tree), Wide 1048576 t → ∀ left : Int, 0 ≤ left → left ≤ 2000 → PureOK ctx 37 [treeP t, .int .i64 left] (.int .i64 (sizeN t left)) := by
  refine Tree.ind fun kd s c a l ih hw left h1 h2 => ?_
  cases hw with
  | node _ _ _ _ _ w1 w2 w3 =>
  rw [sizeN_node]
  generalize hr : sizeK left (1 + s.length) l = r
  refine pure_body' (C := ctx) (Fn.of fn37 rfl) rfl ?_
  unfold c37
  repeat' (first
    | ((with_reducible first | show VCs _ | show All _); simp [vb] <;> omega)
    | exact (rfl : some _ = _)
    | (fail_if_success refine awL ?_
       refine evA ?_
       repeat1' dsimp only [c37, treeP, Tree.kind, Tree.steps, Tree.cell, Tree.pos, Tree.kids, rstepsP, kidsP, go_sem]
       first
       | refine aw4 ?_ ?_ rfl ?_
       | apply aw3
       | apply aw2
       | (refine awB (fun hc => ?_) fun hc => ?_ <;> first | (cases hc; done) | (exfalso; simp at hc <;> omega) | (try simp only [bn] at hc; try contradiction))
       | skip))
  refine aw_loopJ (σ := Nat × Int) (fun q => q.1 ≤ l.length ∧ sizeK left q.2 (l.drop q.1) = r ∧ 0 ≤ q.2 ∧ q.2 ≤ left + 1048577) (fun q => [(1, .pv (.int .i64 left)), (2, .ptr 0 0 0), (5, .pv (.int .i64 q.2)), (13, .pv (kidsP l)), (14, .pv (.int .i64 l.length)), (15, .pv (.int .i64 q.1))]) (fun _ => [treeB (.node kd s c a l)]) (fun q => l.length - q.1) (0, 1 + s.length) ⟨Nat.zero_le _, hr, by omega, by simp; omega⟩ (by (repeat' (first | exact trivial | refine And.intro (by first | rfl | (simp [get, Nat.beq]; done) | (simp [get, Nat.beq]; omega) | (dsimp only [get]; congr 1 <;> first | rfl | omega | (simp; done) | (simp; omega))) ?_))) ⟨[], rfl⟩ (fun _ _ => ⟨Nat.zero_le _, rfl, rfl⟩) fun q hP => ?_
  obtain ⟨k, n⟩ := q
  obtain ⟨p1, p2, p3, p4⟩ := hP
  simp only at p1 p2 p3 p4
  by_cases hlt : k < l.length
  · have e := kid_take l k hlt
    have hle := kids_len l
    have hwx := w3 _ (getD_mem (d := zt) hlt)
    have hx := ih _ (getD_mem (d := zt) hlt) hwx (left - n)
    have hb := sizeN_b (l.getD k zt) (left - n)
    have hu := sizeN_up _ hwx (left - n)
    have hd : l.drop k = l.getD k zt :: l.drop (k + 1) := by rw [List.drop_eq_getElem_cons hlt, List.getD, List.getElem?_eq_getElem hlt]; rfl
    rw [hd, sizeK] at p2
    clear hd
    generalize l.getD k zt = x at *
    generalize sizeN x (left - n) = sx at *
    generalize wt x = wx at *
    obtain ⟨k2, s2, c2, a2, l2⟩ := x
    simp only [treeP, Tree.kind, Tree.steps, Tree.cell, Tree.pos, Tree.kids] at e hx
    by_cases hn : n > left
    · rw [if_pos hn] at p2
      repeat' (first
        | ((with_reducible first | show VCs _ | show All _); (try dsimp only [go_sem]); first | (simp [vb, e, hle, hlt, hn, rstepsP, kidsP] <;> omega) | (simp only [vb, and_true, true_implies]; (repeat' (first | (with_reducible assumption) | (with_reducible apply And.intro) | intro _ | ((fail_if_success (with_reducible show (_ : Int) ≤ _)); assumption))) <;> first | omega | (simp only [ab, e, hle, hlt, hn, rstepsP, kidsP]; done) | (simp [e, hle, hlt, hn, rstepsP, kidsP] <;> omega)))
        | exact (rfl : some _ = _)
        | (fail_if_success refine awL ?_
           refine evH [(18, { val := some (.pv (.agg [.int .i64 k2, rstepsP s2, .int .i64 c2, .int .i64 a2, kidsP l2])) })] ?_
           repeat1' dsimp only [c37, treeB, Tree.kind, Tree.steps, Tree.cell, Tree.pos, Tree.kids, rstepsP, kidsP, go_sem]
           first
           | refine aw4 ?_ ?_ rfl ?_
           | apply aw3
           | apply aw2
           | (refine awB (fun hc => ?_) fun hc => ?_ <;> first | (cases hc; done) | (exfalso; simp [e, hle, hlt, hn, rstepsP, kidsP] at hc <;> omega) | (try simp only [bn] at hc; try contradiction))
           | skip))
      rw [p2]
    · rw [if_neg hn] at p2
      have hx := hx (by omega) (by omega)
      have hu := hu (by omega)
      repeat' (first
        | ((with_reducible first | show VCs _ | show All _); (try dsimp only [go_sem]); first | (simp [vb, e, hle, hlt, hn, hx, hb, p3, p4, rstepsP, kidsP] <;> omega) | (simp only [vb, and_true, true_implies]; (repeat' (first | (with_reducible assumption) | (with_reducible apply And.intro) | intro _ | ((fail_if_success (with_reducible show (_ : Int) ≤ _)); assumption))) <;> first | omega | (simp only [ab, e, hle, hlt, hn, hx, hb, p3, p4, rstepsP, kidsP]; done) | (simp [e, hle, hlt, hn, hx, hb, p3, p4, rstepsP, kidsP] <;> omega)))
        | exact (rfl : some _ = _)
        | (fail_if_success refine awL ?_
           refine evTH [(37, fun _ => some (.int .i64 sx))] [(18, { val := some (.pv (.agg [.int .i64 k2, rstepsP s2, .int .i64 c2, .int .i64 a2, kidsP l2])) })] ?_
           repeat1' dsimp only [c37, treeB, Tree.kind, Tree.steps, Tree.cell, Tree.pos, Tree.kids, rstepsP, kidsP, go_sem]
           first
           | refine aw4 ?_ ?_ rfl ?_
           | apply aw3
           | apply aw2
           | (refine awB (fun hc => ?_) fun hc => ?_ <;> first | (cases hc; done) | (exfalso; simp [e, hle, hlt, hn, hx, hb, p3, p4, rstepsP, kidsP] at hc <;> omega) | (try simp only [bn] at hc; try contradiction))
           | skip))
      exact ⟨(k + 1, n + sx), by show l.length - (k + 1) < l.length - k; omega, ⟨by show k + 1 ≤ _; omega, p2, by show 0 ≤ n + sx; omega, by show n + sx ≤ _; omega⟩, by (repeat' (first | exact trivial | refine And.intro (by first | rfl | (simp [get, Nat.beq]; done) | (simp [get, Nat.beq]; omega) | (dsimp only [get]; congr 1 <;> first | rfl | omega | (simp; done) | (simp; omega))) ?_)), _, rfl⟩
  · obtain rfl : k = l.length := by omega
    repeat' (first
      | ((with_reducible first | show VCs _ | show All _); simp [vb, hlt] <;> omega)
      | exact (rfl : some _ = _)
      | (fail_if_success refine awL ?_
         refine evA ?_
         repeat1' dsimp only [c37, treeB, Tree.kind, Tree.steps, Tree.cell, Tree.pos, Tree.kids, rstepsP, kidsP, go_sem]
         first
         | refine aw4 ?_ ?_ rfl ?_
         | apply aw3
         | apply aw2
         | (refine awB (fun hc => ?_) fun hc => ?_ <;> first | (cases hc; done) | (exfalso; simp [hlt] at hc <;> omega) | (try simp only [bn] at hc; try contradiction))
         | skip))
    rw [List.drop_length, sizeK] at p2
    rw [p2]
theorem smallW_ok (t : Tree) (hw : Wide 1048576 t) (left : Int) (h1 : 0 ≤ left) (h2 : left ≤ 2000) : PureOK ctx 12 [treeP t, .int .i64 left] (.bool (decide ((wt t : Int) ≤ left))) := by
  have hs := size_wide t hw left h1 h2
  rw [show decide ((wt t : Int) ≤ left) = decide (sizeN t left ≤ left) from by simp [sizeN_iff]]
  generalize sizeN t left = sz at *
  unfold treeP at hs
  refine pure_body' (C := ctx) (Fn.of fn12 rfl) rfl ?_
  unfold c12
  repeat' (first
    | ((with_reducible first | show VCs _ | show All _); (try dsimp only [go_sem]); first | (simp [vb, hs] <;> omega) | (simp only [vb, and_true, true_implies]; (repeat' (first | (with_reducible assumption) | (with_reducible apply And.intro) | intro _ | ((fail_if_success (with_reducible show (_ : Int) ≤ _)); assumption))) <;> first | omega | (simp only [ab, hs]; done) | (simp [hs] <;> omega)))
    | exact (rfl : some _ = _)
    | (fail_if_success refine awL ?_
       refine evT [(37, fun _ => some (.int .i64 sz))] ?_
       repeat1' dsimp only [c12, treeP, go_sem]
       first
       | refine aw4 ?_ ?_ rfl ?_
       | apply aw3
       | apply aw2
       | (refine awB (fun hc => ?_) fun hc => ?_ <;> first | (cases hc; done) | (exfalso; simp [hs] at hc <;> omega) | (try simp only [bn] at hc; try contradiction))
       | skip))
end Pur
end Go.Proofs.YtaleoeblooeglaaGreatDoor
namespace Go.Proofs.YtaleoeblooeglaaGreatDoor
namespace Pur
open Go.RowKit
attribute [local go_sem] evOps evOp evOpV evRun evK argF List.map hintAt stripped get put tmpsOf tmpOf tmpO tmpL tmpP conds ev cond_true cond_false Nat.beq Nat.ble Nat.add quiet After thenR blockR IfD List.append_eq List.nil_append List.cons_append evInt exactI_a exactI_b exactI_c exactI_d exactI_e exactI_f evBin evStr evBool evUn guardC calm quiet.isCallK evPick List.getElem?_cons_zero List.getElem?_cons_succ fromCells fromPVs cellsOf List.all oneCell List.length_cons List.length_nil mkAgg plains List.drop List.take List.getD Option.getD_some bo1 bo2 ba1 ba2 bn1 bn2 kk_i64 kk_u8 kk_i32 kk_u64 setAt List.set Nat.reduceAdd Nat.reduceMul evCall safeCall refsOf refsIn scalarA scalar scalarL thawL mapAll thawArg thawRef after freeze RetD RetE evResult evRess evRes1 thaw_pv mkTup nilOf_a nilOf_b nilOf_bb nilOf_c nilOf_d nilOf_e nilOf_f nilOf_g nilOf_h nilOf_i nilOf_j nilOf_k nilOf_l nilOf_m eqLeaf_a eqLeaf_b eqLeaf_c eqOffs evMM bytesOf evOpsF AfterF footOf footRefs notIn indepF footAt freeOk still evParts fillA zeros intOfA boundA srcOf List.isEmpty appNil_0 appNil_1 appNil_2 Int.reduceToNat Nat.mul_one Nat.reduceSub evC evOpsT evOpsTF autoH tabHint look hintD strip guarded RetPD RetRD mpLen keysOk leafKA leafK bitI nilOf_n nilOf_o Bool.or_false Bool.or_true Bool.and_true Bool.and_false Nat.blt renF renM renB renV idxOf solF solM solA solV thawRef ev1
section
open Rf
def c3 : ACode := (⟨_, by conv => (lhs; reduce; try simp only [lt1, Int.cast_ofNat_Int, Int.reduceNegSucc, UInt8.reduceOfNat])⟩ : {x // codeOf Tryz.prog 3 (fun _ => false) = some x}).1
theorem fn3 : fnOf Tryz.prog 3 (fun _ => false) = some (c3, [.t 4], 48, true) := by kernel_rfl
set_option maxHeartbeats 4000000 in
theorem forms_ok (t u : Tree) (ht : Wide 1048576 t) (hu : Wide 1048576 u) : PureOK ctx 3 [treeP t, treeP u] (.bool true) := by
  have h0 := awake_ok
  have s1 := smallW_ok t ht 300 (by omega) (by omega)
  have s2 := smallW_ok u hu 300 (by omega) (by omega)
  have e1 : ∀ x : Tree, treeP x = .agg [.int .i64 x.kind, rstepsP x.steps, .int .i64 x.cell, .int .i64 x.pos, kidsP x.kids] := fun _ => rfl
  by_cases c1 : (wt t : Int) ≤ 300
  · rw [decide_eq_true c1] at s1
    by_cases c2 : (wt u : Int) ≤ 300
    · rw [decide_eq_true c2] at s2
      obtain ⟨r, hr⟩ := boolOf_ex (t = u)
      have v1 := valid_ok t (by omega)
      have v2 := refValidT_ok t (by omega)
      have v3 := steps_ok t (by omega)
      have v4 := refSteps_ok t (by omega)
      have v5 := depth_ok t (by omega)
      have v6 := refDepth_ok t (by omega)
      have v7 := same_ok t u (by omega) (by omega) r hr
      have v8 := tree_ok t u (by omega) (by omega) r hr
      have v9 := same_ok t t (by omega) (by omega) true (by simp)
      generalize validB t = vb1 at *
      generalize stepsN t = sn at *
      generalize depthN t = dn at *
      rw [e1 t, e1 u] at *
      refine pure_body' (C := ctx) (Fn.of fn3 rfl) rfl ?_
      unfold c3
      repeat' (first
        | ((with_reducible first | show VCs _ | show All _); simp [vb, h0, s1, s2, v1, v2, v3, v4, v5, v6, v7, v8, v9] <;> omega)
        | exact (rfl : some _ = _)
        | (fail_if_success refine awL ?_
           refine evTH [(11, fun _ => some (.bool true)), (12, fun _ => some (.bool true)), (13, fun _ => some (.bool vb1)), (14, fun _ => some (.bool vb1)), (15, fun _ => some (.int .i64 sn)), (16, fun _ => some (.int .i64 sn)), (17, fun _ => some (.int .i64 dn)), (18, fun _ => some (.int .i64 dn)), (20, fun _ => some (.bool r))] [(37, { val := some (.pv (.bool r)) }), (46, { val := some (.pv (.bool true)) })] ?_
           repeat1' dsimp only [c3, go_sem]
           first
           | refine aw4 ?_ ?_ rfl ?_
           | apply aw3
           | apply aw2
           | (refine awB (fun hc => ?_) fun hc => ?_ <;> first | (cases hc; done) | (exfalso; simp [h0, s1, s2, v1, v2, v3, v4, v5, v6, v7, v8, v9] at hc <;> omega) | (try simp only [bn] at hc; try contradiction))
           | skip))
      simp
    · rw [decide_eq_false c2] at s2
      rw [e1 t, e1 u] at *
      refine pure_body' (C := ctx) (Fn.of fn3 rfl) rfl ?_
      unfold c3
      repeat' (first
        | ((with_reducible first | show VCs _ | show All _); simp [vb, h0, s1, s2] <;> omega)
        | exact (rfl : some _ = _)
        | (fail_if_success refine awL ?_
           refine evTH [(11, fun _ => some (.bool true))] [(8, { val := some (.pv (.bool true)) }), (12, { val := some (.pv (.bool false)) })] ?_
           repeat1' dsimp only [c3, go_sem]
           first
           | refine aw4 ?_ ?_ rfl ?_
           | apply aw3
           | apply aw2
           | (refine awB (fun hc => ?_) fun hc => ?_ <;> first | (cases hc; done) | (exfalso; simp [h0, s1, s2] at hc <;> omega) | (try simp only [bn] at hc; try contradiction))
           | skip))
  · rw [decide_eq_false c1] at s1
    rw [e1 t, e1 u] at *
    refine pure_body' (C := ctx) (Fn.of fn3 rfl) rfl ?_
    unfold c3
    repeat' (first
      | ((with_reducible first | show VCs _ | show All _); simp [vb, h0, s1, s2] <;> omega)
      | exact (rfl : some _ = _)
      | (fail_if_success refine awL ?_
         refine evTH [(11, fun _ => some (.bool true))] [(8, { val := some (.pv (.bool false)) }), (12, { val := some (.pv (.bool false)) })] ?_
         repeat1' dsimp only [c3, go_sem]
         first
         | refine aw4 ?_ ?_ rfl ?_
         | apply aw3
         | apply aw2
         | (refine awB (fun hc => ?_) fun hc => ?_ <;> first | (cases hc; done) | (exfalso; simp [h0, s1, s2] at hc <;> omega) | (try simp only [bn] at hc; try contradiction))
         | skip))
end
end Pur
end Go.Proofs.YtaleoeblooeglaaGreatDoor
namespace Go.Proofs.YtaleoeblooeglaaGreatDoor
namespace Pur
open Go.RowKit
section
section
variable {P : Program} {B n : Nat}
theorem ty_int {t : TypeId} {k : IntKind} {l : List PV} (h : Typed P B n t l) (hu : P.underlying t = some (.int k)) : ∃ x, l = [.int k x] ∧ (Lit.int k x).wf = true := by
 cases n with
 | zero => exact h.elim
 | succ n => simpa only [Typed, hu] using h
theorem ty_str {t : TypeId} {l : List PV} (h : Typed P B n t l) (hu : P.underlying t = some .string) : ∃ s, l = [.str s] ∧ s.length ≤ B := by
 cases n with
 | zero => exact h.elim
 | succ n => simpa only [Typed, hu] using h
theorem ty_struct {t : TypeId} {fs : Array Field} {l : List PV} (h : Typed P B n t l) (hu : P.underlying t = some (.struct fs)) : l.length = P.cellsOf t ∧ ∃ m, n = m + 1 ∧ ∀ (i : Nat) f, fs[i]? = some f → Typed P B m f.type ((l.drop f.offset).take (P.cellsOf f.type)) := by
 cases n with
 | zero => exact h.elim
 | succ n =>
  simp only [Typed, hu] at h
  exact ⟨h.1, n, rfl, h.2⟩
theorem piece {m : Nat} {fs : Array Field} {l : List PV} (hf : ∀ (i : Nat) f, fs[i]? = some f → Typed P B m f.type ((l.drop f.offset).take (P.cellsOf f.type))) (i o : Nat) (t : TypeId) {z : Nat} (hz : P.cellsOf t = z) (hi : (fs[i]?).map (fun f => (f.offset, f.type)) = some (o, t)) :
  Typed P B m t ((l.drop o).take z) := by
 obtain ⟨f, h1, h2⟩ := Option.map_eq_some_iff.mp hi
 injection h2 with h2 h3
 have := hf i f h1
 rw [h2, h3, hz] at this
 exact this
theorem rows_of {α : Type} (z : Nat) (enc : α → List PV) (Q : α → Prop) (he : ∀ x, Q x → (enc x).length = z) : ∀ (m : Nat) (cs : List PV), cs.length = m * z → (∀ i, i < m → ∃ x, (cs.drop (i * z)).take z = enc x ∧ Q x) → ∃ xs : List α, xs.length = m ∧ cs = xs.flatMap enc ∧ ∀ x ∈ xs, Q x
 | 0, cs, hl, _ => by
  have : cs = [] := List.eq_nil_of_length_eq_zero (by simpa using hl)
  subst this
  exact ⟨[], rfl, rfl, fun x hx => by cases hx⟩
 | m + 1, cs, hl, h => by
  obtain ⟨x, hx, hq⟩ := h 0 (by omega)
  rw [Nat.zero_mul, List.drop_zero] at hx
  rw [Nat.succ_mul] at hl
  obtain ⟨xs, h1, h2, h3⟩ := rows_of z enc Q he m (cs.drop z) (by rw [List.length_drop]; omega) fun i hi => by
   have := h (i + 1) (by omega)
   rw [List.drop_drop, show z + i * z = (i + 1) * z by rw [Nat.succ_mul]; omega]
   exact this
  refine ⟨x :: xs, by simp [h1], ?_, fun y hy => ?_⟩
  ·rw [List.flatMap_cons, ← h2, ← hx, List.take_append_drop]
  ·rcases List.mem_cons.mp hy with rfl | hy
   ·exact hq
   ·exact h3 y hy
theorem ty_slice {α : Type} {t e : TypeId} {l : List PV} (h : Typed P B n t l) (hu : P.underlying t = some (.slice e)) {z : Nat} (hz : P.cellsOf e = z) (enc : α → List PV) (Q : α → Prop) (he : ∀ x, Q x → (enc x).length = z)
  (hd : ∀ m c, m < n → Typed P B m e c → ∃ x, c = enc x ∧ Q x) : ∃ xs : List α, l = [.sl xs.length (xs.flatMap enc)] ∧ xs.length ≤ B ∧ ∀ x ∈ xs, Q x := by
 cases n with
 | zero => exact h.elim
 | succ n =>
  simp only [Typed, hu, hz] at h
  obtain ⟨m, cs, rfl, hm, hl, hi⟩ := h
  obtain ⟨xs, h1, h2, h3⟩ := rows_of z enc Q he m cs hl fun i him => hd n _ (by omega) (hi i him)
  subst h1 h2
  exact ⟨xs, rfl, hm, h3⟩
theorem ty_leaf {t : TypeId} {p : PV} (h : TypedV P B t p) (hn : ∀ fs, P.underlying t ≠ some (.struct fs)) : ∃ n, Typed P B n t [p] := by
 obtain ⟨n, l, h1, h2⟩ := h
 cases hu : P.underlying t with
 | none => rw [hu] at h2; subst h2; exact ⟨n, h1⟩
 | some d =>
  rw [hu] at h2
  cases d <;> first | exact absurd hu (hn _) | (subst h2; exact ⟨n, h1⟩)
theorem ty_agg {t : TypeId} {p : PV} {fs : Array Field} (h : TypedV P B t p) (hu : P.underlying t = some (.struct fs)) : ∃ n l, Typed P B n t l ∧ p = .agg l := by
 obtain ⟨n, l, h1, h2⟩ := h
 rw [hu] at h2
 exact ⟨n, l, h1, h2⟩
end
end
section
open Rf
theorem cz1 : Tryz.prog.cellsOf 3 = 1 := by kernel_rfl
theorem cz3 : Tryz.prog.cellsOf 66 = 3 := by kernel_rfl
theorem cz5 : Tryz.prog.cellsOf 25 = 5 := by kernel_rfl
theorem czs : Tryz.prog.cellsOf 22 = 1 := by kernel_rfl
theorem czt : Tryz.prog.cellsOf 23 = 1 := by kernel_rfl
theorem tInt {n B : Nat} {l : List PV} (h : Typed Tryz.prog B n 3 l) : ∃ x, l = [.int .i64 x] := by
 obtain ⟨x, rfl, hw⟩ := ty_int h Tryz.underlying3
 exact ⟨x, rfl⟩
theorem tStep {n B : Nat} {l : List PV} (h : Typed Tryz.prog B n 66 l) : ∃ x, l = rstepC x ∧ True := by
 obtain ⟨hl, m, rfl, hf⟩ := ty_struct h Tryz.underlying66
 rw [cz3] at hl
 match l, hl with
 | [a, b, c], _ =>
  obtain ⟨x, hx⟩ := tInt (piece hf 0 0 3 cz1 rfl)
  obtain ⟨y, hy⟩ := tInt (piece hf 1 1 3 cz1 rfl)
  obtain ⟨z, hz⟩ := tInt (piece hf 2 2 3 cz1 rfl)
  simp at hx hy hz
  subst hx hy hz
  exact ⟨⟨x, y, z⟩, rfl, trivial⟩
theorem tTreeC {B : Nat} : ∀ (n : Nat) (l : List PV), Typed Tryz.prog B n 25 l → ∃ t, l = treeC t ∧ Wide B t := by
 intro n
 induction n using Nat.strongRecOn with
 | ind n ih =>
  intro l h
  obtain ⟨hl, m, rfl, hf⟩ := ty_struct h Tryz.underlying25
  rw [cz5] at hl
  match l, hl with
  | [a0, a1, a2, a3, a4], _ =>
   obtain ⟨x0, e0⟩ := tInt (piece hf 0 0 3 cz1 rfl)
   have h1 := ty_slice (piece hf 1 1 22 czs rfl) Tryz.underlying22 cz3 rstepC (fun _ => True) (fun _ _ => rfl) fun m c _ hc => tStep hc
   obtain ⟨x2, e2⟩ := tInt (piece hf 2 2 3 cz1 rfl)
   obtain ⟨x3, e3⟩ := tInt (piece hf 3 3 3 cz1 rfl)
   have h4 := ty_slice (piece hf 4 4 23 czt rfl) Tryz.underlying23 cz5 treeC (Wide B) (fun x _ => treeC_len x) fun k c hk hc => ih k (by omega) c hc
   obtain ⟨x1, e1, l1, -⟩ := h1
   obtain ⟨x4, e4, l4, w4⟩ := h4
   simp at e0 e1 e2 e3 e4
   subst e0 e1 e2 e3 e4
   exact ⟨.node x0 x1 x2 x3 x4, by rw [treeC_node]; rfl, .node _ _ _ _ _ l1 l4 w4⟩
theorem tTree {B : Nat} {p : PV} (h : TypedV Tryz.prog B 25 p) : ∃ t, p = treeP t ∧ Wide B t := by
 obtain ⟨n, l, h', rfl⟩ := ty_agg h Tryz.underlying25
 obtain ⟨t, rfl, hw⟩ := tTreeC n l h'
 exact ⟨t, by rw [treeC_eq]; rfl, hw⟩
end
section
open Rf
theorem forms_typed (qs : List PV) (h : TypedAll Tryz.prog 1048576 [25, 25] qs) : PureOK ctx 3 qs (.bool true) := by
 match qs, h with
 | [p, q], h =>
  obtain ⟨h1, h2, -⟩ := h
  obtain ⟨t, rfl, ht⟩ := tTree h1
  obtain ⟨u, rfl, hu⟩ := tTree h2
  exact forms_ok t u ht hu
end
end Pur
end Go.Proofs.YtaleoeblooeglaaGreatDoor
namespace Go.Proofs.YtaleoeblooeglaaGreatDoor.lawForms
open Go.ChangeShapes Go.WideShapes Go.ChangeAt Go.RowKit
theorem contract (H : Type) (enc : TypeId × Value → H) (W : World) (base : Nat) (args : Array Value) (ds gs : List (DataW H)) (before : List MemPlace)
  (hval : ∀ (j : Nat) t v, Tryz.f3.params[j]? = some t → args[j]? = some v → Value.okWide Tryz.prog W .any base t v)
  (hW : DataW.Whole enc Tryz.prog Tryz.f3.params.toList Rows.refutationFormsSpec.vars false W args.toList ds gs before) (hk : Rows.uptoSmall H (ds ++ gs) = true) (hL : laidMetH Tryz.prog Rows.refutationFormsUptoRow.laid W) (hsh : W.ShapedOpen Tryz.prog) :
  Calls Tryz.prog 3 args W fun e W' => ∃ v, e = .returned v ∧ Rows.refutationFormsSpec.post enc Tryz.prog Tryz.f3 false true false false W args v W' := by
 have hW' := hW
 obtain ⟨p, q, hA0, hV, rfl, hfz, hnd⟩ := hW
 have hA : DataW.TrodAll enc Tryz.prog W 0 (fun _ => true) true [25, 25] args.toList ds p := hA0
 obtain ⟨rfl, rfl⟩ := trodVars_none hV
 obtain ⟨qs, hty, hps⟩ := Pur.open_all (B := 1048576) (Sm := (fun d : DataW H => Rows.uptoBulk d ≤ 1048576)) Pur.Meas.upto (L := [25, 3, 9, 22, 66, 23]) (r := .any) (b := base) (by kernel_rfl) [25, 25] args.toList ds p (of_decide_eq_true rfl) (fun j t v h1 h2 => hval j t v (by
  rw [Tryz.params3, List.getElem?_toArray]; exact h1) (by rw [Array.getElem?_toList] at h2; exact h2)) hA (fun d hd => Pur.upto_all hk d (List.mem_append_left _ hd))
 have hst : ∀ (W' : World) (sp : Nat → Bool), Below W.heap.size W W' → (∀ x ∈ p ++ [], sp x.block = true) → DataW.TrodAll enc Tryz.prog W' 0 sp true [25, 25] args.toList ds p := fun W' sp hb hsp =>
  Pur.stay_all (by kernel_rfl) _ _ _ _ (of_decide_eq_true (by kernel_rfl)) (fun x hx => Pur.same_below hb (hW'.lt x (List.mem_append_left _ hx))) (fun x hx => hsp x (List.mem_append_left _ hx)) hA
 have hE := Cd.env_of hL hsh
 obtain ⟨v0, vs0, d0, ds0, p0, q0, hargs, rfl, hp0, h0, r0⟩ := trodAll_cons hA
 obtain ⟨v1, vs1, d1, ds1, p1, q1, rfl, rfl, hp1, h1, r1⟩ := trodAll_cons r0
 obtain ⟨rfl, rfl, rfl⟩ := trodAll_nil r1
 obtain rfl : args = #[v0, v1] := by cases args; simp_all
 refine ((Pur.forms_typed qs hty).2 W (Pur.Here W) [v0, v1] hE (fun g h => h) hps).mono fun e W' hh => ?_
 obtain ⟨v, he, hb, hv⟩ := hh
 have := Pur.is_bool_inv hv
 subst this
 subst he
 exact ⟨_, rfl, post_below (pa := p) (pv := []) hW' (fun _ _ _ => trodAll_cons_mk (shut_bool Tryz.underlying4 _) trodAll_mk0)
  (fun sp hsp => hst W' sp hb hsp) (fun _ _ => rfl) rfl
  hb (ok_one (by kernel_rfl) rfl (okWide_bool_mk Tryz.underlying4 _))⟩
def start : Array Value := #[.agg #[.int .i64 0, .slice none 0 0, .int .i64 0, .int .i64 0, .slice none 0 0], .agg #[.int .i64 0, .slice none 0 0, .int .i64 0, .int .i64 0, .slice none 0 0]]
theorem met (os : Os) : laidMet Tryz.prog Rows.refutationFormsUptoRow.laid ((World.laidAll Tryz.prog os Rows.refutationFormsUptoRow.laid).forCall (fun _ _ => 0) ⟨#[], start, []⟩).memory :=
 laidMet_laidAll _ (by kernel_rfl) (by kernel_rfl)
theorem reads (os : Os) {H : Type} (enc : TypeId × Value → H) : ∃ places, DataW.whole enc Tryz.prog ((World.laidAll Tryz.prog os Rows.refutationFormsUptoRow.laid).forCall (fun _ _ => 0) ⟨#[], start, []⟩).memory Tryz.f3.params.toList Rows.refutationFormsSpec.vars false start.toList 8 = some ([.agg [.lit (.int .i64 0), .nil, .lit (.int .i64 0), .lit (.int .i64 0), .nil], .agg [.lit (.int .i64 0), .nil, .lit (.int .i64 0), .lit (.int .i64 0), .nil]], [], places) :=
 ⟨[], by kernel_rfl⟩
set_option maxRecDepth 100000 in
theorem lifted (os : Os) (started : os.Started) (H : Type) (enc : TypeId × Value → H) (F : Stop.Interp) :
  ReturnsInHanded {} Tryz.checked os 3 .any ((Rows.OpenSpec.upto Rows.refutationFormsSpec).preRow enc Tryz.prog Tryz.f3 Rows.refutationFormsUptoRow.domain false Rows.refutationFormsUptoRow.laid) (((Rows.OpenSpec.upto Rows.refutationFormsSpec).at F).post enc Tryz.prog Tryz.f3 false true false false) := by
 obtain ⟨places, hx⟩ := reads os enc
 refine returnsInHanded_of_row (C := Tryz.checked) (s := (Rows.OpenSpec.upto Rows.refutationFormsSpec)) Cd.own started (by kernel_rfl) Tryz.func3
  (witness_row_atRef (enc := enc) (C := Tryz.checked) false (World.laidAll Tryz.prog os Rows.refutationFormsUptoRow.laid) start (World.laidAll_os _ _ _) (by kernel_rfl) (by kernel_rfl) (by kernel_rfl)
   (OpenSpec.preRow_of_cond 8 hx (by kernel_rfl) (fun k hk => by cases hk; kernel_rfl) (by kernel_rfl) (met os))) ?_
 intro W base args ds gs before hval hW _ hk _ hL hsh _
 exact contract H enc W base args ds gs before hval hW (hk _ rfl) hL hsh
theorem said : Rows.RefutationFormsUptoSaid :=
 OpenClaim.holds_of_cond 3 Tryz.f3 rfl rfl rfl rfl rfl rfl rfl ⟨rfl, rfl, rfl, rfl, rfl⟩ rfl rfl rfl rfl rfl (by kernel_rfl) Tryz.func3 (by kernel_rfl)
  (of_decide_eq_true (by kernel_rfl)) (by unfold Func.isWrapper; rw [if_neg (of_decide_eq_false (by kernel_rfl))]; exact ⟨rfl, rfl⟩)
  (fun os started H enc _ F => by rw [OpenClaim.pre_eq_preRow]; exact lifted os started H enc F)
theorem plain (f : FuncId) (fn : Func) (hf : Tryz.pinned.checked.prog.funcNamed "confluent/confluentlaw21.RefutationForms" = some f) (hfn : Tryz.pinned.checked.prog.funcs[f]? = some fn) :
  true = Tryz.pinned.checked.prog.looks [] ∧ ∀ (j : Nat) t, fn.params[j]? = some t → Tryz.pinned.checked.prog.wantsStandIn t = false := by
 obtain rfl : f = 3 := Option.some.inj ((show Tryz.prog.funcNamed "confluent/confluentlaw21.RefutationForms" = some 3 by kernel_rfl).symm.trans hf) |>.symm
 obtain rfl : fn = Tryz.f3 := (Option.some.inj (Tryz.func3.symm.trans hfn)).symm
 refine ⟨by kernel_rfl, fun j t ht => ?_⟩
 rw [Tryz.params3] at ht
 have hm := Array.mem_of_getElem? ht
 simp only [List.mem_toArray, List.mem_cons, List.not_mem_nil, or_false] at hm
 rcases hm with rfl | rfl
 ·exact (by kernel_rfl : Tryz.prog.wantsStandIn 25 = false)
 ·exact (by kernel_rfl : Tryz.prog.wantsStandIn 25 = false)
theorem proved : Rows.RefutationFormsUptoCardSaid :=
 Claim7.holds_tied_plain_at .later [] _ _ _ _ said (fun _ h => by cases h) (by kernel_rfl) (fun _ h => by cases h) refutationFormsUpto_row_tie rfl ⟨rfl, rfl⟩ (by kernel_rfl) rfl plain (by kernel_rfl)
end Go.Proofs.YtaleoeblooeglaaGreatDoor.lawForms
namespace Go.Proofs.YtaleoeblooeglaaGreatDoor
namespace Rf
theorem decFrom_cat : ∀ (l : List UInt8) (acc : Nat) (r : List UInt8), Lib.decFrom acc (l ++ r) = match Lib.decFrom acc l with | some m => Lib.decFrom m r | none => none
 | [], acc, r => by simp [Lib.decFrom]
 | c :: l, acc, r => by
  simp only [List.cons_append, Lib.decFrom]
  cases Lib.digitVal c with
  | none => rfl
  | some d => exact decFrom_cat l _ r
theorem dig_val (d : Nat) (hd : d < 10) : Lib.digitVal (UInt8.ofNat (48 + d)) = some d := by
 have : (UInt8.ofNat (48 + d)).toNat = 48 + d := UInt8.toNat_ofNat_of_lt' (by have : UInt8.size = 256 := rfl; omega)
 rw [Lib.digitVal, this, if_pos (by omega)]
 congr 1
 omega
theorem dec_digits : ∀ u : Nat, Lib.decFrom 0 (Lib.decDigits u) = some u := by
 intro u
 induction u using Nat.strongRecOn with
 | _ u ih =>
  rw [Lib.decDigits]
  split
  ·rename_i h
   simp only [Lib.decFrom, dig_val u h]
   simp
  ·rename_i h
   rw [decFrom_cat, ih (u / 10) (by omega)]
   simp only [Lib.decFrom, dig_val (u % 10) (by omega)]
   congr 1
   omega
theorem head_digits (u : Nat) : (Lib.decDigits u).head? ≠ some 45 ∧ Lib.decDigits u ≠ [] := by
 have hne : Lib.decDigits u ≠ [] := fun h => by
  have := Lib.decDigits_length u
  rw [h] at this
  have := Lib.nDigits_pos u
  simp at *
  omega
 refine ⟨fun h => ?_, hne⟩
 have h0 : (Lib.decDigits u)[0]? = some 45 := by rw [← List.head?_eq_getElem?]; exact h
 obtain ⟨d, hd⟩ := Lib.digit_of_decFrom _ 0 u (dec_digits u) 0 45 h0
 simp [Lib.digitVal] at hd
theorem decFrom_ge : ∀ (l : List UInt8) (acc m : Nat), Lib.decFrom acc l = some m → acc ≤ m
 | [], acc, m, h => by simp [Lib.decFrom] at h; omega
 | c :: r, acc, m, h => by
  simp only [Lib.decFrom] at h
  split at h
  ·have := decFrom_ge r _ m h
   omega
  ·cases h
theorem parse_dec : ∀ (l : List UInt8) (acc m : Nat), Lib.decFrom acc l = some m → m < 1000000000000000000 → Lib.parseUint10 acc l = .ok m
 | [], acc, m, h, _ => by simp [Lib.decFrom] at h; rw [Lib.parseUint10, h]
 | c :: r, acc, m, h, hm => by
  simp only [Lib.decFrom] at h
  split at h
  ·rename_i d hd
   obtain ⟨h1, h2, h3⟩ := Lib.digitVal_eq hd
   have hge := decFrom_ge r _ m h
   rw [Lib.parseUint10, if_pos ⟨h1, h2⟩, if_neg (by omega), if_neg (by omega), ← h3]
   exact parse_dec r _ m h hm
  ·cases h
theorem atoi_itoa {v : Int} (h : -100000000 ≤ v ∧ v ≤ 100000000) : Lib.atoiAll (Lib.itoa v) = .ok v := by
 have hp := parse_dec _ 0 _ (dec_digits v.natAbs) (by omega)
 obtain ⟨h1, h2⟩ := head_digits v.natAbs
 have hm : Lib.parseMag (Lib.decDigits v.natAbs) = .ok v.natAbs := by rw [Lib.parseMag, if_neg h2, hp]
 unfold Lib.itoa
 split
 ·rename_i hv
  simp only [Lib.atoiAll]
  rw [if_pos (.inr (by decide)), hm]
  simp only
  rw [if_neg (by simp), if_neg (by omega), if_pos (by decide)]
  congr 1
  omega
 ·rename_i hv
  have e : v.toNat = v.natAbs := by omega
  rw [e]
  cases hd : Lib.decDigits v.natAbs with
  | nil => exact absurd hd h2
  | cons c r =>
   obtain ⟨d, hdd⟩ := Lib.digit_of_decFrom _ 0 _ (dec_digits v.natAbs) 0 c (by rw [hd]; rfl)
   obtain ⟨g1, g2, g3⟩ := Lib.digitVal_eq hdd
   simp only [Lib.atoiAll]
   rw [if_neg (by omega), ← hd, hm]
   simp only
   rw [if_neg (by omega), if_neg (by omega), if_neg (by omega)]
   congr 1
   omega
theorem numR_itoa {v : Int} (h : -100000000 ≤ v ∧ v ≤ 100000000) : numR (Lib.itoa v) = some v := by
 unfold numR
 rw [atoi_itoa h]
theorem digits_ok : ∀ (u : Nat), ∀ x ∈ Lib.decDigits u, x ≠ 10 ∧ x ≠ 32 := by
 have one : ∀ d, d < 10 → (UInt8.ofNat (48 + d) ≠ 10 ∧ UInt8.ofNat (48 + d) ≠ 32) := by decide
 intro u
 induction u using Nat.strongRecOn with
 | _ u ih =>
  intro x hx
  rw [Lib.decDigits] at hx
  split at hx
  ·rename_i h
   simp only [List.mem_singleton] at hx
   subst hx
   exact one u h
  ·rename_i h
   rcases List.mem_append.mp hx with hx | hx
   ·exact ih (u / 10) (by omega) x hx
   ·simp only [List.mem_singleton] at hx
    subst hx
    exact one _ (Nat.mod_lt _ (by omega))
theorem itoa_ok (n : Int) : ∀ x ∈ Lib.itoa n, x ≠ 10 ∧ x ≠ 32 := by
 unfold Lib.itoa
 split
 ·intro x hx
  rcases List.mem_cons.mp hx with rfl | hx
  ·decide
  ·exact digits_ok _ x hx
 ·exact digits_ok _
theorem spC_plain {c : UInt8} : ∀ (w : List UInt8), (∀ x ∈ w, x ≠ c) → spC c w = [w]
 | [], _ => rfl
 | x :: r, h => by
  have hx := h x (by simp)
  rw [spC, if_neg hx, spC_plain r fun y hy => h y (by simp [hy])]
theorem spC_cut {c : UInt8} : ∀ (w : List UInt8), (∀ x ∈ w, x ≠ c) → ∀ r, spC c (w ++ c :: r) = w :: spC c r
 | [], _, r => by rw [List.nil_append, spC, if_pos rfl]
 | x :: w, h, r => by
  have hx := h x (by simp)
  rw [List.cons_append, spC, if_neg hx, spC_cut w (fun y hy => h y (by simp [hy])) r]
theorem spC_lines {c : UInt8} : ∀ (ls : List (List UInt8)), (∀ w ∈ ls, ∀ x ∈ w, x ≠ c) → spC c (ls.flatMap fun w => w ++ [c]) = ls ++ [[]]
 | [], _ => rfl
 | w :: r, h => by
  rw [List.flatMap_cons, List.append_assoc, List.singleton_append, spC_cut w (h w (by simp)), spC_lines r fun x hx => h x (by simp [hx])]
  rfl
def stepL (x : RStep) : Ln := (if x.kind = 1 then wGraph else wRow) ++ 32 :: (Lib.itoa x.index ++ 32 :: Lib.itoa x.cell)
def tailL (k c a : Int) (n : Nat) : Ln := if k = 1 then wSplit ++ 32 :: (Lib.itoa c ++ 32 :: Lib.itoa a) else if k = 2 then wCases ++ 32 :: Lib.itoa n else wClosed
def lnT : Tree → List Ln
 | .node k s c a l => s.map stepL ++ [tailL k c a l.length] ++ (l.attach.map fun x => lnT x.1).flatten
decreasing_by
 have := List.sizeOf_lt_of_mem x.2
 simp
 omega
theorem lnT_node (k : Int) (s : List RStep) (c a : Int) (l : List Tree) : lnT (.node k s c a l) = s.map stepL ++ tailL k c a l.length :: l.flatMap lnT := by
 rw [lnT, attach_map, List.flatMap_def, List.append_assoc, List.singleton_append]
theorem wRow_ok : ∀ x ∈ wRow, x ≠ 10 ∧ x ≠ 32 := by decide
theorem wGraph_ok : ∀ x ∈ wGraph, x ≠ 10 ∧ x ≠ 32 := by decide
theorem wSplit_ok : ∀ x ∈ wSplit, x ≠ 10 ∧ x ≠ 32 := by decide
theorem wCases_ok : ∀ x ∈ wCases, x ≠ 10 ∧ x ≠ 32 := by decide
theorem wClosed_ok : ∀ x ∈ wClosed, x ≠ 10 ∧ x ≠ 32 := by decide
theorem line2 {w : Ln} (hw : ∀ x ∈ w, x ≠ 10 ∧ x ≠ 32) {a b : Int} (ha : -100000000 ≤ a ∧ a ≤ 100000000) (hb : -100000000 ≤ b ∧ b ≤ 100000000) : lineR (w ++ 32 :: (Lib.itoa a ++ 32 :: Lib.itoa b)) = some (w, [a, b]) := by
 unfold lineR
 rw [spC_cut w fun x hx => (hw x hx).2, spC_cut _ fun x hx => (itoa_ok a x hx).2, spC_plain _ fun x hx => (itoa_ok b x hx).2]
 simp only [numsR, numR_itoa ha, numR_itoa hb]
theorem line1 {w : Ln} (hw : ∀ x ∈ w, x ≠ 10 ∧ x ≠ 32) {a : Int} (ha : -100000000 ≤ a ∧ a ≤ 100000000) : lineR (w ++ 32 :: Lib.itoa a) = some (w, [a]) := by
 unfold lineR
 rw [spC_cut w fun x hx => (hw x hx).2, spC_plain _ fun x hx => (itoa_ok a x hx).2]
 simp only [numsR, numR_itoa ha]
theorem line0 {w : Ln} (hw : ∀ x ∈ w, x ≠ 10 ∧ x ≠ 32) : lineR w = some (w, []) := by
 unfold lineR
 rw [spC_plain w fun x hx => (hw x hx).2]
 rfl
theorem insideB_iff (n lo hi : Int) : Pur.insideB n lo hi = true ↔ lo ≤ n ∧ n ≤ hi := by simp [Pur.insideB]
theorem steps_read (lev : Int) : ∀ (s : List RStep), (∀ x ∈ s, rstepOk x = true) → ∀ (f : Nat) (S : List RStep) (X : List Ln), s.length ≤ f → nodeF f lev S (s.map stepL ++ X) = nodeF (f - s.length) lev (S ++ s) X
 | [], _, f, S, X, _ => by simp
 | x :: r, h, f, S, X, hf => by
  obtain ⟨g, rfl⟩ : ∃ g, f = g + 1 := ⟨f - 1, by simp at hf; omega⟩
  have hx := h x (by simp)
  simp only [rstepOk, Bool.and_eq_true, insideB_iff] at hx
  obtain ⟨⟨hk, hi⟩, hc⟩ := hx
  have hc2 : -100000000 ≤ x.cell ∧ x.cell ≤ 100000000 := by split at hc <;> omega
  have ih := steps_read lev r (fun y hy => h y (by simp [hy])) g (S ++ [x]) X (by simp at hf; omega)
  rw [List.map_cons, List.cons_append, nodeF]
  have he : g + 1 - (x :: r).length = g - r.length := by simp
  rw [he, show S ++ x :: r = S ++ [x] ++ r by simp, ← ih]
  obtain ⟨k, i, c⟩ := x
  simp only at hk hi hc hc2
  by_cases h1 : k = 1
  ·subst h1
   have hl : lineR (stepL ⟨1, i, c⟩) = some (wGraph, [i, c]) := line2 wGraph_ok (a := i) (b := c) (by omega) hc2
   rw [hl]
   simp only
   rw [if_neg (by rintro ⟨h, _⟩; revert h; decide), if_pos (by first | exact ⟨rfl, rfl⟩ | simp)]
   rfl
  ·obtain rfl : k = 0 := by omega
   have hl : lineR (stepL ⟨0, i, c⟩) = some (wRow, [i, c]) := line2 wRow_ok (a := i) (b := c) (by omega) hc2
   rw [hl]
   simp only
   rw [if_pos (by first | exact ⟨rfl, rfl⟩ | simp)]
   rfl
theorem kids_read {tf : List Ln → Option (Tree × List Ln)} : ∀ (l : List Tree) (rest : List Ln), (∀ t ∈ l, ∀ rest, tf (lnT t ++ rest) = some (t, rest)) → kidsG tf l.length (l.flatMap lnT ++ rest) = some (l, rest)
 | [], rest, _ => rfl
 | t :: r, rest, h => by
  rw [List.length_cons, kidsG, List.flatMap_cons, List.append_assoc, h t (by simp)]
  simp only
  rw [kids_read r rest fun x hx => h x (by simp [hx])]
theorem lnT_kid {l : List Tree} {t : Tree} (h : t ∈ l) : (lnT t).length ≤ (l.flatMap lnT).length := by
 induction l with
 | nil => cases h
 | cons x r ih =>
  rw [List.flatMap_cons, List.length_append]
  cases h with
  | head => omega
  | tail _ h => have := ih h; omega
theorem depth_kid {l : List Tree} {t : Tree} (h : t ∈ l) : depthN t ≤ depthNs l := by
 induction l with
 | nil => cases h
 | cons x r ih =>
  rw [depthNs]
  cases h with
  | head => omega
  | tail _ h => have := ih h; omega
theorem read_tree : ∀ (t : Tree), formedB t = true → ∀ (lev : Int) (rest : List Ln) (f : Nat), lev + depthN t ≤ 4097 → (lnT t).length ≤ f → nodeF f lev [] (lnT t ++ rest) = some (t, rest) := by
 refine Tree.ind fun k s c a l ih hfo lev rest f hd hf => ?_
 rw [formedB_node, Bool.and_eq_true, Bool.and_eq_true] at hfo
 obtain ⟨⟨h1, h2⟩, h3⟩ := hfo
 rw [lnT_node] at hf ⊢
 rw [depthN_node] at hd
 simp only [List.length_append, List.length_map, List.length_cons] at hf
 rw [List.append_assoc, List.cons_append, steps_read lev s (fun x hx => by simpa using List.all_eq_true.mp h1 x hx) f [] _ (by omega), List.nil_append]
 obtain ⟨g, hg⟩ : ∃ g, f - s.length = g + 1 := ⟨f - s.length - 1, by omega⟩
 rw [hg, nodeF]
 have hk : ∀ t ∈ l, ∀ rest, (fun x => if lev + 1 ≤ 4096 then nodeF g (lev + 1) [] x else none) (lnT t ++ rest) = some (t, rest) := fun t ht rest => by
  have d1 := depth_kid ht
  have d2 := lnT_kid ht
  have d3 : 1 ≤ depthN t := by cases t; rw [depthN_node]; omega
  simp only
  rw [if_pos (by omega)]
  exact ih t ht (List.all_eq_true.mp h3 t ht) (lev + 1) rest g (by omega) (by omega)
 have hkr := kids_read (tf := fun x => if lev + 1 ≤ 4096 then nodeF g (lev + 1) [] x else none) l rest hk
 unfold Rf.tailOk at h2
 by_cases k0 : k = 0
 ·subst k0
  rw [if_pos rfl, Bool.and_eq_true, Bool.and_eq_true] at h2
  obtain ⟨⟨q1, q2⟩, q3⟩ := h2
  have q1 := of_decide_eq_true q1
  have q2 := of_decide_eq_true q2
  have q3 := of_decide_eq_true q3
  obtain rfl : l = [] := List.eq_nil_of_length_eq_zero q1
  subst q2 q3
  rw [tailL, if_neg (by decide), if_neg (by decide), line0 wClosed_ok]
  simp only
  rw [if_neg (by rintro ⟨h, _⟩; revert h; decide), if_neg (by rintro ⟨h, _⟩; revert h; decide), if_pos (by first | exact ⟨rfl, rfl⟩ | simp)]
  rfl
 ·rw [if_neg k0] at h2
  by_cases k1 : k = 1
  ·subst k1
   rw [if_pos rfl, Bool.and_eq_true, Bool.and_eq_true, insideB_iff, insideB_iff] at h2
   obtain ⟨⟨q1, q2⟩, q3⟩ := h2
   have q1 := of_decide_eq_true q1
   rw [q1] at hkr
   rw [tailL, if_pos rfl, line2 wSplit_ok (by omega) (by omega)]
   simp only
   rw [if_neg (by rintro ⟨h, _⟩; revert h; decide), if_neg (by rintro ⟨h, _⟩; revert h; decide), if_neg (by rintro ⟨h, _⟩; revert h; decide), if_pos (by first | exact ⟨rfl, rfl⟩ | simp), hkr]
   rfl
  ·rw [if_neg k1] at h2
   by_cases k2 : k = 2
   ·subst k2
    rw [if_pos rfl, Bool.and_eq_true, Bool.and_eq_true, Bool.and_eq_true] at h2
    obtain ⟨⟨⟨q0, q1⟩, q2⟩, q3⟩ := h2
    have q0 := of_decide_eq_true q0
    have q1 := of_decide_eq_true q1
    have q2 := of_decide_eq_true q2
    have q3 := of_decide_eq_true q3
    subst q2 q3
    rw [tailL, if_neg (by decide), if_pos rfl, line1 wCases_ok (by omega)]
    simp only
    rw [if_neg (by rintro ⟨h, _⟩; revert h; decide), if_neg (by rintro ⟨h, _⟩; revert h; decide), if_neg (by rintro ⟨h, _⟩; revert h; decide), if_neg (by rintro ⟨h, _⟩; revert h; decide), if_pos (by simp; omega)]
    rw [show (([(l.length : Int)] : List Int).getD 0 0).toNat = l.length from Int.toNat_natCast _, hkr]
   ·rw [if_neg k2] at h2
    cases h2
theorem stepL_text (x : RStep) : rstT x = stepL x ++ [10] := by
 unfold rstT stepL
 split <;> simp [wGraph, wRow]
theorem tailL_text (k c a : Int) (n : Nat) : tailT k c a n = tailL k c a n ++ [10] := by
 unfold tailT tailL
 split
 ·simp [wSplit]
 ·split <;> simp [wCases, wClosed]
theorem text_lines : ∀ t : Tree, textN t = (lnT t).flatMap fun w => w ++ [10] := by
 refine Tree.ind fun k s c a l ih => ?_
 have h1 : ∀ s : List RStep, (s.map rstT).flatten = (s.map stepL).flatMap fun w => w ++ [10] := fun s => by
  induction s with
  | nil => rfl
  | cons x r ihr => rw [List.map_cons, List.flatten_cons, List.map_cons, List.flatMap_cons, ihr, stepL_text]
 have h2 : ∀ l : List Tree, (∀ t ∈ l, textN t = (lnT t).flatMap fun w => w ++ [10]) → (l.map textN).flatten = (l.flatMap lnT).flatMap fun w => w ++ [10] := fun l => by
  induction l with
  | nil => intro _; rfl
  | cons x r ihr =>
   intro h
   rw [List.map_cons, List.flatten_cons, List.flatMap_cons, List.flatMap_append, h x (by simp), ihr fun t ht => h t (by simp [ht])]
 rw [textN_node, lnT_node, List.flatMap_append, List.flatMap_cons, h1, h2 l ih, tailL_text, List.append_assoc]
theorem lines_ok : ∀ t : Tree, ∀ w ∈ lnT t, ∀ x ∈ w, x ≠ 10 := by
 have two : ∀ (w : Ln) (a b : Int), (∀ x ∈ w, x ≠ 10 ∧ x ≠ 32) → ∀ x ∈ w ++ 32 :: (Lib.itoa a ++ 32 :: Lib.itoa b), x ≠ 10 := fun w a b hw x hx => by
  simp only [List.mem_append, List.mem_cons] at hx
  rcases hx with h | rfl | h | rfl | h
  ·exact (hw x h).1
  ·decide
  ·exact (itoa_ok a x h).1
  ·decide
  ·exact (itoa_ok b x h).1
 refine Tree.ind fun k s c a l ih w hw => ?_
 rw [lnT_node, List.mem_append, List.mem_cons] at hw
 rcases hw with hw | rfl | hw
 ·obtain ⟨x, -, rfl⟩ := List.mem_map.mp hw
  unfold stepL
  split
  ·exact two _ _ _ wGraph_ok
  ·exact two _ _ _ wRow_ok
 ·unfold tailL
  split
  ·exact two _ _ _ wSplit_ok
  ·split
   ·intro x hx
    simp only [List.mem_append, List.mem_cons] at hx
    rcases hx with h | rfl | h
    ·exact (wCases_ok x h).1
    ·decide
    ·exact (itoa_ok _ x h).1
   ·exact fun x hx => (wClosed_ok x hx).1
 ·obtain ⟨t, ht, hw⟩ := List.mem_flatMap.mp hw
  exact ih t ht w hw
theorem text_split (t : Tree) : spC 10 (textN t) = lnT t ++ [[]] := by
 rw [text_lines, spC_lines _ (lines_ok t)]
theorem parse_text (t : Tree) (hv : validB t = true) (hl : (textN t).length ≤ 65536) : parseN (textN t) = (t, 0) := by
 unfold validB at hv
 rw [Bool.and_eq_true, Bool.and_eq_true] at hv
 obtain ⟨⟨h1, h2⟩, h3⟩ := hv
 have h1' := of_decide_eq_true h1
 have hr : treeF ((spC 10 (textN t)).length + 1) 1 (spC 10 (textN t)) = some (t, [[]]) := by
  rw [treeF, if_pos (by omega), text_split]
  exact read_tree t h3 1 [[]] _ (by omega) (by simp; omega)
 have hf : Pur.formatN t = (textN t, 0) := by
  unfold Pur.formatN
  rw [if_pos (by unfold validB; rw [h1, h2, h3]; rfl), if_neg (by omega)]
 unfold parseN
 rw [if_neg (by omega), hr]
 simp only
 rw [if_pos hf]
theorem parse_format {t : Tree} {F : List UInt8} (h : Pur.formatN t = (F, 0)) : parseN F = (t, 0) := by
 unfold Pur.formatN at h
 split at h
 ·rename_i hv
  split at h
  ·cases h
  ·rename_i hl
   injection h with h _
   subst h
   exact parse_text t hv (by omega)
 ·cases h
theorem format_parse {s : List UInt8} {t : Tree} (h : parseN s = (t, 0)) : Pur.formatN t = (s, 0) ∧ validB t = true ∧ wt t ≤ 65536 := by
 have h1 : Pur.formatN t = (s, 0) := by
  unfold parseN at h
  split at h
  ·cases h
  ·split at h
   ·split at h
    ·rename_i hf
     injection h with h _
     subst h
     exact hf
    ·cases h
   ·cases h
 have h2 : validB t = true := by
  unfold Pur.formatN at h1
  split at h1
  ·assumption
  ·cases h1
 refine ⟨h1, h2, ?_⟩
 unfold validB at h2
 rw [Bool.and_eq_true, Bool.and_eq_true] at h2
 exact of_decide_eq_true h2.1.2
end Rf
end Go.Proofs.YtaleoeblooeglaaGreatDoor
namespace Go.Proofs.YtaleoeblooeglaaGreatDoor
namespace Pur
open Go.RowKit
attribute [local go_sem] evOps evOp evOpV evRun evK argF List.map hintAt stripped get put tmpsOf tmpOf tmpO tmpL tmpP conds ev cond_true cond_false Nat.beq Nat.ble Nat.add quiet After thenR blockR IfD List.append_eq List.nil_append List.cons_append evInt exactI_a exactI_b exactI_c exactI_d exactI_e exactI_f evBin evStr evBool evUn guardC calm quiet.isCallK evPick List.getElem?_cons_zero List.getElem?_cons_succ fromCells fromPVs cellsOf List.all oneCell List.length_cons List.length_nil mkAgg plains List.drop List.take List.getD Option.getD_some bo1 bo2 ba1 ba2 bn1 bn2 kk_i64 kk_u8 kk_i32 kk_u64 setAt List.set Nat.reduceAdd Nat.reduceMul evCall safeCall refsOf refsIn scalarA scalar scalarL thawL mapAll thawArg thawRef after freeze RetD RetE evResult evRess evRes1 thaw_pv mkTup nilOf_a nilOf_b nilOf_bb nilOf_c nilOf_d nilOf_e nilOf_f nilOf_g nilOf_h nilOf_i nilOf_j nilOf_k nilOf_l nilOf_m eqLeaf_a eqLeaf_b eqLeaf_c eqOffs evMM bytesOf evOpsF AfterF footOf footRefs notIn indepF footAt freeOk still evParts fillA zeros intOfA boundA srcOf List.isEmpty appNil_0 appNil_1 appNil_2 Int.reduceToNat Nat.mul_one Nat.reduceSub evC evOpsT evOpsTF autoH tabHint look hintD strip guarded RetPD RetRD mpLen keysOk leafKA leafK bitI nilOf_n nilOf_o Bool.or_false Bool.or_true Bool.and_true Bool.and_false Nat.blt renF renM renB renV idxOf solF solM solA solV thawRef ev1
section
open Rf
def c7 : ACode := (⟨_, by conv => (lhs; reduce; try simp only [lt1, Int.cast_ofNat_Int, Int.reduceNegSucc, UInt8.reduceOfNat])⟩ : {x // codeOf Tryz.prog 7 (fun _ => false) = some x}).1
theorem fn7 : fnOf Tryz.prog 7 (fun _ => false) = some (c7, [.t 4], 66, true) := by kernel_rfl
theorem format_len (t : Tree) : (formatN t).1.length ≤ 65536 := by
 unfold formatN
 split
 ·split
  ·simp
  ·simp only
   omega
 ·simp
set_option maxHeartbeats 4000000 in
theorem returns_ok (t : Tree) (s : List UInt8) (ht : Wide 1048576 t) (hs : s.length ≤ 1048576) : PureOK ctx 7 [treeP t, .str s] (.bool true) := by
  have h0 := awake_ok
  have s1 := smallW_ok t ht 300 (by omega) (by omega)
  have e1 : ∀ x : Tree, treeP x = .agg [.int .i64 x.kind, rstepsP x.steps, .int .i64 x.cell, .int .i64 x.pos, kidsP x.kids] := fun _ => rfl
  by_cases c1 : (wt t : Int) ≤ 300
  · rw [decide_eq_true c1] at s1
    by_cases c2 : s.length > 2000
    · rw [e1 t] at *
      refine pure_body' (C := ctx) (Fn.of fn7 rfl) rfl ?_
      unfold c7
      repeat' (first
        | ((with_reducible first | show VCs _ | show All _); simp [vb, h0, s1] <;> omega)
        | exact (rfl : some _ = _)
        | (fail_if_success refine awL ?_
           refine evTH [(11, fun _ => some (.bool true))] [(16, { val := some (.pv (.bool true)) })] ?_
           repeat1' dsimp only [c7, go_sem]
           first
           | refine aw4 ?_ ?_ rfl ?_
           | apply aw3
           | apply aw2
           | (refine awB (fun hc => ?_) fun hc => ?_ <;> first | (cases hc; done) | (exfalso; simp [h0, s1] at hc <;> omega) | (try simp only [bn] at hc; try contradiction))
           | skip))
    · have hfo := format_ok t (by omega)
      have hfl := format_len t
      have hpf : (formatN t).2 = 0 → parseN (formatN t).1 = (t, 0) := fun h => parse_format (F := (formatN t).1) (by rw [← h])
      have hp1 := parse_ok (formatN t).1 (by omega)
      have hp2 := parse_ok s (by omega)
      have hback : (parseN s).2 = 0 → _ := fun h => format_parse (s := s) (t := (parseN s).1) (by rw [← h])
      have hsm := same_ok t t (by omega) (by omega) true (by simp)
      generalize formatN t = F at *
      obtain ⟨F, n⟩ := F
      generalize parseN s = q at *
      obtain ⟨u, e⟩ := q
      simp only at hfo hfl hpf hp1 hp2 hback
      by_cases hn : n = 0
      · subst hn
        rw [hpf rfl] at hp1
        simp only at hp1
        by_cases he : e = 0
        · subst he
          obtain ⟨b1, b2, b3⟩ := hback rfl
          have hf2 := format_ok u (by omega)
          have hv2 := valid_ok u (by omega)
          rw [b1] at hf2
          rw [b2] at hv2
          simp only at hf2
          rw [e1 t, e1 u] at *
          refine pure_body' (C := ctx) (Fn.of fn7 rfl) rfl ?_
          unfold c7
          repeat' (first
            | ((with_reducible first | show VCs _ | show All _); simp [vb, h0, s1, hfo, hp1, hp2, hsm, hf2, hv2] <;> omega)
            | exact (rfl : some _ = _)
            | (fail_if_success refine awL ?_
               refine evTH [(11, fun _ => some (.bool true))] [(16, { val := some (.pv (.bool true)) }), (25, { val := some (.pv (.tup [.str F, .int .i64 0])) }), (32, { val := some (.pv (.tup [.agg [.int .i64 t.kind, rstepsP t.steps, .int .i64 t.cell, .int .i64 t.pos, kidsP t.kids], .int .i64 0])) }), (40, { val := some (.pv (.bool true)) }), (45, { val := some (.pv (.tup [.agg [.int .i64 u.kind, rstepsP u.steps, .int .i64 u.cell, .int .i64 u.pos, kidsP u.kids], .int .i64 0])) }), (52, { val := some (.pv (.tup [.str s, .int .i64 0])) }), (64, { val := some (.pv (.bool true)) })] ?_
               repeat1' dsimp only [c7, go_sem]
               first
               | refine aw4 ?_ ?_ rfl ?_
               | apply aw3
               | apply aw2
               | (refine awB (fun hc => ?_) fun hc => ?_ <;> first | (cases hc; done) | (exfalso; simp [h0, s1, hfo, hp1, hp2, hsm, hf2, hv2] at hc <;> omega) | (try simp only [bn] at hc; try contradiction))
               | skip))
          simp
        · rw [e1 t, e1 u] at *
          refine pure_body' (C := ctx) (Fn.of fn7 rfl) rfl ?_
          unfold c7
          repeat' (first
            | ((with_reducible first | show VCs _ | show All _); simp [vb, h0, s1, hfo, hp1, hp2, hsm] <;> omega)
            | exact (rfl : some _ = _)
            | (fail_if_success refine awL ?_
               refine evTH [(11, fun _ => some (.bool true))] [(16, { val := some (.pv (.bool true)) }), (25, { val := some (.pv (.tup [.str F, .int .i64 0])) }), (32, { val := some (.pv (.tup [.agg [.int .i64 t.kind, rstepsP t.steps, .int .i64 t.cell, .int .i64 t.pos, kidsP t.kids], .int .i64 0])) }), (40, { val := some (.pv (.bool true)) }), (45, { val := some (.pv (.tup [.agg [.int .i64 u.kind, rstepsP u.steps, .int .i64 u.cell, .int .i64 u.pos, kidsP u.kids], .int .i64 e])) })] ?_
               repeat1' dsimp only [c7, go_sem]
               first
               | refine aw4 ?_ ?_ rfl ?_
               | apply aw3
               | apply aw2
               | (refine awB (fun hc => ?_) fun hc => ?_ <;> first | (cases hc; done) | (exfalso; simp [h0, s1, hfo, hp1, hp2, hsm] at hc <;> omega) | (try simp only [bn] at hc; try contradiction))
               | skip))
      · by_cases he : e = 0
        · subst he
          obtain ⟨b1, b2, b3⟩ := hback rfl
          have hf2 := format_ok u (by omega)
          have hv2 := valid_ok u (by omega)
          rw [b1] at hf2
          rw [b2] at hv2
          simp only at hf2
          rw [e1 t, e1 u] at *
          refine pure_body' (C := ctx) (Fn.of fn7 rfl) rfl ?_
          unfold c7
          repeat' (first
            | ((with_reducible first | show VCs _ | show All _); simp [vb, h0, s1, hfo, hp2, hf2, hv2] <;> omega)
            | exact (rfl : some _ = _)
            | (fail_if_success refine awL ?_
               refine evTH [(11, fun _ => some (.bool true))] [(16, { val := some (.pv (.bool true)) }), (25, { val := some (.pv (.tup [.str F, .int .i64 n])) }), (45, { val := some (.pv (.tup [.agg [.int .i64 u.kind, rstepsP u.steps, .int .i64 u.cell, .int .i64 u.pos, kidsP u.kids], .int .i64 0])) }), (52, { val := some (.pv (.tup [.str s, .int .i64 0])) }), (64, { val := some (.pv (.bool true)) })] ?_
               repeat1' dsimp only [c7, go_sem]
               first
               | refine aw4 ?_ ?_ rfl ?_
               | apply aw3
               | apply aw2
               | (refine awB (fun hc => ?_) fun hc => ?_ <;> first | (cases hc; done) | (exfalso; simp [h0, s1, hfo, hp2, hf2, hv2] at hc <;> omega) | (try simp only [bn] at hc; try contradiction))
               | skip))
          simp
        · rw [e1 t, e1 u] at *
          refine pure_body' (C := ctx) (Fn.of fn7 rfl) rfl ?_
          unfold c7
          repeat' (first
            | ((with_reducible first | show VCs _ | show All _); simp [vb, h0, s1, hfo, hp2] <;> omega)
            | exact (rfl : some _ = _)
            | (fail_if_success refine awL ?_
               refine evTH [(11, fun _ => some (.bool true))] [(16, { val := some (.pv (.bool true)) }), (25, { val := some (.pv (.tup [.str F, .int .i64 n])) }), (45, { val := some (.pv (.tup [.agg [.int .i64 u.kind, rstepsP u.steps, .int .i64 u.cell, .int .i64 u.pos, kidsP u.kids], .int .i64 e])) })] ?_
               repeat1' dsimp only [c7, go_sem]
               first
               | refine aw4 ?_ ?_ rfl ?_
               | apply aw3
               | apply aw2
               | (refine awB (fun hc => ?_) fun hc => ?_ <;> first | (cases hc; done) | (exfalso; simp [h0, s1, hfo, hp2] at hc <;> omega) | (try simp only [bn] at hc; try contradiction))
               | skip))
  · rw [decide_eq_false c1] at s1
    rw [e1 t] at *
    refine pure_body' (C := ctx) (Fn.of fn7 rfl) rfl ?_
    unfold c7
    repeat' (first
      | ((with_reducible first | show VCs _ | show All _); simp [vb, h0, s1] <;> omega)
      | exact (rfl : some _ = _)
      | (fail_if_success refine awL ?_
         refine evTH [(11, fun _ => some (.bool true))] [(16, { val := some (.pv (.bool false)) })] ?_
         repeat1' dsimp only [c7, go_sem]
         first
         | refine aw4 ?_ ?_ rfl ?_
         | apply aw3
         | apply aw2
         | (refine awB (fun hc => ?_) fun hc => ?_ <;> first | (cases hc; done) | (exfalso; simp [h0, s1] at hc <;> omega) | (try simp only [bn] at hc; try contradiction))
         | skip))
theorem returns_typed (qs : List PV) (h : TypedAll Tryz.prog 1048576 [25, 9] qs) : PureOK ctx 7 qs (.bool true) := by
 match qs, h with
 | [p, q], h =>
  obtain ⟨h1, h2, -⟩ := h
  obtain ⟨t, rfl, ht⟩ := tTree h1
  obtain ⟨n, h3⟩ := ty_leaf h2 (fun fs h => by rw [Tryz.underlying9] at h; cases h)
  obtain ⟨x, hx, hl⟩ := ty_str h3 Tryz.underlying9
  simp at hx
  subst hx
  exact returns_ok t x ht hl
end
end Pur
end Go.Proofs.YtaleoeblooeglaaGreatDoor
namespace Go.Proofs.YtaleoeblooeglaaGreatDoor.lawReturns
open Go.ChangeShapes Go.WideShapes Go.ChangeAt Go.RowKit
theorem contract (H : Type) (enc : TypeId × Value → H) (W : World) (base : Nat) (args : Array Value) (ds gs : List (DataW H)) (before : List MemPlace)
  (hval : ∀ (j : Nat) t v, Tryz.f7.params[j]? = some t → args[j]? = some v → Value.okWide Tryz.prog W .any base t v)
  (hW : DataW.Whole enc Tryz.prog Tryz.f7.params.toList Rows.refutationReturnsSpec.vars false W args.toList ds gs before) (hk : Rows.uptoSmall H (ds ++ gs) = true) (hL : laidMetH Tryz.prog Rows.refutationReturnsUptoRow.laid W) (hsh : W.ShapedOpen Tryz.prog) :
  Calls Tryz.prog 7 args W fun e W' => ∃ v, e = .returned v ∧ Rows.refutationReturnsSpec.post enc Tryz.prog Tryz.f7 false true false false W args v W' := by
 have hW' := hW
 obtain ⟨p, q, hA0, hV, rfl, hfz, hnd⟩ := hW
 have hA : DataW.TrodAll enc Tryz.prog W 0 (fun _ => true) true [25, 9] args.toList ds p := hA0
 obtain ⟨rfl, rfl⟩ := trodVars_none hV
 obtain ⟨qs, hty, hps⟩ := Pur.open_all (B := 1048576) (Sm := (fun d : DataW H => Rows.uptoBulk d ≤ 1048576)) Pur.Meas.upto (L := [25, 3, 9, 22, 66, 23]) (r := .any) (b := base) (by kernel_rfl) [25, 9] args.toList ds p (of_decide_eq_true rfl) (fun j t v h1 h2 => hval j t v (by
  rw [Tryz.params7, List.getElem?_toArray]; exact h1) (by rw [Array.getElem?_toList] at h2; exact h2)) hA (fun d hd => Pur.upto_all hk d (List.mem_append_left _ hd))
 have hst : ∀ (W' : World) (sp : Nat → Bool), Below W.heap.size W W' → (∀ x ∈ p ++ [], sp x.block = true) → DataW.TrodAll enc Tryz.prog W' 0 sp true [25, 9] args.toList ds p := fun W' sp hb hsp =>
  Pur.stay_all (by kernel_rfl) _ _ _ _ (of_decide_eq_true (by kernel_rfl)) (fun x hx => Pur.same_below hb (hW'.lt x (List.mem_append_left _ hx))) (fun x hx => hsp x (List.mem_append_left _ hx)) hA
 have hE := Cd.env_of hL hsh
 obtain ⟨v0, vs0, d0, ds0, p0, q0, hargs, rfl, hp0, h0, r0⟩ := trodAll_cons hA
 obtain ⟨v1, vs1, d1, ds1, p1, q1, rfl, rfl, hp1, h1, r1⟩ := trodAll_cons r0
 obtain ⟨rfl, rfl, rfl⟩ := trodAll_nil r1
 obtain rfl : args = #[v0, v1] := by cases args; simp_all
 refine ((Pur.returns_typed qs hty).2 W (Pur.Here W) [v0, v1] hE (fun g h => h) hps).mono fun e W' hh => ?_
 obtain ⟨v, he, hb, hv⟩ := hh
 have := Pur.is_bool_inv hv
 subst this
 subst he
 exact ⟨_, rfl, post_below (pa := p) (pv := []) hW' (fun _ _ _ => trodAll_cons_mk (shut_bool Tryz.underlying4 _) trodAll_mk0)
  (fun sp hsp => hst W' sp hb hsp) (fun _ _ => rfl) rfl
  hb (ok_one (by kernel_rfl) rfl (okWide_bool_mk Tryz.underlying4 _))⟩
def start : Array Value := #[.agg #[.int .i64 0, .slice none 0 0, .int .i64 0, .int .i64 0, .slice none 0 0], .string ⟨#[]⟩]
theorem met (os : Os) : laidMet Tryz.prog Rows.refutationReturnsUptoRow.laid ((World.laidAll Tryz.prog os Rows.refutationReturnsUptoRow.laid).forCall (fun _ _ => 0) ⟨#[], start, []⟩).memory :=
 laidMet_laidAll _ (by kernel_rfl) (by kernel_rfl)
theorem reads (os : Os) {H : Type} (enc : TypeId × Value → H) : ∃ places, DataW.whole enc Tryz.prog ((World.laidAll Tryz.prog os Rows.refutationReturnsUptoRow.laid).forCall (fun _ _ => 0) ⟨#[], start, []⟩).memory Tryz.f7.params.toList Rows.refutationReturnsSpec.vars false start.toList 8 = some ([.agg [.lit (.int .i64 0), .nil, .lit (.int .i64 0), .lit (.int .i64 0), .nil], .lit (.string [])], [], places) :=
 ⟨[], by kernel_rfl⟩
set_option maxRecDepth 100000 in
theorem lifted (os : Os) (started : os.Started) (H : Type) (enc : TypeId × Value → H) (F : Stop.Interp) :
  ReturnsInHanded {} Tryz.checked os 7 .any ((Rows.OpenSpec.upto Rows.refutationReturnsSpec).preRow enc Tryz.prog Tryz.f7 Rows.refutationReturnsUptoRow.domain false Rows.refutationReturnsUptoRow.laid) (((Rows.OpenSpec.upto Rows.refutationReturnsSpec).at F).post enc Tryz.prog Tryz.f7 false true false false) := by
 obtain ⟨places, hx⟩ := reads os enc
 refine returnsInHanded_of_row (C := Tryz.checked) (s := (Rows.OpenSpec.upto Rows.refutationReturnsSpec)) Cd.own started (by kernel_rfl) Tryz.func7
  (witness_row_atRef (enc := enc) (C := Tryz.checked) false (World.laidAll Tryz.prog os Rows.refutationReturnsUptoRow.laid) start (World.laidAll_os _ _ _) (by kernel_rfl) (by kernel_rfl) (by kernel_rfl)
   (OpenSpec.preRow_of_cond 8 hx (by kernel_rfl) (fun k hk => by cases hk; kernel_rfl) (by kernel_rfl) (met os))) ?_
 intro W base args ds gs before hval hW _ hk _ hL hsh _
 exact contract H enc W base args ds gs before hval hW (hk _ rfl) hL hsh
theorem said : Rows.RefutationReturnsUptoSaid :=
 OpenClaim.holds_of_cond 7 Tryz.f7 rfl rfl rfl rfl rfl rfl rfl ⟨rfl, rfl, rfl, rfl, rfl⟩ rfl rfl rfl rfl rfl (by kernel_rfl) Tryz.func7 (by kernel_rfl)
  (of_decide_eq_true (by kernel_rfl)) (by unfold Func.isWrapper; rw [if_neg (of_decide_eq_false (by kernel_rfl))]; exact ⟨rfl, rfl⟩)
  (fun os started H enc _ F => by rw [OpenClaim.pre_eq_preRow]; exact lifted os started H enc F)
theorem plain (f : FuncId) (fn : Func) (hf : Tryz.pinned.checked.prog.funcNamed "confluent/confluentlaw21.RefutationReturns" = some f) (hfn : Tryz.pinned.checked.prog.funcs[f]? = some fn) :
  true = Tryz.pinned.checked.prog.looks [] ∧ ∀ (j : Nat) t, fn.params[j]? = some t → Tryz.pinned.checked.prog.wantsStandIn t = false := by
 obtain rfl : f = 7 := Option.some.inj ((show Tryz.prog.funcNamed "confluent/confluentlaw21.RefutationReturns" = some 7 by kernel_rfl).symm.trans hf) |>.symm
 obtain rfl : fn = Tryz.f7 := (Option.some.inj (Tryz.func7.symm.trans hfn)).symm
 refine ⟨by kernel_rfl, fun j t ht => ?_⟩
 rw [Tryz.params7] at ht
 have hm := Array.mem_of_getElem? ht
 simp only [List.mem_toArray, List.mem_cons, List.not_mem_nil, or_false] at hm
 rcases hm with rfl | rfl
 ·exact (by kernel_rfl : Tryz.prog.wantsStandIn 25 = false)
 ·exact (by kernel_rfl : Tryz.prog.wantsStandIn 9 = false)
theorem proved : Rows.RefutationReturnsUptoCardSaid :=
 Claim7.holds_tied_plain_at .later [] _ _ _ _ said (fun _ h => by cases h) (by kernel_rfl) (fun _ h => by cases h) refutationReturnsUpto_row_tie rfl ⟨rfl, rfl⟩ (by kernel_rfl) rfl plain (by kernel_rfl)
end Go.Proofs.YtaleoeblooeglaaGreatDoor.lawReturns
