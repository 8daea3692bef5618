/-
  RefutationSmaller: a smaller system has no more answers. (Grow RfQ1 RfQ2 RfQ3 RfN RfN2 RfO RfO2 RfP2 RfLs RfTs2 RfCdSmaller)
-/
import Derived.Test.YtaleoeblooeglaaGreatDoorS04
import Derived.Shelf.Spec.SlicesGrow
set_option maxRecDepth 10000
set_option linter.unusedSimpArgs false
set_option linter.unusedVariables false
namespace Go.Proofs.YtaleoeblooeglaaGreatDoor
section
open Go.Shelf
def growRen:Go.Shelf.Ren:=⟨fun|4=>108|n=>n,fun|0=>0|3=>3|4=>4|9=>9|20=>20|22=>32|25=>62|n=>n,fun|n=>n⟩
theorem growLays:Go.Proofs.Lays8.n4 Tryz.prog growRen:={
 mixed:=by kernel_rfl
 f4 := ⟨"slices.Grow[[]confluent/api.Row,confluent/api.Row]", by rfl, Tryz.func108.trans (congrArg some (by kernel_rfl))⟩
 t0:=Tryz.underlying0
 a0:=Tryz.isAgg0
 z0:=Tryz.sizeOf0
 v0:=Tryz.zeroValue0
 t3:=Tryz.underlying3
 a3:=Tryz.isAgg3
 z3:=Tryz.sizeOf3
 v3:=Tryz.zeroValue3
 t4:=Tryz.underlying4
 a4:=Tryz.isAgg4
 z4:=Tryz.sizeOf4
 v4:=Tryz.zeroValue4
 t9:=Tryz.underlying9
 a9:=Tryz.isAgg9
 z9:=Tryz.sizeOf9
 v9:=Tryz.zeroValue9
 t20:=Tryz.underlying20
 a20:=Tryz.isAgg20
 z20:=Tryz.sizeOf20
 v20:=Tryz.zeroValue20
 t22:=Tryz.underlying32
 a22:=Tryz.isAgg32
 z22:=Tryz.sizeOf32
 v22:=Tryz.zeroValue32}
namespace Pur
open Go.RowKit
attribute [local go_sem] evOps evOp evOpV evRun evK argF List.map hintAt stripped get put tmpsOf tmpOf tmpO tmpL tmpP conds ev cond_true cond_false Nat.beq Nat.ble Nat.add quiet After thenR blockR IfD List.append_eq List.nil_append List.cons_append evInt exactI_a exactI_b exactI_c exactI_d exactI_e exactI_f evBin evStr evBool evUn guardC calm quiet.isCallK evPick List.getElem?_cons_zero List.getElem?_cons_succ fromCells fromPVs cellsOf List.all oneCell List.length_cons List.length_nil mkAgg plains List.drop List.take List.getD Option.getD_some bo1 bo2 ba1 ba2 bn1 bn2 kk_i64 kk_u8 kk_i32 kk_u64 setAt List.set Nat.reduceAdd Nat.reduceMul evCall safeCall refsOf refsIn scalarA scalar scalarL thawL mapAll thawArg thawRef after freeze RetD RetE evResult evRess evRes1 thaw_pv mkTup nilOf_a nilOf_b nilOf_bb nilOf_c nilOf_d nilOf_e nilOf_f nilOf_g nilOf_h nilOf_i nilOf_j nilOf_k nilOf_l nilOf_m eqLeaf_a eqLeaf_b eqLeaf_c eqOffs evMM bytesOf evOpsF AfterF footOf footRefs notIn indepF footAt freeOk still evParts fillA zeros intOfA boundA srcOf List.isEmpty appNil_0 appNil_1 appNil_2 Int.reduceToNat Nat.mul_one Nat.reduceSub evC evOpsT evOpsTF autoH tabHint look hintD strip guarded RetPD RetRD mpLen keysOk leafKA leafK bitI nilOf_n nilOf_o Bool.or_false Bool.or_true Bool.and_true Bool.and_false Nat.blt renF renM renB renV idxOf solF solM solA solV thawRef ev1
open Rf
theorem growInfo:∃i0 z,Tryz.prog.info? 62=some i0∧i0.zero=some z∧i0.size=2∧i0.bytes=32∧z.cells.size=2:=by
 have h:(Tryz.prog.info? 62).map (fun i=>(i.size,i.bytes,i.zero.map fun z=>z.cells.size))=some (2,32,some 2):=by kernel_rfl
 cases hi:Tryz.prog.info? 62 with
 |none=>rw[hi]at h;cases h
 |some i0 =>
  rw[hi]at h;simp only[Option.map_some,Option.some.injEq,Prod.mk.injEq]at h;obtain⟨h1,h2,h3⟩:=h;cases hz:i0.zero with
  |none=>rw[hz]at h3;cases h3
  |some z =>
   rw[hz]at h3;exact⟨i0,z,rfl,hz,h1,h2,by simpa using h3⟩
theorem grow_nil:PureOK ctx 108 [.nilsl,.int .i64 0] .nilsl:=by
 refine PureOK.of_calls (by kernel_rfl) fun w S vs hE hl hp=>?_
 obtain⟨v,u,rfl,h1,h2⟩:=pw2 hp;cases h1;obtain rfl:=is_int_inv h2;refine(Any8.slices_Grow_room growLays none 0 0 0 w (by omega) (by omega) (by omega) (by omega)).mono fun e w' hh=>?_
 obtain⟨rfl,rfl⟩:=hh;exact⟨_,rfl,Below.refl _ _,fun _ _=>.nilsl⟩
theorem grow_ok (n:Nat) (h0:0<n) (hn:n≤1000000000) (μ:AM):RefOK ctx 108 [.pv .nilsl,.pv (.int .i64 n)] μ (.ref μ.length 0 0 0) (μ++[⟨[],0,2,62,false⟩]):=by
 refine⟨by kernel_rfl,fun w0 S γ w vs hW hp=>?_⟩;obtain⟨i0,z,hi,hz,hs,hb,hzc⟩:=growInfo;have hvs:vs=[.slice none 0 0,.int .i64 n]:=by
  have hl:=hp.len;match vs,hl with
  |[v,u],_ =>
   have h1:=inv_nilsl (hp.at_ 0 _ _ rfl rfl);have h2:=inv_int (hp.at_ 1 _ _ rfl rfl);rw[h1,h2]
 subst hvs;refine(Any8.slices_Grow_grow growLays i0 z hi hz (by omega) none 0 0 n [] w (by omega) (by omega) (by rw[hb];omega) (by omega) (by simp) (fun _=>rfl) (fun a h=>by cases h)).mono fun e w' hh=>?_
 obtain⟨he,hw⟩:=hh;rw[show growRen.t 25=62 from rfl]at he hw;obtain⟨hW1,hE1⟩:=hW.drew;have hge:=grownCap_ge w (0+n) 0 62;have hgm:=grownCap_le_maxLen w (0+n) 0 62 (by simp only[maxLen];omega);generalize hG:grownCap w (0+n) 0 62=G at *;obtain⟨hW2,hE2⟩:=hW1.new2 (avs:=[]) (cs:=(Builtin.zeroCells z.cells (0+n-0)++Builtin.zeroCells z.cells (G-(0+n))).toList) (elem:=62) 2 (by omega) (Nat.zero_le _) fun i x hx=>by simp at hx
 have hco:(Builtin.zeroCells z.cells (0+n-0)++Builtin.zeroCells z.cells (G-(0+n))).toList.toArray=[].toArray++Builtin.zeroCells z.cells (0+n-0)++Builtin.zeroCells z.cells (G-(0+n)):=by simp
 have hcl:(Builtin.zeroCells z.cells (0+n-0)++Builtin.zeroCells z.cells (G-(0+n))).toList.length=G*2:=by
  rw[Array.length_toList,Array.size_append,size_zeroCells,size_zeroCells,hzc];omega
 rw[hco,hcl]at hW2 hE2;subst he hw;exact⟨_,S,_,rfl,hE1.trans hE2,hW2,.ref _ _ _ _ _ _ ⟨w.heap.size,0,none⟩ G (newGh_self _ _ _) (Nat.le_refl _) ⟨rfl,Nat.zero_le _⟩ fun _=>.inl ⟨G,rfl,Nat.zero_add _,Nat.zero_le _,hgm⟩⟩
def c80:ACode:=(⟨_,by conv=>(lhs;reduce;try simp only[lt1,Int.cast_ofNat_Int,Int.reduceNegSucc,UInt8.reduceOfNat])⟩:{x // codeOf Tryz.prog 80 (fun _=>false)=some x}).1
theorem fn80:fnOf Tryz.prog 80 (fun _=>false)=some (c80,[.t 2],36,true):=by kernel_rfl
def lenS (L:List (List Rw)):Nat:=(L.map List.length).sum
theorem lenS_take (L:List (List Rw)) (k:Nat) (h:k<L.length):lenS (L.take (k+1))=lenS (L.take k)+(L.getD k []).length:=by
 rw[lenS,take_succ_getD L k [] h];simp[lenS]
theorem lenS_le (L:List (List Rw)) (k:Nat):lenS (L.take k)≤lenS L:=by
 have:=congrArg lenS (List.take_append_drop k L);simp only[lenS,List.map_append,List.sum_append]at this ⊢;omega
theorem flat_take (L:List (List Rw)) (k:Nat) (h:k<L.length):(L.take (k+1)).flatten=(L.take k).flatten++L.getD k []:=by
 rw[take_succ_getD L k [] h];simp
theorem flat_len (L:List (List Rw)):L.flatten.length=lenS L:=by
 rw[List.length_flatten];rfl
theorem cas_at (L:List (List Rw)) (k:Nat) (hk:k<L.length) (h:k<(L.flatMap casC).length):(L.flatMap casC)[k]'h= .sl (L.getD k []).length ((L.getD k []).flatMap rwC):=by
 have:=flatMap_get casC_len L k [] 0 hk (by omega);rw[Nat.mul_one,Nat.add_zero,List.getElem?_eq_getElem h]at this;exact Option.some.inj this
set_option maxHeartbeats 4000000 in
theorem concat_ok (L:List (List Rw)) (hL:L.length≤1000000) (hS:lenS L≤1000000000):PureOK ctx 80 [casP L] (rwsP L.flatten):=by
 have f1:=cas_len L;have hle:=lenS_le L;have hfl:=flat_len L;have loop1:∀{R:Exit→AF→AM→Prop} {x:ACode} {f:AF},Sub [(0,.pv (casP L)),(3,.pv (.int .i64 0)),(9,.pv (casP L)),(10,.pv (.int .i64 L.length)),(11,.pv (.int .i64 0))] f →
   (∀k,k≤L.length→Aw ctx (fun _=>false) 36 0 x (thenR (fun f' μ'=>k<L.length∧True∧Sub [(0,.pv (casP L)),(3,.pv (.int .i64 (lenS (L.take (k+1))))),(9,.pv (casP L)),(10,.pv (.int .i64 L.length)),(11,.pv (.int .i64 (k+1:Nat)))] f'∧∃junk,μ'=[]++junk) R) [(0,.pv (casP L)),(3,.pv (.int .i64 (lenS (L.take k)))),(9,.pv (casP L)),(10,.pv (.int .i64 L.length)),(11,.pv (.int .i64 k))] [])→Aw ctx (fun _=>false) 36 0 (.loop x) R f []:=fun hs st =>
  aw_forJ L.length (fun _=>True) (fun k=>[(0,.pv (casP L)),(3,.pv (.int .i64 (lenS (L.take k)))),(9,.pv (casP L)),(10,.pv (.int .i64 L.length)),(11,.pv (.int .i64 k))]) (fun _=>[]) trivial hs ⟨[],rfl⟩ (fun _=>⟨Nat.zero_le _,rfl,rfl⟩) fun k hk _=>st k hk
 by_cases h0:lenS L=0
 ·have:PureOK ctx 80 [casP L] .nilsl:=by
   have hg:=grow_nil;have hz:∀k,lenS (L.take k)=0:=fun k=>by have:=hle k;omega
   refine pure_body' (C:=ctx) (Fn.of fn80 rfl) rfl ?_;unfold c80;repeat' (first
    |((with_reducible first|show VCs _|show All _);simp[vb]<;>omega)
    |exact(rfl:some _=_)
    |(
     fail_if_success refine awL ?_
     refine evA ?_;repeat1' dsimp only[c80,casP,go_sem]
     first
     |refine aw4 ?_ ?_ rfl ?_
     |apply aw3
     |apply aw2
     |(refine awB (fun hc=>?_) fun hc=>?_<;>first|(cases hc;done)|(exfalso;simp at hc<;>omega)|(try simp only[bn]at hc;try contradiction))
     |skip))
   refine loop1 (by (repeat' (first|exact trivial|refine And.intro (by first|rfl|(simp[get,Nat.beq];done)|(simp[get,Nat.beq];omega)|(dsimp only[get];congr 1<;>first|rfl|omega|(simp;done)|(simp;omega))) ?_))) fun k hk=>?_
   by_cases hlt:k<L.length
   ·have e:=cas_at L k hlt;clear loop1;have hl:=lenS_take L k hlt;rw[hz,hz]at hl;rw[hz,hz];generalize L.getD k []=l at *;obtain rfl:l=[]:=List.eq_nil_of_length_eq_zero (by omega);repeat' (first
     |((with_reducible show VCs _);first|exact True.intro|(simp only[vb,lb];omega)|(simp only[vb,lb,e,f1,hlt];and_intros<;>first|omega|(simp<;>omega))|(simp[vb,e,f1,hlt]<;>omega))
     |((with_reducible show All _);first|exact True.intro|((try dsimp only[go_sem]);first|(simp[vb,e,f1,hlt]<;>omega)|(simp only[vb,and_true,true_implies];(repeat' (first|(with_reducible assumption)|(with_reducible apply And.intro)|intro _|((fail_if_success (with_reducible show(_:Int)≤_));assumption)))<;>first|omega|rfl|(simp only[ab,e,f1,hlt];done)|(simp[Nat.mul_one,e,f1,hlt]<;>omega)|(simp_all;done))))
     |exact(rfl:some _=_)
     |(
      fail_if_success refine awL ?_
      refine evH [(14,{val:=some (.pv (.sl 0 []))})] ?_;repeat1' dsimp only[c80,casP,go_sem]
      first
      |refine aw4 ?_ ?_ rfl ?_
      |apply aw3
      |apply aw2
      |(refine awB (fun hc=>?_) fun hc=>?_<;>first|(cases hc;done)|(exfalso;first|(simp at hc<;>omega)|(simp[e,f1,hlt]at hc;done))|(try simp only[bn]at hc;try contradiction))
      |skip))
    exact⟨hlt,trivial,by (repeat' (first|exact trivial|refine And.intro (by first|rfl|(simp[get,Nat.beq];done)|(simp[get,Nat.beq];omega)|(dsimp only[get];congr 1<;>first|rfl|omega|(simp;done)|(simp;omega))) ?_)),_,rfl⟩
   ·obtain rfl:k=L.length:=by omega
    rw[hz];repeat' (first
     |((with_reducible show VCs _);first|exact True.intro|(simp only[vb,lb];omega)|(simp only[vb,lb,hlt,hg];and_intros<;>first|omega|(simp<;>omega))|(simp[vb,hlt,hg]<;>omega))
     |((with_reducible show All _);first|exact True.intro|((try dsimp only[go_sem]);first|(simp[vb,hlt,hg]<;>omega)|(simp only[vb,and_true,true_implies];(repeat' (first|(with_reducible assumption)|(with_reducible apply And.intro)|intro _|((fail_if_success (with_reducible show(_:Int)≤_));assumption)))<;>first|omega|rfl|(simp only[ab,hlt,hg];done)|(simp[Nat.mul_one,hlt,hg]<;>omega)|(simp_all;done))))
     |exact(rfl:some _=_)
     |(
      fail_if_success refine awL ?_
      refine evT [(108,fun _=>some .nilsl)] ?_;repeat1' dsimp only[c80,casP,go_sem]
      first
      |refine aw4 ?_ ?_ rfl ?_
      |apply aw3
      |apply aw2
      |(refine awB (fun hc=>?_) fun hc=>?_<;>first|(cases hc;done)|(exfalso;first|(simp at hc<;>omega)|(simp[hlt,hg]at hc;done))|(try simp only[bn]at hc;try contradiction))
      |skip))
    refine aw_forJ L.length (fun _=>True) (fun k=>[(6,.pv .nilsl),(25,.pv (casP L)),(26,.pv (.int .i64 L.length)),(27,.pv (.int .i64 k))]) (fun _=>[]) trivial (by (repeat' (first|exact trivial|refine And.intro (by first|rfl|(simp[get,Nat.beq];done)|(simp[get,Nat.beq];omega)|(dsimp only[get];congr 1<;>first|rfl|omega|(simp;done)|(simp;omega))) ?_))) ⟨[],rfl⟩ (fun _=>⟨Nat.zero_le _,rfl,rfl⟩) fun k hk _=>?_
    by_cases hlt:k<L.length
    ·have e:=cas_at L k hlt;clear loop1;have hl:=lenS_take L k hlt;rw[hz,hz]at hl;generalize L.getD k []=l at *;obtain rfl:l=[]:=List.eq_nil_of_length_eq_zero (by omega);repeat' (first
      |((with_reducible show VCs _);first|exact True.intro|(simp only[vb,lb];omega)|(simp only[vb,lb,e,f1,hlt];and_intros<;>first|omega|(simp<;>omega))|(simp[vb,e,f1,hlt]<;>omega))
      |((with_reducible show All _);first|exact True.intro|((try dsimp only[go_sem]);first|(simp[vb,e,f1,hlt]<;>omega)|(simp only[vb,and_true,true_implies];(repeat' (first|(with_reducible assumption)|(with_reducible apply And.intro)|intro _|((fail_if_success (with_reducible show(_:Int)≤_));assumption)))<;>first|omega|rfl|(simp only[ab,e,f1,hlt];done)|(simp[Nat.mul_one,e,f1,hlt]<;>omega)|(simp_all;done))))
      |exact(rfl:some _=_)
      |(
       fail_if_success refine awL ?_
       refine evH [(30,{val:=some (.pv (.sl 0 []))}),(33,{mode:=2})] ?_;repeat1' dsimp only[c80,casP,go_sem]
       first
       |refine aw4 ?_ ?_ rfl ?_
       |apply aw3
       |apply aw2
       |(refine awB (fun hc=>?_) fun hc=>?_<;>first|(cases hc;done)|(exfalso;first|(simp at hc<;>omega)|(simp[e,f1,hlt]at hc;done))|(try simp only[bn]at hc;try contradiction))
       |skip))
     exact⟨hlt,trivial,by (repeat' (first|exact trivial|refine And.intro (by first|rfl|(simp[get,Nat.beq];done)|(simp[get,Nat.beq];omega)|(dsimp only[get];congr 1<;>first|rfl|omega|(simp;done)|(simp;omega))) ?_)),_,rfl⟩
    ·obtain rfl:k=L.length:=by omega
     repeat' (first
      |((with_reducible show VCs _);first|exact True.intro|(simp only[vb,lb];omega)|(simp only[vb,lb,hlt];and_intros<;>first|omega|(simp<;>omega))|(simp[vb,hlt]<;>omega))
      |((with_reducible show All _);first|exact True.intro|((try dsimp only[go_sem]);first|(simp[vb,hlt]<;>omega)|(simp only[vb,and_true,true_implies];(repeat' (first|(with_reducible assumption)|(with_reducible apply And.intro)|intro _|((fail_if_success (with_reducible show(_:Int)≤_));assumption)))<;>first|omega|rfl|(simp only[ab,hlt];done)|(simp[Nat.mul_one,hlt]<;>omega)|(simp_all;done))))
      |exact(rfl:some _=_)
      |(
       fail_if_success refine awL ?_
       refine evA ?_;repeat1' dsimp only[c80,casP,go_sem]
       first
       |refine aw4 ?_ ?_ rfl ?_
       |apply aw3
       |apply aw2
       |(refine awB (fun hc=>?_) fun hc=>?_<;>first|(cases hc;done)|(exfalso;first|(simp at hc<;>omega)|(simp[hlt]at hc;done))|(try simp only[bn]at hc;try contradiction))
       |skip))
  have hc:=this.canon_res 1;have hn:L.flatten=[]:=List.eq_nil_of_length_eq_zero (by omega);rw[hn];exact hc
 ·have hg:=grow_ok (lenS L) (by omega) hS [];refine pure_body' (C:=ctx) (Fn.of fn80 rfl) rfl ?_;unfold c80;repeat' (first
   |((with_reducible first|show VCs _|show All _);simp[vb]<;>omega)
   |exact(rfl:some _=_)
   |(
    fail_if_success refine awL ?_
    refine evA ?_;repeat1' dsimp only[c80,casP,go_sem]
    first
    |refine aw4 ?_ ?_ rfl ?_
    |apply aw3
    |apply aw2
    |(refine awB (fun hc=>?_) fun hc=>?_<;>first|(cases hc;done)|(exfalso;simp at hc<;>omega)|(try simp only[bn]at hc;try contradiction))
    |skip))
  refine loop1 (by (repeat' (first|exact trivial|refine And.intro (by first|rfl|(simp[get,Nat.beq];done)|(simp[get,Nat.beq];omega)|(dsimp only[get];congr 1<;>first|rfl|omega|(simp;done)|(simp;omega))) ?_))) fun k hk=>?_
  by_cases hlt:k<L.length
  ·have e:=cas_at L k hlt;clear loop1;have hl:=lenS_take L k hlt;have hl2:=hle (k+1);rw[hl]at hl2 ⊢;clear hl hle hfl;generalize L.getD k []=l at *;generalize lenS (L.take k)=sm at *;repeat' (first
    |((with_reducible show VCs _);first|exact True.intro|(simp only[vb,lb];omega)|(simp only[vb,lb,e,f1,hlt];and_intros<;>first|omega|(simp<;>omega))|(simp[vb,e,f1,hlt]<;>omega))
    |((with_reducible show All _);first|exact True.intro|((try dsimp only[go_sem]);first|(simp[vb,e,f1,hlt]<;>omega)|(simp only[vb,and_true,true_implies];(repeat' (first|(with_reducible assumption)|(with_reducible apply And.intro)|intro _|((fail_if_success (with_reducible show(_:Int)≤_));assumption)))<;>first|omega|rfl|(simp only[ab,e,f1,hlt];done)|(simp[Nat.mul_one,e,f1,hlt]<;>omega)|(simp_all;done))))
    |exact(rfl:some _=_)
    |(
     fail_if_success refine awL ?_
     refine evH [(14,{val:=some (.pv (.sl l.length (l.flatMap rwC)))})] ?_;repeat1' dsimp only[c80,casP,go_sem]
     first
     |refine aw4 ?_ ?_ rfl ?_
     |apply aw3
     |apply aw2
     |(refine awB (fun hc=>?_) fun hc=>?_<;>first|(cases hc;done)|(exfalso;first|(simp at hc<;>omega)|(simp[e,f1,hlt]at hc;done))|(try simp only[bn]at hc;try contradiction))
     |skip))
   exact⟨hlt,trivial,by (repeat' (first|exact trivial|refine And.intro (by first|rfl|(simp[get,Nat.beq];done)|(simp[get,Nat.beq];omega)|(dsimp only[get];congr 1<;>first|rfl|omega|(simp;done)|(simp;omega))) ?_)),_,rfl⟩
  ·obtain rfl:k=L.length:=by omega
   rw[List.take_length];repeat' (first
    |((with_reducible show VCs _);first|exact True.intro|(simp only[vb,lb];omega)|(simp only[vb,lb,hlt,hg];and_intros<;>first|omega|(simp<;>omega))|(simp[vb,hlt,hg]<;>omega))
    |((with_reducible show All _);first|exact True.intro|((try dsimp only[go_sem]);first|(simp[vb,hlt,hg]<;>omega)|(simp only[vb,and_true,true_implies];(repeat' (first|(with_reducible assumption)|(with_reducible apply And.intro)|intro _|((fail_if_success (with_reducible show(_:Int)≤_));assumption)))<;>first|omega|rfl|(simp only[ab,hlt,hg];done)|(simp[Nat.mul_one,hlt,hg]<;>omega)|(simp_all;done))))
    |exact(rfl:some _=_)
    |(
     fail_if_success refine awL ?_
     refine evH [(24,{val:=some (.ref 0 0 0 0),mem:=some [⟨[],0,2,62,false⟩]})] ?_;repeat1' dsimp only[c80,casP,go_sem]
     first
     |refine aw4 ?_ ?_ rfl ?_
     |apply aw3
     |apply aw2
     |(refine awB (fun hc=>?_) fun hc=>?_<;>first|(cases hc;done)|(exfalso;first|(simp at hc<;>omega)|(simp[hlt,hg]at hc;done))|(try simp only[bn]at hc;try contradiction))
     |skip))
   refine aw_forJ L.length (fun _=>True) (fun k=>[(6,.ref 0 k 0 (L.take k).flatten.length),(25,.pv (casP L)),(26,.pv (.int .i64 L.length)),(27,.pv (.int .i64 k))]) (fun k=>[⟨((L.take k).flatten.flatMap rwC).map .pv,k,2,62,false⟩]) trivial (by (repeat' (first|exact trivial|refine And.intro (by first|rfl|(simp[get,Nat.beq];done)|(simp[get,Nat.beq];omega)|(dsimp only[get];congr 1<;>first|rfl|omega|(simp;done)|(simp;omega))) ?_))) ⟨[],rfl⟩ (fun _=>⟨Nat.zero_le _,rfl,by simp[okMem,bnd]⟩) fun k hk _=>?_
   by_cases hlt:k<L.length
   ·have e:=cas_at L k hlt;clear loop1;have hl:=lenS_take L k hlt;have hl2:=hle (k+1);have hf:=flat_take L k hlt;have f2:=rws_len (L.take k).flatten;have f3:=flat_len (L.take k);generalize L.getD k []=l at *;have f4:=rws_len l;rw[hf];generalize (L.take k).flatten=m at *;repeat' (first
     |((with_reducible show VCs _);first|exact True.intro|(simp only[vb,lb];omega)|(simp only[vb,lb,e,f1,f2,f4,hlt];and_intros<;>first|omega|(simp<;>omega))|(simp[vb,e,f1,f2,f4,hlt]<;>omega))
     |((with_reducible show All _);first|exact True.intro|((try dsimp only[go_sem]);first|(simp[vb,e,f1,f2,f4,hlt]<;>omega)|(simp only[vb,and_true,true_implies];(repeat' (first|(with_reducible assumption)|(with_reducible apply And.intro)|intro _|((fail_if_success (with_reducible show(_:Int)≤_));assumption)))<;>first|omega|rfl|(simp only[ab,e,f1,f2,f4,hlt];done)|(simp[Nat.mul_one,e,f1,f2,f4,hlt]<;>omega)|(simp_all;done))))
     |exact(rfl:some _=_)
     |(
      fail_if_success refine awL ?_
      refine evH [(30,{val:=some (.pv (.sl l.length (l.flatMap rwC)))}),(33,{mode:=1})] ?_;repeat1' dsimp only[c80,casP,go_sem]
      first
      |refine aw4 ?_ ?_ rfl ?_
      |apply aw3
      |apply aw2
      |(refine awB (fun hc=>?_) fun hc=>?_<;>first|(cases hc;done)|(exfalso;first|(simp at hc<;>omega)|(simp[e,f1,f2,f4,hlt]at hc;done))|(try simp only[bn]at hc;try contradiction))
      |skip))
    exact⟨hlt,trivial,by simp only[List.length_append];(repeat' (first|exact trivial|refine And.intro (by first|rfl|(simp[get,Nat.beq];done)|(simp[get,Nat.beq];omega)|(dsimp only[get];congr 1<;>first|rfl|omega|(simp;done)|(simp;omega))) ?_)),[],by simp[List.flatMap_append]⟩
   ·obtain rfl:k=L.length:=by omega
    rw[List.take_length];repeat' (first
     |((with_reducible show VCs _);first|exact True.intro|(simp only[vb,lb];omega)|(simp only[vb,lb,hlt];and_intros<;>first|omega|(simp<;>omega))|(simp[vb,hlt]<;>omega))
     |((with_reducible show All _);first|exact True.intro|((try dsimp only[go_sem]);first|(simp[vb,hlt]<;>omega)|(simp only[vb,and_true,true_implies];(repeat' (first|(with_reducible assumption)|(with_reducible apply And.intro)|intro _|((fail_if_success (with_reducible show(_:Int)≤_));assumption)))<;>first|omega|rfl|(simp only[ab,hlt];done)|(simp[Nat.mul_one,hlt]<;>omega)|(simp_all;done))))
     |exact(rfl:some _=_)
     |(
      fail_if_success refine awL ?_
      refine evA ?_;repeat1' dsimp only[c80,casP,go_sem]
      first
      |refine aw4 ?_ ?_ rfl ?_
      |apply aw3
      |apply aw2
      |(refine awB (fun hc=>?_) fun hc=>?_<;>first|(cases hc;done)|(exfalso;first|(simp at hc<;>omega)|(simp[hlt]at hc;done))|(try simp only[bn]at hc;try contradiction))
      |skip))
    have f2:=rws_len L.flatten;exact thaw_row rfl rfl rfl (by rw[List.drop_zero,List.take_of_length_le (by simp only[List.length_map];omega)]) (by simp only[List.length_map];omega)
end Pur
end
section
namespace Pur
open Go.RowKit
attribute [local go_sem] evOps evOp evOpV evRun evK argF List.map hintAt stripped get put tmpsOf tmpOf tmpO tmpL tmpP conds ev cond_true cond_false Nat.beq Nat.ble Nat.add quiet After thenR blockR IfD List.append_eq List.nil_append List.cons_append evInt exactI_a exactI_b exactI_c exactI_d exactI_e exactI_f evBin evStr evBool evUn guardC calm quiet.isCallK evPick List.getElem?_cons_zero List.getElem?_cons_succ fromCells fromPVs cellsOf List.all oneCell List.length_cons List.length_nil mkAgg plains List.drop List.take List.getD Option.getD_some bo1 bo2 ba1 ba2 bn1 bn2 kk_i64 kk_u8 kk_i32 kk_u64 setAt List.set Nat.reduceAdd Nat.reduceMul evCall safeCall refsOf refsIn scalarA scalar scalarL thawL mapAll thawArg thawRef after freeze RetD RetE evResult evRess evRes1 thaw_pv mkTup nilOf_a nilOf_b nilOf_bb nilOf_c nilOf_d nilOf_e nilOf_f nilOf_g nilOf_h nilOf_i nilOf_j nilOf_k nilOf_l nilOf_m eqLeaf_a eqLeaf_b eqLeaf_c eqOffs evMM bytesOf evOpsF AfterF footOf footRefs notIn indepF footAt freeOk still evParts fillA zeros intOfA boundA srcOf List.isEmpty appNil_0 appNil_1 appNil_2 Int.reduceToNat Nat.mul_one Nat.reduceSub evC evOpsT evOpsTF autoH tabHint look hintD strip guarded RetPD RetRD mpLen keysOk leafKA leafK bitI nilOf_n nilOf_o Bool.or_false Bool.or_true Bool.and_true Bool.and_false Nat.blt renF renM renB renV idxOf solF solM solA solV thawRef ev1
section
open Rf
def c90:ACode:=(⟨_,by conv=>(lhs;reduce;try simp only[lt1,Int.cast_ofNat_Int,Int.reduceNegSucc,UInt8.reduceOfNat])⟩:{x // codeOf Tryz.prog 90 (fun _=>false)=some x}).1
theorem fn90:fnOf Tryz.prog 90 (fun _=>false)=some (c90,[.t 6],15,true):=by kernel_rfl
def c91:ACode:=(⟨_,by conv=>(lhs;reduce;try simp only[lt1,Int.cast_ofNat_Int,Int.reduceNegSucc,UInt8.reduceOfNat])⟩:{x // codeOf Tryz.prog 91 (fun _=>false)=some x}).1
theorem fn91:fnOf Tryz.prog 91 (fun _=>false)=some (c91,[.t 4],46,true):=by kernel_rfl
def c60:ACode:=(⟨_,by conv=>(lhs;reduce;try simp only[lt1,Int.cast_ofNat_Int,Int.reduceNegSucc,UInt8.reduceOfNat])⟩:{x // codeOf Tryz.prog 60 (fun _=>false)=some x}).1
theorem fn60:fnOf Tryz.prog 60 (fun _=>false)=some (c60,[.t 4],46,true):=by kernel_rfl
def c61:ACode:=(⟨_,by conv=>(lhs;reduce;try simp only[lt1,Int.cast_ofNat_Int,Int.reduceNegSucc,UInt8.reduceOfNat])⟩:{x // codeOf Tryz.prog 61 (fun _=>false)=some x}).1
theorem fn61:fnOf Tryz.prog 61 (fun _=>false)=some (c61,[.t 2],21,true):=by kernel_rfl
theorem in17_ok (n lo hi:Int):PureOK ctx 90 [.int .i64 n,.int .i64 lo,.int .i64 hi] (.bool (insideB n lo hi)):=by
 refine pure_body' (C:=ctx) (Fn.of fn90 rfl) rfl ?_;unfold c90;repeat' (first
  |((with_reducible first|show VCs _|show All _);simp[vb]<;>omega)
  |exact(rfl:some _=_)
  |(
   fail_if_success refine awL ?_
   refine evA ?_;repeat1' dsimp only[c90,go_sem]
   first
   |refine aw4 ?_ ?_ rfl ?_
   |apply aw3
   |apply aw2
   |(refine awB (fun hc=>?_) fun hc=>?_<;>first|(cases hc;done)|(exfalso;simp at hc<;>omega)|(try simp only[bn]at hc;try contradiction))
   |skip))
 rw[cond_and];rfl
set_option maxHeartbeats 4000000 in
theorem refRow_ok (n : Int) (r : Rw) (hr : r.terms.length ≤ 1000000000) : PureOK ctx 91 [.agg [termsP r.terms, .int .i64 r.bound], .int .i64 n] (.bool (rowOk n r)) := by
  obtain ⟨ts, bd⟩ := r
  unfold rowOk
  simp only at hr ⊢
  generalize hq : termsOk n (-1) ts = q
  have f1 := terms_len ts
  refine pure_body' (C := ctx) (Fn.of fn91 rfl) rfl ?_
  unfold c91
  repeat' (first
    | ((with_reducible first | show VCs _ | show All _); simp [vb] <;> omega)
    | exact (rfl : some _ = _)
    | (
      fail_if_success refine awL ?_
      refine evA ?_
      repeat1' dsimp only [c91, termsP, go_sem]
      first
      | refine aw4 ?_ ?_ rfl ?_
      | apply aw3
      | apply aw2
      | (refine awB (fun hc => ?_) fun hc => ?_ <;> first | (cases hc; done) | (exfalso; simp at hc <;> omega) | (try simp only [bn] at hc; try contradiction))
      | skip))
  refine aw_loopJ (σ := Nat × Int) (fun s => s.1 ≤ ts.length ∧ termsOk n s.2 (ts.drop s.1) = q) (fun s => [(1, .pv (.int .i64 n)), (2, .ptr 0 0 0), (5, .pv (.int .i64 s.2)), (6, .pv (.int .i64 s.1))]) (fun _ => [⟨[.pv (termsP ts), .pv (.int .i64 bd)], 0, 2, 62, false⟩]) (fun s => ts.length - s.1) (0, -1) ⟨Nat.zero_le _, hq⟩ (by (repeat' (first | exact trivial | refine And.intro (by first | rfl | (simp [get, Nat.beq]; done) | (simp [get, Nat.beq]; omega) | (dsimp only [get]; congr 1 <;> first | rfl | omega | (simp; done) | (simp; omega))) ?_))) ⟨[], rfl⟩ (fun _ _ => ⟨Nat.zero_le _, rfl, rfl⟩) fun s hP => ?_
  obtain ⟨k, last⟩ := s
  obtain ⟨p1, p2⟩ := hP
  simp only at p1 p2
  by_cases hlt : k < ts.length
  · have e := fm_take tmC_len ts k zm hlt
    rw [drop_getD ts k zm hlt, termsOk] at p2
    generalize ts.getD k zm = x at *
    have hin := in17_ok x.fac (-1000) 1000
    generalize hq2 : termsOk n x.cell (ts.drop (k + 1)) = q2 at *
    generalize insideB x.fac (-1000) 1000 = qi at *
    repeat' (first
      | ((with_reducible show VCs _); first | exact True.intro | (simp only [vb, lb]; omega) | (simp only [vb, lb, e, f1, hlt, tmC, hin]; and_intros <;> first | omega | (simp <;> omega)) | (simp [vb, e, f1, hlt, tmC, hin] <;> omega))
      | ((with_reducible show All _); first | exact True.intro | ((try dsimp only [go_sem]); first | (simp [vb, e, f1, hlt, tmC, hin] <;> omega) | (simp only [vb, and_true, true_implies]; (repeat' (first | (with_reducible assumption) | (with_reducible apply And.intro) | intro _ | ((fail_if_success (with_reducible show (_ : Int) ≤ _)); assumption))) <;> first | omega | rfl | (simp only [ab, e, f1, hlt, tmC, hin]; done) | (simp [Nat.mul_one, e, f1, hlt, tmC, hin] <;> omega) | (simp_all; done))))
      | exact (rfl : some _ = _)
      | (
        fail_if_success refine awL ?_
        refine evTH [(90, fun _ => some (.bool qi))] [(19, { val := some (.pv (.agg [.int .i64 x.cell, .int .i64 x.fac])) })] ?_
        repeat1' dsimp only [c91, termsP, go_sem]
        first
        | refine aw4 ?_ ?_ rfl ?_
        | apply aw3
        | apply aw2
        | (refine awB (fun hc => ?_) fun hc => ?_ <;> first | (cases hc; done) | (exfalso; first | (simp at hc <;> omega) | (simp [e, f1, hlt, tmC, hin] at hc; done)) | (try simp only [bn] at hc; try contradiction))
        | skip))
    all_goals first
      | (rw [← p2, show (decide (last < x.cell) && decide (x.cell < n) && decide (x.fac ≠ 0) && qi) = false from by
          rw [Bool.eq_false_iff]
          simp only [ne_eq, Bool.and_eq_true, decide_eq_true_eq]
          rintro ⟨⟨⟨a1, a2⟩, a3⟩, a4⟩
          subst a4
          simp at hc
          omega]; rfl)
      | (
        refine ⟨(k + 1, x.cell), by show ts.length - (k + 1) < ts.length - k; omega, ⟨by show k + 1 ≤ _; omega, ?_⟩, by (repeat' (first | exact trivial | refine And.intro (by first | rfl | (simp [get, Nat.beq]; done) | (simp [get, Nat.beq]; omega) | (dsimp only [get]; congr 1 <;> first | rfl | omega | (simp; done) | (simp; omega))) ?_)), _, rfl⟩
        show termsOk n x.cell (ts.drop (k + 1)) = q
        obtain ⟨⟨⟨a1, a2⟩, a3⟩, a4⟩ := hc
        rw [hq2, ← p2, show (decide (last < x.cell) && decide (x.cell < n) && decide (x.fac ≠ 0) && qi) = true from by
         simp only [ne_eq, Bool.and_eq_true, decide_eq_true_eq]
         exact ⟨⟨⟨by omega, by omega⟩, a3⟩, a4⟩, Bool.true_and])
  · obtain rfl : k = ts.length := by omega
    rw [List.drop_length, termsOk] at p2
    subst p2
    have hin := in17_ok bd (-1000000000) 1000000000
    generalize insideB bd (-1000000000) 1000000000 = qi at *
    repeat' (first
      | ((with_reducible show VCs _); first | exact True.intro | (simp only [vb, lb]; omega) | (simp only [vb, lb, hlt, hin]; and_intros <;> first | omega | (simp <;> omega)) | (simp [vb, hlt, hin] <;> omega))
      | ((with_reducible show All _); first | exact True.intro | ((try dsimp only [go_sem]); first | (simp [vb, hlt, hin] <;> omega) | (simp only [vb, and_true, true_implies]; (repeat' (first | (with_reducible assumption) | (with_reducible apply And.intro) | intro _ | ((fail_if_success (with_reducible show (_ : Int) ≤ _)); assumption))) <;> first | omega | rfl | (simp only [ab, hlt, hin]; done) | (simp [Nat.mul_one, hlt, hin] <;> omega) | (simp_all; done))))
      | exact (rfl : some _ = _)
      | (
        fail_if_success refine awL ?_
        refine evT [(90, fun _ => some (.bool qi))] ?_
        repeat1' dsimp only [c91, termsP, go_sem]
        first
        | refine aw4 ?_ ?_ rfl ?_
        | apply aw3
        | apply aw2
        | (refine awB (fun hc => ?_) fun hc => ?_ <;> first | (cases hc; done) | (exfalso; first | (simp at hc <;> omega) | (simp [hlt, hin] at hc; done)) | (try simp only [bn] at hc; try contradiction))
        | skip))
set_option maxHeartbeats 4000000 in
theorem refValid17_ok (b:List Rg) (l:List Rw) (hb:b.length≤1000000000) (hl:l.length≤1000000000) (ht:∀r∈l,r.terms.length≤1000000000):PureOK ctx 60 [boxP b,rwsP l] (.bool (ivOk b l)):=by
 have f1:=box_len b;have f2:=rws_len l;unfold ivOk boxOk;by_cases h0:b.length≤128
 ·rw[decide_eq_true h0,Bool.and_true];refine pure_body' (C:=ctx) (Fn.of fn60 rfl) rfl ?_;unfold c60;repeat' (first
   |((with_reducible first|show VCs _|show All _);simp[vb,h0]<;>omega)
   |exact(rfl:some _=_)
   |(
    fail_if_success refine awL ?_
    refine evA ?_;repeat1' dsimp only[c60,boxP,rwsP,go_sem]
    first
    |refine aw4 ?_ ?_ rfl ?_
    |apply aw3
    |apply aw2
    |(refine awB (fun hc=>?_) fun hc=>?_<;>first|(cases hc;done)|(exfalso;simp[h0]at hc<;>omega)|(try simp only[bn]at hc;try contradiction))
    |skip))
  refine aw_forJ b.length (fun k=>(b.take k).all rgOk=true) (fun k=>[(0,.pv (boxP b)),(1,.pv (rwsP l)),(5,.pv (.int .i64 k))]) (fun _=>[]) rfl (by (repeat' (first|exact trivial|refine And.intro (by first|rfl|(simp[get,Nat.beq];done)|(simp[get,Nat.beq];omega)|(dsimp only[get];congr 1<;>first|rfl|omega|(simp;done)|(simp;omega))) ?_))) ⟨[],rfl⟩ (fun _=>⟨Nat.zero_le _,rfl,rfl⟩) fun k hk hP=>?_
  by_cases hlt:k<b.length
  ·have e1:=box_lo b k hlt;have e2:(b.flatMap rgC)[k*2+1]?.getD default= .int .i64 (b.getD k zr).hi:=by rw[flatMap_get rgC_len b k zr 1 hlt (by omega)];rfl
   have i1:=all_step rgOk b k zr hlt;have i2:=all_no rgOk b k zr hlt;rw[i1,hP,Bool.true_and];clear i1;unfold rgOk at i2 ⊢;generalize b.getD k zr=x at *;have h1:=in17_ok x.lo (-1000000) 1000000;have h2:=in17_ok x.hi (-1000000) 1000000;generalize insideB x.lo (-1000000) 1000000=q1 at *;generalize insideB x.hi (-1000000) 1000000=q2 at *;repeat' (first
    |((with_reducible show VCs _);first|exact True.intro|(simp only[vb,lb];omega)|(simp only[vb,lb,e1,e2,f1,hlt,h1,h2];and_intros<;>first|omega|(simp<;>omega))|(simp[vb,e1,e2,f1,hlt,h1,h2]<;>omega))
    |((with_reducible show All _);first|exact True.intro|((try dsimp only[go_sem]);first|(simp[vb,e1,e2,f1,hlt,h1,h2]<;>omega)|(simp only[vb,and_true,true_implies];(repeat' (first|(with_reducible assumption)|(with_reducible apply And.intro)|intro _|((fail_if_success (with_reducible show(_:Int)≤_));assumption)))<;>first|omega|rfl|(simp only[ab,e1,e2,f1,hlt,h1,h2];done)|(simp[Nat.mul_one,e1,e2,f1,hlt,h1,h2]<;>omega)|(simp_all;done))))
    |exact(rfl:some _=_)
    |(
     fail_if_success refine awL ?_
     refine evH [(20,{val:=some (.pv (.int .i64 x.lo))}),(21,{val:=some (.pv (.bool q1))}),(28,{val:=some (.pv (.int .i64 x.hi))}),(29,{val:=some (.pv (.bool q2))})] ?_;repeat1' dsimp only[c60,boxP,rwsP,go_sem]
     first
     |refine aw4 ?_ ?_ rfl ?_
     |apply aw3
     |apply aw2
     |(refine awB (fun hc=>?_) fun hc=>?_<;>first|(cases hc;done)|(exfalso;first|(simp at hc<;>omega)|(simp[e1,e2,f1,hlt,h1,h2]at hc;done))|(try simp only[bn]at hc;try contradiction))
     |skip))
   ·rw[i2 (by rcases hc with h|h<;>rw[h]<;>simp)];rfl
   ·exact⟨hlt,by rw[hc.1,hc.2];rfl,by (repeat' (first|exact trivial|refine And.intro (by first|rfl|(simp[get,Nat.beq];done)|(simp[get,Nat.beq];omega)|(dsimp only[get];congr 1<;>first|rfl|omega|(simp;done)|(simp;omega))) ?_)),_,rfl⟩
  ·obtain rfl:k=b.length:=by omega
   rw[List.take_length]at hP;rw[hP,Bool.true_and];repeat' (first
    |((with_reducible show VCs _);first|exact True.intro|(simp only[vb,lb];omega)|(simp only[vb,lb,hlt];and_intros<;>first|omega|(simp<;>omega))|(simp[vb,hlt]<;>omega))
    |((with_reducible show All _);first|exact True.intro|((try dsimp only[go_sem]);first|(simp[vb,hlt]<;>omega)|(simp only[vb,and_true,true_implies];(repeat' (first|(with_reducible assumption)|(with_reducible apply And.intro)|intro _|((fail_if_success (with_reducible show(_:Int)≤_));assumption)))<;>first|omega|rfl|(simp only[ab,hlt];done)|(simp[Nat.mul_one,hlt]<;>omega)|(simp_all;done))))
    |exact(rfl:some _=_)
    |(
     fail_if_success refine awL ?_
     refine evA ?_;repeat1' dsimp only[c60,boxP,rwsP,go_sem]
     first
     |refine aw4 ?_ ?_ rfl ?_
     |apply aw3
     |apply aw2
     |(refine awB (fun hc=>?_) fun hc=>?_<;>first|(cases hc;done)|(exfalso;first|(simp at hc<;>omega)|(simp[hlt]at hc;done))|(try simp only[bn]at hc;try contradiction))
     |skip))
   refine aw_forJ l.length (fun k=>(l.take k).all (rowOk b.length)=true) (fun k=>[(0,.pv (boxP b)),(1,.pv (rwsP l)),(6,.pv (.int .i64 k))]) (fun _=>[]) rfl (by (repeat' (first|exact trivial|refine And.intro (by first|rfl|(simp[get,Nat.beq];done)|(simp[get,Nat.beq];omega)|(dsimp only[get];congr 1<;>first|rfl|omega|(simp;done)|(simp;omega))) ?_))) ⟨[],rfl⟩ (fun _=>⟨Nat.zero_le _,rfl,rfl⟩) fun k hk hP=>?_
   by_cases hlt:k<l.length
   ·have e:=fm_take rwC_len l k zw hlt;have i1:=all_step (rowOk b.length) l k zw hlt;have i2:=all_no (rowOk b.length) l k zw hlt;have hx:=refRow_ok b.length (l.getD k zw) (ht _ (getD_mem hlt));rw[i1,hP,Bool.true_and];clear i1;generalize l.getD k zw=x at *;generalize rowOk b.length x=qx at *;unfold termsP at hx;repeat' (first
     |((with_reducible show VCs _);first|exact True.intro|(simp only[vb,lb];omega)|(simp only[vb,lb,e,f2,hlt,hx,rwC,termsP];and_intros<;>first|omega|(simp<;>omega))|(simp[vb,e,f2,hlt,hx,rwC,termsP]<;>omega))
     |((with_reducible show All _);first|exact True.intro|((try dsimp only[go_sem]);first|(simp[vb,e,f2,hlt,hx,rwC,termsP]<;>omega)|(simp only[vb,and_true,true_implies];(repeat' (first|(with_reducible assumption)|(with_reducible apply And.intro)|intro _|((fail_if_success (with_reducible show(_:Int)≤_));assumption)))<;>first|omega|rfl|(simp only[ab,e,f2,hlt,hx,rwC,termsP];done)|(simp[Nat.mul_one,e,f2,hlt,hx,rwC,termsP]<;>omega)|(simp_all;done))))
     |exact(rfl:some _=_)
     |(
      fail_if_success refine awL ?_
      refine evTH [(91,fun _=>some (.bool qx))] [(41,{val:=some (.pv (.agg [.sl x.terms.length (x.terms.flatMap tmC),.int .i64 x.bound]))})] ?_;repeat1' dsimp only[c60,boxP,rwsP,go_sem]
      first
      |refine aw4 ?_ ?_ rfl ?_
      |apply aw3
      |apply aw2
      |(refine awB (fun hc=>?_) fun hc=>?_<;>first|(cases hc;done)|(exfalso;first|(simp at hc<;>omega)|(simp[e,f2,hlt,hx,rwC,termsP]at hc;done))|(try simp only[bn]at hc;try contradiction))
      |skip))
    ·rw[i2 hc]
    ·exact⟨hlt,hc,by (repeat' (first|exact trivial|refine And.intro (by first|rfl|(simp[get,Nat.beq];done)|(simp[get,Nat.beq];omega)|(dsimp only[get];congr 1<;>first|rfl|omega|(simp;done)|(simp;omega))) ?_)),_,rfl⟩
   ·obtain rfl:k=l.length:=by omega
    rw[List.take_length]at hP;repeat' (first
     |((with_reducible show VCs _);first|exact True.intro|(simp only[vb,lb];omega)|(simp only[vb,lb,hlt];and_intros<;>first|omega|(simp<;>omega))|(simp[vb,hlt]<;>omega))
     |((with_reducible show All _);first|exact True.intro|((try dsimp only[go_sem]);first|(simp[vb,hlt]<;>omega)|(simp only[vb,and_true,true_implies];(repeat' (first|(with_reducible assumption)|(with_reducible apply And.intro)|intro _|((fail_if_success (with_reducible show(_:Int)≤_));assumption)))<;>first|omega|rfl|(simp only[ab,hlt];done)|(simp[Nat.mul_one,hlt]<;>omega)|(simp_all;done))))
     |exact(rfl:some _=_)
     |(
      fail_if_success refine awL ?_
      refine evA ?_;repeat1' dsimp only[c60,boxP,rwsP,go_sem]
      first
      |refine aw4 ?_ ?_ rfl ?_
      |apply aw3
      |apply aw2
      |(refine awB (fun hc=>?_) fun hc=>?_<;>first|(cases hc;done)|(exfalso;first|(simp at hc<;>omega)|(simp[hlt]at hc;done))|(try simp only[bn]at hc;try contradiction))
      |skip))
    rw[hP]
 ·rw[decide_eq_false h0];refine pure_body' (C:=ctx) (Fn.of fn60 rfl) rfl ?_;unfold c60;repeat' (first
   |((with_reducible first|show VCs _|show All _);simp[vb,h0]<;>omega)
   |exact(rfl:some _=_)
   |(
    fail_if_success refine awL ?_
    refine evA ?_;repeat1' dsimp only[c60,boxP,rwsP,go_sem]
    first
    |refine aw4 ?_ ?_ rfl ?_
    |apply aw3
    |apply aw2
    |(refine awB (fun hc=>?_) fun hc=>?_<;>first|(cases hc;done)|(exfalso;simp[h0]at hc<;>omega)|(try simp only[bn]at hc;try contradiction))
    |skip))
  simp
theorem refEmpty_ok (b:List Rg) (hb:b.length≤1000000000):PureOK ctx 61 [boxP b] (.bool (emptyB b)):=by
 have f1:=box_len b;unfold emptyB;refine pure_body' (C:=ctx) (Fn.of fn61 rfl) rfl ?_;unfold c61;repeat' (first
  |((with_reducible first|show VCs _|show All _);simp[vb]<;>omega)
  |exact(rfl:some _=_)
  |(
   fail_if_success refine awL ?_
   refine evA ?_;repeat1' dsimp only[c61,boxP,go_sem]
   first
   |refine aw4 ?_ ?_ rfl ?_
   |apply aw3
   |apply aw2
   |(refine awB (fun hc=>?_) fun hc=>?_<;>first|(cases hc;done)|(exfalso;simp at hc<;>omega)|(try simp only[bn]at hc;try contradiction))
   |skip))
 refine aw_forJ b.length (fun k=>(b.take k).any emptyR=false) (fun k=>[(0,.pv (boxP b)),(3,.pv (.int .i64 k))]) (fun _=>[]) rfl (by (repeat' (first|exact trivial|refine And.intro (by first|rfl|(simp[get,Nat.beq];done)|(simp[get,Nat.beq];omega)|(dsimp only[get];congr 1<;>first|rfl|omega|(simp;done)|(simp;omega))) ?_))) ⟨[],rfl⟩ (fun _=>⟨Nat.zero_le _,rfl,rfl⟩) fun k hk hP=>?_
 by_cases hlt:k<b.length
 ·have e1:=box_lo b k hlt;have e2:(b.flatMap rgC)[k*2+1]?.getD default= .int .i64 (b.getD k zr).hi:=by rw[flatMap_get rgC_len b k zr 1 hlt (by omega)];rfl
  have hm:=getD_mem (d:=zr) hlt;have i1:=take_succ_getD b k zr hlt;generalize b.getD k zr=x at *;repeat' (first
   |((with_reducible show VCs _);first|exact True.intro|(simp only[vb,lb];omega)|(simp only[vb,lb,e1,e2,f1,hlt];and_intros<;>first|omega|(simp<;>omega))|(simp[vb,e1,e2,f1,hlt]<;>omega))
   |((with_reducible show All _);first|exact True.intro|((try dsimp only[go_sem]);first|(simp[vb,e1,e2,f1,hlt]<;>omega)|(simp only[vb,and_true,true_implies];(repeat' (first|(with_reducible assumption)|(with_reducible apply And.intro)|intro _|((fail_if_success (with_reducible show(_:Int)≤_));assumption)))<;>first|omega|rfl|(simp only[ab,e1,e2,f1,hlt];done)|(simp[Nat.mul_one,e1,e2,f1,hlt]<;>omega)|(simp_all;done))))
   |exact(rfl:some _=_)
   |(
    fail_if_success refine awL ?_
    refine evH [(14,{val:=some (.pv (.int .i64 x.lo))}),(19,{val:=some (.pv (.int .i64 x.hi))})] ?_;repeat1' dsimp only[c61,boxP,go_sem]
    first
    |refine aw4 ?_ ?_ rfl ?_
    |apply aw3
    |apply aw2
    |(refine awB (fun hc=>?_) fun hc=>?_<;>first|(cases hc;done)|(exfalso;first|(simp at hc<;>omega)|(simp[e1,e2,f1,hlt]at hc;done))|(try simp only[bn]at hc;try contradiction))
    |skip))
  ·rw[List.any_eq_true.mpr ⟨x,hm,by simpa [emptyR]using hc⟩]
  ·exact⟨hlt,by rw[i1,List.any_append,hP];simpa [emptyR]using hc,by (repeat' (first|exact trivial|refine And.intro (by first|rfl|(simp[get,Nat.beq];done)|(simp[get,Nat.beq];omega)|(dsimp only[get];congr 1<;>first|rfl|omega|(simp;done)|(simp;omega))) ?_)),_,rfl⟩
 ·obtain rfl:k=b.length:=by omega
  rw[List.take_length]at hP;repeat' (first
   |((with_reducible show VCs _);first|exact True.intro|(simp only[vb,lb];omega)|(simp only[vb,lb,hlt];and_intros<;>first|omega|(simp<;>omega))|(simp[vb,hlt]<;>omega))
   |((with_reducible show All _);first|exact True.intro|((try dsimp only[go_sem]);first|(simp[vb,hlt]<;>omega)|(simp only[vb,and_true,true_implies];(repeat' (first|(with_reducible assumption)|(with_reducible apply And.intro)|intro _|((fail_if_success (with_reducible show(_:Int)≤_));assumption)))<;>first|omega|rfl|(simp only[ab,hlt];done)|(simp[Nat.mul_one,hlt]<;>omega)|(simp_all;done))))
   |exact(rfl:some _=_)
   |(
    fail_if_success refine awL ?_
    refine evA ?_;repeat1' dsimp only[c61,boxP,go_sem]
    first
    |refine aw4 ?_ ?_ rfl ?_
    |apply aw3
    |apply aw2
    |(refine awB (fun hc=>?_) fun hc=>?_<;>first|(cases hc;done)|(exfalso;first|(simp at hc<;>omega)|(simp[hlt]at hc;done))|(try simp only[bn]at hc;try contradiction))
    |skip))
  rw[hP]
end
section
open Rf
def c30:ACode:=(⟨_,by conv=>(lhs;reduce;try simp only[lt1,Int.cast_ofNat_Int,Int.reduceNegSucc,UInt8.reduceOfNat])⟩:{x // codeOf Tryz.prog 30 (fun _=>false)=some x}).1
theorem fn30:fnOf Tryz.prog 30 (fun _=>false)=some (c30,[.t 2],132,true):=by kernel_rfl
def c70:ACode:=(⟨_,by conv=>(lhs;reduce;try simp only[lt1,Int.cast_ofNat_Int,Int.reduceNegSucc,UInt8.reduceOfNat])⟩:{x // codeOf Tryz.prog 70 (fun _=>false)=some x}).1
theorem fn70:fnOf Tryz.prog 70 (fun _=>false)=some (c70,[.t 2],34,true):=by kernel_rfl
set_option maxHeartbeats 8000000 in
theorem refSysValid_ok (s:Sy) (hs:SyS s):PureOK ctx 30 [.agg [boxP s.box,rwsP s.rows,grsP s.graphs,casP s.cases]] (.bool (sysOk s)):=by
 have h1:=refValid17_ok s.box s.rows hs.b hs.r hs.rt;have h2:=refEmpty_ok s.box hs.b;have hcv:=fun l hl=>refValid17_ok s.box l hs.b (hs.cl l hl) (hs.ct l hl)
 have hgl:=hs.gl;have f1:=grs_len s.graphs;have f2:=cas_len s.cases;have hsg:=hs.g;have hsc:=hs.c;have hsb:=hs.b;have hsr:=hs.r;have e2:sysOk s=(decide (s.rows.length≤1024)&&decide (s.graphs.length≤64)&&decide (s.cases.length≤1024)&&ivOk s.box s.rows&& !emptyB s.box&&s.cases.all (caseOk s.box)&&s.graphs.all (graphOk s.box.length)):=by
  rw[sysOk];cases ivOk s.box s.rows<;>cases emptyB s.box<;>cases decide (s.rows.length≤1024)<;>cases decide (s.graphs.length≤64)<;>cases decide (s.cases.length≤1024)<;>cases s.cases.all (caseOk s.box)<;>cases s.graphs.all (graphOk s.box.length)<;>rfl
 rw[e2];clear e2;obtain⟨b,rs,gs,cs⟩:=s;simp only at *;clear hs;generalize emptyB b=q2 at *;generalize ivOk b rs=q1 at *;unfold boxP at h1 h2 hcv;unfold rwsP at h1 hcv;refine pure_body' (C:=ctx) (Fn.of fn30 rfl) rfl ?_;unfold c30;repeat' (first
  |((with_reducible show VCs _);first|exact True.intro|(simp only[vb,lb];omega)|(simp only[vb,lb,h1,h2];and_intros<;>first|omega|(simp<;>omega))|(simp[vb,h1,h2]<;>omega))
  |((with_reducible show All _);first|exact True.intro|((try dsimp only[go_sem]);first|(simp[vb,h1,h2]<;>omega)|(simp only[vb,and_true,true_implies];(repeat' (first|(with_reducible assumption)|(with_reducible apply And.intro)|intro _|((fail_if_success (with_reducible show(_:Int)≤_));assumption)))<;>first|omega|rfl|(simp only[ab,h1,h2];done)|(simp[Nat.mul_one,h1,h2]<;>omega)|(simp_all;done))))
  |exact(rfl:some _=_)
  |(
   fail_if_success refine awL ?_
   refine evT [(60,fun _=>some (.bool q1)),(61,fun _=>some (.bool q2))] ?_;repeat1' dsimp only[c30,boxP,rwsP,grsP,casP,go_sem]
   first
   |refine aw4 ?_ ?_ rfl ?_
   |apply aw3
   |apply aw2
   |(refine awB (fun hc=>?_) fun hc=>?_<;>first|(cases hc;done)|(exfalso;first|(simp at hc<;>omega)|(simp[h1,h2]at hc;done))|(try simp only[bn]at hc;try contradiction))
   |skip))
 ·have hr:(decide (rs.length≤1024)&&decide (gs.length≤64)&&decide (cs.length≤1024)&&q1&& !q2)=false:=by
   rw[Bool.eq_false_iff];simp only[ne_eq,Bool.and_eq_true,decide_eq_true_eq,Bool.not_eq_true'];rintro⟨⟨⟨⟨a,b⟩,c⟩,d⟩,e⟩;subst d e;simp at hc;omega
  rw[hr];rfl
 ·have hr:(decide (rs.length≤1024)&&decide (gs.length≤64)&&decide (cs.length≤1024)&&q1&& !q2)=true:=by
   simp only[Bool.and_eq_true,decide_eq_true_eq,Bool.not_eq_true'];obtain⟨⟨⟨⟨a,b⟩,c⟩,d⟩,e⟩:=hc;exact⟨⟨⟨⟨by omega,by omega⟩,by omega⟩,d⟩,e⟩
  rw[hr,Bool.true_and];clear h1 h2 hc hr;refine aw_forJ cs.length (fun k=>(cs.take k).all (caseOk b)=true) (fun k=>[(1,.ptr 0 0 0),(3,.pv (.int .i64 k))]) (fun _=>[⟨[.pv (boxP b),.pv (rwsP rs),.pv (grsP gs),.pv (casP cs)],0,4,36,false⟩]) rfl (by (repeat' (first|exact trivial|refine And.intro (by first|rfl|(simp[get,Nat.beq];done)|(simp[get,Nat.beq];omega)|(dsimp only[get];congr 1<;>first|rfl|omega|(simp;done)|(simp;omega))) ?_))) ⟨_,rfl⟩ (fun _=>⟨Nat.zero_le _,rfl,rfl⟩) fun k hk hP=>?_
  by_cases hlt:k<cs.length
  ·have e:=cas_at cs k hlt;have i1:=all_step (caseOk b) cs k [] hlt;have i2:=all_no (caseOk b) cs k [] hlt;have hx:=hcv _ (getD_mem (d:=([]:List Rw)) hlt);rw[i1,hP,Bool.true_and];clear i1 hcv;unfold caseOk at i2 ⊢;generalize cs.getD k []=x at *;generalize ivOk b x=qx at *;by_cases hl:x.length≤64
   ·have hl':¬64<(x.length:Int):=by omega
    rw[decide_eq_true hl,Bool.true_and]at i2 ⊢;repeat' (first
     |((with_reducible show VCs _);first|exact True.intro|(simp only[vb,lb];omega)|(simp only[vb,lb,e,f2,hlt,hl',hx];and_intros<;>first|omega|(simp<;>omega))|(simp[vb,e,f2,hlt,hl',hx]<;>omega))
     |((with_reducible show All _);first|exact True.intro|((try dsimp only[go_sem]);first|(simp[vb,e,f2,hlt,hl',hx]<;>omega)|(simp only[vb,and_true,true_implies];(repeat' (first|(with_reducible assumption)|(with_reducible apply And.intro)|intro _|((fail_if_success (with_reducible show(_:Int)≤_));assumption)))<;>first|omega|rfl|(simp only[ab,e,f2,hlt,hl',hx];done)|(simp[Nat.mul_one,e,f2,hlt,hl',hx]<;>omega)|(simp_all;done))))
     |exact(rfl:some _=_)
     |(
      fail_if_success refine awL ?_
      refine evTH [(60,fun _=>some (.bool qx))] [(47,{val:=some (.pv (.sl x.length (x.flatMap rwC)))}),(49,{val:=some (.pv (.bool false))}),(57,{val:=some (.pv (.sl x.length (x.flatMap rwC)))})] ?_;repeat1' dsimp only[c30,boxP,rwsP,grsP,casP,go_sem]
      first
      |refine aw4 ?_ ?_ rfl ?_
      |apply aw3
      |apply aw2
      |(refine awB (fun hc=>?_) fun hc=>?_<;>first|(cases hc;done)|(exfalso;first|(simp at hc<;>omega)|(simp[e,f2,hlt,hl',hx]at hc;done))|(try simp only[bn]at hc;try contradiction))
      |skip))
    ·rw[i2 hc];rfl
    ·exact⟨hlt,hc,by (repeat' (first|exact trivial|refine And.intro (by first|rfl|(simp[get,Nat.beq];done)|(simp[get,Nat.beq];omega)|(dsimp only[get];congr 1<;>first|rfl|omega|(simp;done)|(simp;omega))) ?_)),_,rfl⟩
   ·have hl':64<(x.length:Int):=by omega
    rw[decide_eq_false hl,Bool.false_and]at i2 ⊢;repeat' (first
     |((with_reducible show VCs _);first|exact True.intro|(simp only[vb,lb];omega)|(simp only[vb,lb,e,f2,hlt,hl',hx];and_intros<;>first|omega|(simp<;>omega))|(simp[vb,e,f2,hlt,hl',hx]<;>omega))
     |((with_reducible show All _);first|exact True.intro|((try dsimp only[go_sem]);first|(simp[vb,e,f2,hlt,hl',hx]<;>omega)|(simp only[vb,and_true,true_implies];(repeat' (first|(with_reducible assumption)|(with_reducible apply And.intro)|intro _|((fail_if_success (with_reducible show(_:Int)≤_));assumption)))<;>first|omega|rfl|(simp only[ab,e,f2,hlt,hl',hx];done)|(simp[Nat.mul_one,e,f2,hlt,hl',hx]<;>omega)|(simp_all;done))))
     |exact(rfl:some _=_)
     |(
      fail_if_success refine awL ?_
      refine evTH [(60,fun _=>some (.bool qx))] [(47,{val:=some (.pv (.sl x.length (x.flatMap rwC)))}),(49,{val:=some (.pv (.bool true))}),(57,{val:=some (.pv (.sl x.length (x.flatMap rwC)))})] ?_;repeat1' dsimp only[c30,boxP,rwsP,grsP,casP,go_sem]
      first
      |refine aw4 ?_ ?_ rfl ?_
      |apply aw3
      |apply aw2
      |(refine awB (fun hc=>?_) fun hc=>?_<;>first|(cases hc;done)|(exfalso;first|(simp at hc<;>omega)|(simp[e,f2,hlt,hl',hx]at hc;done))|(try simp only[bn]at hc;try contradiction))
      |skip))
    rw[i2 rfl];rfl
  ·obtain rfl:k=cs.length:=by omega
   rw[List.take_length]at hP;rw[hP,Bool.true_and];clear hcv hP;repeat' (first
    |((with_reducible show VCs _);first|exact True.intro|(simp only[vb,lb];omega)|(simp only[vb,lb,hlt];and_intros<;>first|omega|(simp<;>omega))|(simp[vb,hlt]<;>omega))
    |((with_reducible show All _);first|exact True.intro|((try dsimp only[go_sem]);first|(simp[vb,hlt]<;>omega)|(simp only[vb,and_true,true_implies];(repeat' (first|(with_reducible assumption)|(with_reducible apply And.intro)|intro _|((fail_if_success (with_reducible show(_:Int)≤_));assumption)))<;>first|omega|rfl|(simp only[ab,hlt];done)|(simp[Nat.mul_one,hlt]<;>omega)|(simp_all;done))))
    |exact(rfl:some _=_)
    |(
     fail_if_success refine awL ?_
     refine evA ?_;repeat1' dsimp only[c30,boxP,rwsP,grsP,casP,go_sem]
     first
     |refine aw4 ?_ ?_ rfl ?_
     |apply aw3
     |apply aw2
     |(refine awB (fun hc=>?_) fun hc=>?_<;>first|(cases hc;done)|(exfalso;first|(simp at hc<;>omega)|(simp[hlt]at hc;done))|(try simp only[bn]at hc;try contradiction))
     |skip))
   refine aw_forJ gs.length (fun k=>(gs.take k).all (graphOk b.length)=true) (fun k=>[(1,.ptr 0 0 0),(4,.pv (.int .i64 k))]) (fun _=>[⟨[.pv (boxP b),.pv (rwsP rs),.pv (grsP gs),.pv (casP cs)],0,4,36,false⟩]) rfl (by (repeat' (first|exact trivial|refine And.intro (by first|rfl|(simp[get,Nat.beq];done)|(simp[get,Nat.beq];omega)|(dsimp only[get];congr 1<;>first|rfl|omega|(simp;done)|(simp;omega))) ?_))) ⟨_,rfl⟩ (fun _=>⟨Nat.zero_le _,rfl,rfl⟩) fun k hk hP=>?_
   by_cases hlt:k<gs.length
   ·have e:=fm_take grC_len gs k zg hlt;have i1:=all_step (graphOk b.length) gs k zg hlt;have i2:=all_no (graphOk b.length) gs k zg hlt;have hle:=hgl _ (getD_mem (d:=zg) hlt);rw[i1,hP,Bool.true_and];clear i1 hgl;generalize gs.getD k zg=x at *;obtain⟨fi,sz,le⟩:=x;unfold graphOk at i2 ⊢;simp only at i2 hle ⊢;have f3:=ints_len le;have e':List.take 3 (List.drop (k*3) (gs.flatMap grC))=[.int .i64 fi,.int .i64 sz,.sl le.length (le.flatMap intC)]:=e;by_cases h:1≤sz∧sz≤6
    ·obtain⟨q1,q2⟩:=sq_bd h.1 h.2;rw[show insideB sz 1 6=true by simp[insideB,h],Bool.true_and]at i2 ⊢;by_cases h2:0≤fi∧fi≤b.length-sz*sz∧(le.length:Int)=sz*sz
     ·rw[decide_eq_true h2.1,decide_eq_true h2.2.1,decide_eq_true h2.2.2,Bool.true_and,Bool.true_and,Bool.true_and]at i2 ⊢;repeat' (first
       |((with_reducible show VCs _);first|exact True.intro|(simp only[vb,lb];omega)|(simp only[vb,lb,e',f1,hlt,h,h2,q1,q2];and_intros<;>first|omega|(simp<;>omega))|(simp[vb,e',f1,hlt,h,h2,q1,q2]<;>omega))
       |((with_reducible show All _);first|exact True.intro|((try dsimp only[go_sem]);first|(simp[vb,e',f1,hlt,h,h2,q1,q2]<;>omega)|(simp only[vb,and_true,true_implies];(repeat' (first|(with_reducible assumption)|(with_reducible apply And.intro)|intro _|((fail_if_success (with_reducible show(_:Int)≤_));assumption)))<;>first|omega|rfl|(simp only[ab,e',f1,hlt,h,h2,q1,q2];done)|(simp[Nat.mul_one,e',f1,hlt,h,h2,q1,q2]<;>omega)|(simp_all;done))))
       |exact(rfl:some _=_)
       |(
        fail_if_success refine awL ?_
        refine evH [(72,{val:=some (.pv (.agg [.int .i64 fi,.int .i64 sz,.sl le.length (le.flatMap intC)]))})] ?_;repeat1' dsimp only[c30,boxP,rwsP,grsP,casP,go_sem]
        first
        |refine aw4 ?_ ?_ rfl ?_
        |apply aw3
        |apply aw2
        |(refine awB (fun hc=>?_) fun hc=>?_<;>first|(cases hc;done)|(exfalso;first|(simp at hc<;>omega)|(simp[e',f1,hlt,h,h2,q1,q2]at hc;done))|(try simp only[bn]at hc;try contradiction))
        |skip))
      refine aw_forJ le.length (fun j=>(le.take j).all leastOk=true) (fun j=>[(1,.ptr 0 0 0),(4,.pv (.int .i64 k)),(5,.ptr 1 0 0),(6,.pv (.int .i64 j))]) (fun _=>[⟨[.pv (boxP b),.pv (rwsP rs),.pv (grsP gs),.pv (casP cs)],0,4,36,false⟩,⟨[.pv (.int .i64 fi),.pv (.int .i64 sz),.pv (intsQ le)],0,3,99,false⟩]) rfl (by (repeat' (first|exact trivial|refine And.intro (by first|rfl|(simp[get,Nat.beq];done)|(simp[get,Nat.beq];omega)|(dsimp only[get];congr 1<;>first|rfl|omega|(simp;done)|(simp;omega))) ?_))) ⟨_,rfl⟩ (fun _=>⟨Nat.zero_le _,rfl,rfl⟩) fun j hj hP2=>?_
      by_cases hlj:j<le.length
      ·have e3:=fm_one (g:=intC) (fun _=>rfl) le j 0 default hlj;have i3:=all_step leastOk le j 0 hlj;have i4:=all_no leastOk le j 0 hlj;rw[i3,hP2,Bool.true_and];clear i3;generalize le.getD j 0=y at *;repeat' (first
        |((with_reducible show VCs _);first|exact True.intro|(simp only[vb,lb];omega)|(simp only[vb,lb,e3,f3,hlj];and_intros<;>first|omega|(simp<;>omega))|(simp[vb,e3,f3,hlj]<;>omega))
        |((with_reducible show All _);first|exact True.intro|((try dsimp only[go_sem]);first|(simp[vb,e3,f3,hlj]<;>omega)|(simp only[vb,and_true,true_implies];(repeat' (first|(with_reducible assumption)|(with_reducible apply And.intro)|intro _|((fail_if_success (with_reducible show(_:Int)≤_));assumption)))<;>first|omega|rfl|(simp only[ab,e3,f3,hlj];done)|(simp[Nat.mul_one,e3,f3,hlj]<;>omega)|(simp_all;done))))
        |exact(rfl:some _=_)
        |(
         fail_if_success refine awL ?_
         refine evH [(122,{val:=some (.pv (.int .i64 y))}),(129,{val:=some (.pv (.int .i64 y))})] ?_;repeat1' dsimp only[c30,boxP,rwsP,grsP,casP,intsQ,go_sem]
         first
         |refine aw4 ?_ ?_ rfl ?_
         |apply aw3
         |apply aw2
         |(refine awB (fun hc=>?_) fun hc=>?_<;>first|(cases hc;done)|(exfalso;first|(simp at hc<;>omega)|(simp[e3,f3,hlj]at hc;done))|(try simp only[bn]at hc;try contradiction))
         |skip))
       ·rw[i2 (i4 (by
         rw[Bool.eq_false_iff];simp only[leastOk,insideB,ne_eq,Bool.and_eq_true,decide_eq_true_eq];omega))]
       ·exact⟨hlj,by simp only[leastOk,insideB,Bool.and_eq_true,decide_eq_true_eq];omega,by (repeat' (first|exact trivial|refine And.intro (by first|rfl|(simp[get,Nat.beq];done)|(simp[get,Nat.beq];omega)|(dsimp only[get];congr 1<;>first|rfl|omega|(simp;done)|(simp;omega))) ?_)),_,rfl⟩
      ·obtain rfl:j=le.length:=by omega
       rw[List.take_length]at hP2;repeat' (first
        |((with_reducible show VCs _);first|exact True.intro|(simp only[vb,lb];omega)|(simp only[vb,lb,hlj];and_intros<;>first|omega|(simp<;>omega))|(simp[vb,hlj]<;>omega))
        |((with_reducible show All _);first|exact True.intro|((try dsimp only[go_sem]);first|(simp[vb,hlj]<;>omega)|(simp only[vb,and_true,true_implies];(repeat' (first|(with_reducible assumption)|(with_reducible apply And.intro)|intro _|((fail_if_success (with_reducible show(_:Int)≤_));assumption)))<;>first|omega|rfl|(simp only[ab,hlj];done)|(simp[Nat.mul_one,hlj]<;>omega)|(simp_all;done))))
        |exact(rfl:some _=_)
        |(
         fail_if_success refine awL ?_
         refine evA ?_;repeat1' dsimp only[c30,boxP,rwsP,grsP,casP,intsQ,go_sem]
         first
         |refine aw4 ?_ ?_ rfl ?_
         |apply aw3
         |apply aw2
         |(refine awB (fun hc=>?_) fun hc=>?_<;>first|(cases hc;done)|(exfalso;first|(simp at hc<;>omega)|(simp[hlj]at hc;done))|(try simp only[bn]at hc;try contradiction))
         |skip))
       exact⟨hlt,hP2,by (repeat' (first|exact trivial|refine And.intro (by first|rfl|(simp[get,Nat.beq];done)|(simp[get,Nat.beq];omega)|(dsimp only[get];congr 1<;>first|rfl|omega|(simp;done)|(simp;omega))) ?_)),_,rfl⟩
     ·have hr:(decide (0≤fi)&&decide (fi≤b.length-sz*sz)&&decide ((le.length:Int)=sz*sz))=false:=by
       rw[Bool.eq_false_iff];simp only[ne_eq,Bool.and_eq_true,decide_eq_true_eq];omega
      rw[hr,Bool.false_and]at i2 ⊢;repeat' (first
       |((with_reducible show VCs _);first|exact True.intro|(simp only[vb,lb];omega)|(simp only[vb,lb,e',f1,hlt,h,h2,q1,q2];and_intros<;>first|omega|(simp<;>omega))|(simp[vb,e',f1,hlt,h,h2,q1,q2]<;>omega))
       |((with_reducible show All _);first|exact True.intro|((try dsimp only[go_sem]);first|(simp[vb,e',f1,hlt,h,h2,q1,q2]<;>omega)|(simp only[vb,and_true,true_implies];(repeat' (first|(with_reducible assumption)|(with_reducible apply And.intro)|intro _|((fail_if_success (with_reducible show(_:Int)≤_));assumption)))<;>first|omega|rfl|(simp only[ab,e',f1,hlt,h,h2,q1,q2];done)|(simp[Nat.mul_one,e',f1,hlt,h,h2,q1,q2]<;>omega)|(simp_all;done))))
       |exact(rfl:some _=_)
       |(
        fail_if_success refine awL ?_
        refine evH [(72,{val:=some (.pv (.agg [.int .i64 fi,.int .i64 sz,.sl le.length (le.flatMap intC)]))})] ?_;repeat1' dsimp only[c30,boxP,rwsP,grsP,casP,go_sem]
        first
        |refine aw4 ?_ ?_ rfl ?_
        |apply aw3
        |apply aw2
        |(refine awB (fun hc=>?_) fun hc=>?_<;>first|(cases hc;done)|(exfalso;first|(simp at hc<;>omega)|(simp[e',f1,hlt,h,h2,q1,q2]at hc;done))|(try simp only[bn]at hc;try contradiction))
        |skip))
      all_goals rw[i2 rfl]
    ·rw[show insideB sz 1 6=false by simp[insideB];omega]at i2 ⊢;repeat' (first
      |((with_reducible show VCs _);first|exact True.intro|(simp only[vb,lb];omega)|(simp only[vb,lb,e',f1,hlt,h];and_intros<;>first|omega|(simp<;>omega))|(simp[vb,e',f1,hlt,h]<;>omega))
      |((with_reducible show All _);first|exact True.intro|((try dsimp only[go_sem]);first|(simp[vb,e',f1,hlt,h]<;>omega)|(simp only[vb,and_true,true_implies];(repeat' (first|(with_reducible assumption)|(with_reducible apply And.intro)|intro _|((fail_if_success (with_reducible show(_:Int)≤_));assumption)))<;>first|omega|rfl|(simp only[ab,e',f1,hlt,h];done)|(simp[Nat.mul_one,e',f1,hlt,h]<;>omega)|(simp_all;done))))
      |exact(rfl:some _=_)
      |(
       fail_if_success refine awL ?_
       refine evH [(72,{val:=some (.pv (.agg [.int .i64 fi,.int .i64 sz,.sl le.length (le.flatMap intC)]))})] ?_;repeat1' dsimp only[c30,boxP,rwsP,grsP,casP,go_sem]
       first
       |refine aw4 ?_ ?_ rfl ?_
       |apply aw3
       |apply aw2
       |(refine awB (fun hc=>?_) fun hc=>?_<;>first|(cases hc;done)|(exfalso;first|(simp at hc<;>omega)|(simp[e',f1,hlt,h]at hc;done))|(try simp only[bn]at hc;try contradiction))
       |skip))
     all_goals rw[i2 rfl]
   ·obtain rfl:k=gs.length:=by omega
    rw[List.take_length]at hP;rw[hP];repeat' (first
     |((with_reducible show VCs _);first|exact True.intro|(simp only[vb,lb];omega)|(simp only[vb,lb,hlt];and_intros<;>first|omega|(simp<;>omega))|(simp[vb,hlt]<;>omega))
     |((with_reducible show All _);first|exact True.intro|((try dsimp only[go_sem]);first|(simp[vb,hlt]<;>omega)|(simp only[vb,and_true,true_implies];(repeat' (first|(with_reducible assumption)|(with_reducible apply And.intro)|intro _|((fail_if_success (with_reducible show(_:Int)≤_));assumption)))<;>first|omega|rfl|(simp only[ab,hlt];done)|(simp[Nat.mul_one,hlt]<;>omega)|(simp_all;done))))
     |exact(rfl:some _=_)
     |(
      fail_if_success refine awL ?_
      refine evA ?_;repeat1' dsimp only[c30,boxP,rwsP,grsP,casP,go_sem]
      first
      |refine aw4 ?_ ?_ rfl ?_
      |apply aw3
      |apply aw2
      |(refine awB (fun hc=>?_) fun hc=>?_<;>first|(cases hc;done)|(exfalso;first|(simp at hc<;>omega)|(simp[hlt]at hc;done))|(try simp only[bn]at hc;try contradiction))
      |skip))
def sizeB:List Rg→Int→Int
 |[],n=>n
 |r::l,n=>sizeB l (min (n*(r.hi-r.lo+1)) 1073741824)
def boxSize (b:List Rg):Int:=if boxOk b=true∧emptyB b=false then sizeB b 1 else 0
theorem refValid17_nil (b:List Rg) (hb:b.length≤1000000000):PureOK ctx 60 [boxP b,.nilsl] (.bool (boxOk b)):=by
 have h:=refValid17_ok b [] hb (by simp) (by simp);rw[show ivOk b []=boxOk b by simp[ivOk]]at h;refine PureOK.canon_args 1 ?_;have e:∀l:List PV,l.map (canon 0)=l:=fun l=>by rw[show canon 0=id from funext fun _=>by simp[canon]];simp
 simpa [canon,boxP,rwsP,e]using h
set_option maxHeartbeats 4000000 in
theorem size17_ok (b:List Rg) (hb:b.length≤1000000000):PureOK ctx 70 [boxP b] (.int .i64 (boxSize b)):=by
 have h1:=refValid17_nil b hb;have h2:=refEmpty_ok b hb;have f1:=box_len b;have hbx:=fun (h:boxOk b=true) k=>rgOk_bd (boxOk_at h k)
 have hem:emptyB b=false→∀k,k<b.length→(b.getD k zr).lo≤(b.getD k zr).hi:=fun h k hk=>by
  have:=List.any_eq_false.mp h _ (getD_mem (d:=zr) hk);simpa [emptyR]using this
 unfold boxSize;unfold boxP at h1 h2;generalize boxOk b=q1 at *;generalize emptyB b=q2 at *;by_cases hc:q1=true∧q2=false
 ·obtain⟨rfl,rfl⟩:=hc;rw[if_pos ⟨rfl,rfl⟩];generalize hr:sizeB b 1=r;refine pure_body' (C:=ctx) (Fn.of fn70 rfl) rfl ?_;unfold c70;repeat' (first
   |((with_reducible show VCs _);first|exact True.intro|(simp only[vb,lb];omega)|(simp only[vb,lb,h1,h2];and_intros<;>first|omega|(simp<;>omega))|(simp[vb,h1,h2]<;>omega))
   |((with_reducible show All _);first|exact True.intro|((try dsimp only[go_sem]);first|(simp[vb,h1,h2]<;>omega)|(simp only[vb,and_true,true_implies];(repeat' (first|(with_reducible assumption)|(with_reducible apply And.intro)|intro _|((fail_if_success (with_reducible show(_:Int)≤_));assumption)))<;>first|omega|rfl|(simp only[ab,h1,h2];done)|(simp[Nat.mul_one,h1,h2]<;>omega)|(simp_all;done))))
   |exact(rfl:some _=_)
   |(
    fail_if_success refine awL ?_
    refine evT [(60,fun _=>some (.bool true)),(61,fun _=>some (.bool false))] ?_;repeat1' dsimp only[c70,boxP,go_sem]
    first
    |refine aw4 ?_ ?_ rfl ?_
    |apply aw3
    |apply aw2
    |(refine awB (fun hc=>?_) fun hc=>?_<;>first|(cases hc;done)|(exfalso;first|(simp at hc<;>omega)|(simp[h1,h2]at hc;done))|(try simp only[bn]at hc;try contradiction))
    |skip))
  refine aw_loopJ (σ:=Nat×Int) (fun s=>s.1≤b.length∧sizeB (b.drop s.1) s.2=r∧0≤s.2∧s.2≤1073741824) (fun s=>[(0,.pv (boxP b)),(3,.pv (.int .i64 s.2)),(4,.pv (.int .i64 s.1))]) (fun _=>[]) (fun s=>b.length-s.1) (0,1) ⟨Nat.zero_le _,hr,by decide,by decide⟩ (by (repeat' (first|exact trivial|refine And.intro (by first|rfl|(simp[get,Nat.beq];done)|(simp[get,Nat.beq];omega)|(dsimp only[get];congr 1<;>first|rfl|omega|(simp;done)|(simp;omega))) ?_))) ⟨[],rfl⟩ (fun _ _=>⟨Nat.zero_le _,rfl,rfl⟩) fun s hP=>?_
  obtain⟨k,n⟩:=s;obtain⟨p1,p2,p3,p4⟩:=hP;simp only at p1 p2 p3 p4;by_cases hlt:k<b.length
  ·have e1:=box_lo b k hlt;have e2:(b.flatMap rgC)[k*2+1]?.getD default= .int .i64 (b.getD k zr).hi:=by rw[flatMap_get rgC_len b k zr 1 hlt (by omega)];rfl
   have g1:=hbx rfl k;have g2:=hem rfl k hlt;rw[drop_getD b k zr hlt,sizeB]at p2;clear hbx hem;generalize b.getD k zr=x at *;obtain⟨d,hd⟩:∃d:Int,x.hi-x.lo+1=d:=⟨_,rfl⟩
   have hm:0≤n*d∧n*d≤1073741824*3000000:=⟨Int.mul_nonneg p3 (by omega),Int.mul_le_mul p4 (by omega) (by omega) (by omega)⟩
   rw[hd]at p2;repeat' (first
    |((with_reducible show VCs _);first|exact True.intro|(simp only[vb,lb];omega)|(simp only[vb,lb,e1,e2,f1,hlt,hd];and_intros<;>first|omega|(simp<;>omega))|(simp[vb,e1,e2,f1,hlt,hd]<;>omega))
    |((with_reducible show All _);first|exact True.intro|((try dsimp only[go_sem]);first|(simp[vb,e1,e2,f1,hlt,hd]<;>omega)|(simp only[vb,and_true,true_implies];(repeat' (first|(with_reducible assumption)|(with_reducible apply And.intro)|intro _|((fail_if_success (with_reducible show(_:Int)≤_));assumption)))<;>first|omega|rfl|(simp only[ab,e1,e2,f1,hlt,hd];done)|(simp[Nat.mul_one,e1,e2,f1,hlt,hd]<;>omega)|(simp_all;done))))
    |exact(rfl:some _=_)
    |(
     fail_if_success refine awL ?_
     refine evH [(23,{val:=some (.pv (.int .i64 x.hi))}),(28,{val:=some (.pv (.int .i64 x.lo))}),(30,{val:=some (.pv (.int .i64 d))})] ?_;repeat1' dsimp only[c70,boxP,go_sem]
     first
     |refine aw4 ?_ ?_ rfl ?_
     |apply aw3
     |apply aw2
     |(refine awB (fun hc=>?_) fun hc=>?_<;>first|(cases hc;done)|(exfalso;first|(simp at hc<;>omega)|(simp[e1,e2,f1,hlt,hd]at hc;done))|(try simp only[bn]at hc;try contradiction))
     |skip))
   rw[ite_min];exact⟨(k+1,min (n*d) 1073741824),by show b.length-(k+1)<b.length-k;omega,⟨by show k+1≤_;omega,p2,by show 0≤min (n*d) 1073741824;omega,by show min (n*d) 1073741824≤_;omega⟩,by (repeat' (first|exact trivial|refine And.intro (by first|rfl|(simp[get,Nat.beq];done)|(simp[get,Nat.beq];omega)|(dsimp only[get];congr 1<;>first|rfl|omega|(simp;done)|(simp;omega))) ?_)),_,rfl⟩
  ·obtain rfl:k=b.length:=by omega
   rw[List.drop_length,sizeB]at p2;subst p2;repeat' (first
    |((with_reducible show VCs _);first|exact True.intro|(simp only[vb,lb];omega)|(simp only[vb,lb,hlt];and_intros<;>first|omega|(simp<;>omega))|(simp[vb,hlt]<;>omega))
    |((with_reducible show All _);first|exact True.intro|((try dsimp only[go_sem]);first|(simp[vb,hlt]<;>omega)|(simp only[vb,and_true,true_implies];(repeat' (first|(with_reducible assumption)|(with_reducible apply And.intro)|intro _|((fail_if_success (with_reducible show(_:Int)≤_));assumption)))<;>first|omega|rfl|(simp only[ab,hlt];done)|(simp[Nat.mul_one,hlt]<;>omega)|(simp_all;done))))
    |exact(rfl:some _=_)
    |(
     fail_if_success refine awL ?_
     refine evA ?_;repeat1' dsimp only[c70,boxP,go_sem]
     first
     |refine aw4 ?_ ?_ rfl ?_
     |apply aw3
     |apply aw2
     |(refine awB (fun hc=>?_) fun hc=>?_<;>first|(cases hc;done)|(exfalso;first|(simp at hc<;>omega)|(simp[hlt]at hc;done))|(try simp only[bn]at hc;try contradiction))
     |skip))
 ·rw[if_neg hc];cases q1 with
  |false =>
   refine pure_body' (C:=ctx) (Fn.of fn70 rfl) rfl ?_;unfold c70;repeat' (first
    |((with_reducible show VCs _);first|exact True.intro|(simp only[vb,lb];omega)|(simp only[vb,lb,h1,h2];and_intros<;>first|omega|(simp<;>omega))|(simp[vb,h1,h2]<;>omega))
    |((with_reducible show All _);first|exact True.intro|((try dsimp only[go_sem]);first|(simp[vb,h1,h2]<;>omega)|(simp only[vb,and_true,true_implies];(repeat' (first|(with_reducible assumption)|(with_reducible apply And.intro)|intro _|((fail_if_success (with_reducible show(_:Int)≤_));assumption)))<;>first|omega|rfl|(simp only[ab,h1,h2];done)|(simp[Nat.mul_one,h1,h2]<;>omega)|(simp_all;done))))
    |exact(rfl:some _=_)
    |(
     fail_if_success refine awL ?_
     refine evT [(60,fun _=>some (.bool false)),(61,fun _=>some (.bool q2))] ?_;repeat1' dsimp only[c70,boxP,go_sem]
     first
     |refine aw4 ?_ ?_ rfl ?_
     |apply aw3
     |apply aw2
     |(refine awB (fun hc=>?_) fun hc=>?_<;>first|(cases hc;done)|(exfalso;first|(simp at hc<;>omega)|(simp[h1,h2]at hc;done))|(try simp only[bn]at hc;try contradiction))
     |skip))
  |true =>
   cases q2 with
   |false=>exact absurd ⟨rfl,rfl⟩ hc
   |true =>
    refine pure_body' (C:=ctx) (Fn.of fn70 rfl) rfl ?_;unfold c70;repeat' (first
     |((with_reducible show VCs _);first|exact True.intro|(simp only[vb,lb];omega)|(simp only[vb,lb,h1,h2];and_intros<;>first|omega|(simp<;>omega))|(simp[vb,h1,h2]<;>omega))
     |((with_reducible show All _);first|exact True.intro|((try dsimp only[go_sem]);first|(simp[vb,h1,h2]<;>omega)|(simp only[vb,and_true,true_implies];(repeat' (first|(with_reducible assumption)|(with_reducible apply And.intro)|intro _|((fail_if_success (with_reducible show(_:Int)≤_));assumption)))<;>first|omega|rfl|(simp only[ab,h1,h2];done)|(simp[Nat.mul_one,h1,h2]<;>omega)|(simp_all;done))))
     |exact(rfl:some _=_)
     |(
      fail_if_success refine awL ?_
      refine evT [(60,fun _=>some (.bool true)),(61,fun _=>some (.bool true))] ?_;repeat1' dsimp only[c70,boxP,go_sem]
      first
      |refine aw4 ?_ ?_ rfl ?_
      |apply aw3
      |apply aw2
      |(refine awB (fun hc=>?_) fun hc=>?_<;>first|(cases hc;done)|(exfalso;first|(simp at hc<;>omega)|(simp[h1,h2]at hc;done))|(try simp only[bn]at hc;try contradiction))
      |skip))
end
section
open Rf
def c45:ACode:=(⟨_,by conv=>(lhs;reduce;try simp only[lt1,Int.cast_ofNat_Int,Int.reduceNegSucc,UInt8.reduceOfNat])⟩:{x // codeOf Tryz.prog 45 (fun _=>false)=some x}).1
theorem fn45:fnOf Tryz.prog 45 (fun _=>false)=some (c45,[.t 4],52,true):=by kernel_rfl
def c21:ACode:=(⟨_,by conv=>(lhs;reduce;try simp only[lt1,Int.cast_ofNat_Int,Int.reduceNegSucc,UInt8.reduceOfNat])⟩:{x // codeOf Tryz.prog 21 (fun _=>false)=some x}).1
theorem fn21:fnOf Tryz.prog 21 (fun _=>false)=some (c21,[.t 4],32,true):=by kernel_rfl
def c34:ACode:=(⟨_,by conv=>(lhs;reduce;try simp only[lt1,Int.cast_ofNat_Int,Int.reduceNegSucc,UInt8.reduceOfNat])⟩:{x // codeOf Tryz.prog 34 (fun d=>Nat.beq d 9)=some x}).1
theorem fn34:fnOf Tryz.prog 34 (fun d=>Nat.beq d 9)=some (c34,[.t 6],31,true):=by kernel_rfl
def c35:ACode:=(⟨_,by conv=>(lhs;reduce;try simp only[lt1,Int.cast_ofNat_Int,Int.reduceNegSucc,UInt8.reduceOfNat])⟩:{x // codeOf Tryz.prog 35 (fun _=>false)=some x}).1
theorem fn35:fnOf Tryz.prog 35 (fun _=>false)=some (c35,[.cell 4 2 true],16,true):=by kernel_rfl
def fewB (s:Sy) (most:Int):Bool:=(((decide (s.box.length≤12)&&decide (s.rows.length≤30))&&decide (s.graphs.length≤6))&&decide (s.cases.length≤12))&&sysOk s&&s.cases.all (fun l=>decide (l.length≤8))&&decide (boxSize s.box≤most)
set_option maxHeartbeats 4000000 in
theorem few18_ok (s:Sy) (hs:SyS s) (most:Int):PureOK ctx 45 [.agg [boxP s.box,rwsP s.rows,grsP s.graphs,casP s.cases],.int .i64 most] (.bool (fewB s most)):=by
 have h1:=refSysValid_ok s hs;have h2:=size17_ok s.box hs.b;have f2:=cas_len s.cases;have hb:=hs.b;have hr:=hs.r;have hg:=hs.g;have hc':=hs.c;have hcl:=hs.cl;unfold fewB;generalize sysOk s=q at *;generalize boxSize s.box=z at *;obtain⟨b,rs,gs,cs⟩:=s;simp only at *;clear hs;unfold boxP at h2;unfold boxP rwsP grsP casP at h1;refine pure_body' (C:=ctx) (Fn.of fn45 rfl) rfl ?_;unfold c45;repeat' (first
  |((with_reducible show VCs _);first|exact True.intro|(simp only[vb,lb];omega)|(simp only[vb,lb,h1];and_intros<;>first|omega|(simp<;>omega))|(simp[vb,h1]<;>omega))
  |((with_reducible show All _);first|exact True.intro|((try dsimp only[go_sem]);first|(simp[vb,h1]<;>omega)|(simp only[vb,and_true,true_implies];(repeat' (first|(with_reducible assumption)|(with_reducible apply And.intro)|intro _|((fail_if_success (with_reducible show(_:Int)≤_));assumption)))<;>first|omega|rfl|(simp only[ab,h1];done)|(simp[Nat.mul_one,h1]<;>omega)|(simp_all;done))))
  |exact(rfl:some _=_)
  |(
   fail_if_success refine awL ?_
   refine evT [(30,fun _=>some (.bool q))] ?_;repeat1' dsimp only[c45,boxP,rwsP,grsP,casP,go_sem]
   first
   |refine aw4 ?_ ?_ rfl ?_
   |apply aw3
   |apply aw2
   |(refine awB (fun hc=>?_) fun hc=>?_<;>first|(cases hc;done)|(exfalso;first|(simp at hc<;>omega)|(simp[h1]at hc;done))|(try simp only[bn]at hc;try contradiction))
   |skip))
 ·have hr:((((decide (b.length≤12)&&decide (rs.length≤30))&&decide (gs.length≤6))&&decide (cs.length≤12))&&q)=false:=by
   rw[Bool.eq_false_iff];simp only[ne_eq,Bool.and_eq_true,decide_eq_true_eq];rintro⟨⟨⟨⟨a,b⟩,c⟩,d⟩,e⟩;subst e;simp at hc;omega
  rw[hr];rfl
 ·have hr:((((decide (b.length≤12)&&decide (rs.length≤30))&&decide (gs.length≤6))&&decide (cs.length≤12))&&q)=true:=by
   simp only[Bool.and_eq_true,decide_eq_true_eq];obtain⟨⟨⟨⟨a,b⟩,c⟩,d⟩,e⟩:=hc;exact⟨⟨⟨⟨by omega,by omega⟩,by omega⟩,by omega⟩,e⟩
  rw[hr,Bool.true_and];refine aw_forJ cs.length (fun k=>(cs.take k).all (fun l=>decide (l.length≤8))=true) (fun k=>[(1,.pv (.int .i64 most)),(2,.ptr 0 0 0),(5,.pv (.int .i64 k))]) (fun _=>[⟨[.pv (boxP b),.pv (rwsP rs),.pv (grsP gs),.pv (casP cs)],0,4,36,false⟩]) rfl (by (repeat' (first|exact trivial|refine And.intro (by first|rfl|(simp[get,Nat.beq];done)|(simp[get,Nat.beq];omega)|(dsimp only[get];congr 1<;>first|rfl|omega|(simp;done)|(simp;omega))) ?_))) ⟨_,rfl⟩ (fun _=>⟨Nat.zero_le _,rfl,rfl⟩) fun k hk hP=>?_
  by_cases hlt:k<cs.length
  ·have e:=cas_at cs k hlt;have i1:=all_step (fun l:List Rw=>decide (l.length≤8)) cs k [] hlt;have i2:=all_no (fun l:List Rw=>decide (l.length≤8)) cs k [] hlt;have hx:=hcl _ (getD_mem (d:=([]:List Rw)) hlt);rw[i1,hP,Bool.true_and];clear i1 hcl;generalize cs.getD k []=x at *;repeat' (first
    |((with_reducible show VCs _);first|exact True.intro|(simp only[vb,lb];omega)|(simp only[vb,lb,e,f2,hlt];and_intros<;>first|omega|(simp<;>omega))|(simp[vb,e,f2,hlt]<;>omega))
    |((with_reducible show All _);first|exact True.intro|((try dsimp only[go_sem]);first|(simp[vb,e,f2,hlt]<;>omega)|(simp only[vb,and_true,true_implies];(repeat' (first|(with_reducible assumption)|(with_reducible apply And.intro)|intro _|((fail_if_success (with_reducible show(_:Int)≤_));assumption)))<;>first|omega|rfl|(simp only[ab,e,f2,hlt];done)|(simp[Nat.mul_one,e,f2,hlt]<;>omega)|(simp_all;done))))
    |exact(rfl:some _=_)
    |(
     fail_if_success refine awL ?_
     refine evH [(44,{val:=some (.pv (.sl x.length (x.flatMap rwC)))})] ?_;repeat1' dsimp only[c45,boxP,rwsP,grsP,casP,go_sem]
     first
     |refine aw4 ?_ ?_ rfl ?_
     |apply aw3
     |apply aw2
     |(refine awB (fun hc=>?_) fun hc=>?_<;>first|(cases hc;done)|(exfalso;first|(simp at hc<;>omega)|(simp[e,f2,hlt]at hc;done))|(try simp only[bn]at hc;try contradiction))
     |skip))
   ·rw[i2 (decide_eq_false (by omega))];rfl
   ·exact⟨hlt,decide_eq_true (by omega),by (repeat' (first|exact trivial|refine And.intro (by first|rfl|(simp[get,Nat.beq];done)|(simp[get,Nat.beq];omega)|(dsimp only[get];congr 1<;>first|rfl|omega|(simp;done)|(simp;omega))) ?_)),_,rfl⟩
  ·obtain rfl:k=cs.length:=by omega
   rw[List.take_length]at hP;rw[hP,Bool.true_and];repeat' (first
    |((with_reducible show VCs _);first|exact True.intro|(simp only[vb,lb];omega)|(simp only[vb,lb,hlt,h2];and_intros<;>first|omega|(simp<;>omega))|(simp[vb,hlt,h2]<;>omega))
    |((with_reducible show All _);first|exact True.intro|((try dsimp only[go_sem]);first|(simp[vb,hlt,h2]<;>omega)|(simp only[vb,and_true,true_implies];(repeat' (first|(with_reducible assumption)|(with_reducible apply And.intro)|intro _|((fail_if_success (with_reducible show(_:Int)≤_));assumption)))<;>first|omega|rfl|(simp only[ab,hlt,h2];done)|(simp[Nat.mul_one,hlt,h2]<;>omega)|(simp_all;done))))
    |exact(rfl:some _=_)
    |(
     fail_if_success refine awL ?_
     refine evT [(70,fun _=>some (.int .i64 z))] ?_;repeat1' dsimp only[c45,boxP,rwsP,grsP,casP,go_sem]
     first
     |refine aw4 ?_ ?_ rfl ?_
     |apply aw3
     |apply aw2
     |(refine awB (fun hc=>?_) fun hc=>?_<;>first|(cases hc;done)|(exfalso;first|(simp at hc<;>omega)|(simp[hlt,h2]at hc;done))|(try simp only[bn]at hc;try contradiction))
     |skip))
def fewL (s:Sy) (most:Int):Bool:=if sysOk s=true then fewB s most else ((decide ((s.box.length:Int)≤20)&&decide ((s.rows.length:Int)≤30))&&decide ((s.graphs.length:Int)≤6))&&decide ((s.cases.length:Int)≤12)
theorem few_ok (s:Sy) (hs:SyS s) (most:Int):PureOK ctx 21 [.agg [boxP s.box,rwsP s.rows,grsP s.graphs,casP s.cases],.int .i64 most] (.bool (fewL s most)):=by
 have h1:=refSysValid_ok s hs;have h2:=few18_ok s hs most;have hb:=hs.b;have hr:=hs.r;have hg:=hs.g;have hc':=hs.c;unfold fewL;generalize sysOk s=q at *;generalize fewB s most=z at *;obtain⟨b,rs,gs,cs⟩:=s;simp only at *;clear hs;unfold boxP rwsP grsP casP at h1 h2;cases q with
 |true =>
  refine pure_body' (C:=ctx) (Fn.of fn21 rfl) rfl ?_;unfold c21;repeat' (first
   |((with_reducible show VCs _);first|exact True.intro|(simp only[vb,lb];omega)|(simp only[vb,lb,h1,h2];and_intros<;>first|omega|(simp<;>omega))|(simp[vb,h1,h2]<;>omega))
   |((with_reducible show All _);first|exact True.intro|((try dsimp only[go_sem]);first|(simp[vb,h1,h2]<;>omega)|(simp only[vb,and_true,true_implies];(repeat' (first|(with_reducible assumption)|(with_reducible apply And.intro)|intro _|((fail_if_success (with_reducible show(_:Int)≤_));assumption)))<;>first|omega|rfl|(simp only[ab,h1,h2];done)|(simp[Nat.mul_one,h1,h2]<;>omega)|(simp_all;done))))
   |exact(rfl:some _=_)
   |(
    fail_if_success refine awL ?_
    refine evT [(30,fun _=>some (.bool true)),(45,fun _=>some (.bool z))] ?_;repeat1' dsimp only[c21,boxP,rwsP,grsP,casP,go_sem]
    first
    |refine aw4 ?_ ?_ rfl ?_
    |apply aw3
    |apply aw2
    |(refine awB (fun hc=>?_) fun hc=>?_<;>first|(cases hc;done)|(exfalso;first|(simp at hc<;>omega)|(simp[h1,h2]at hc;done))|(try simp only[bn]at hc;try contradiction))
    |skip))
 |false =>
  refine pure_body' (C:=ctx) (Fn.of fn21 rfl) rfl ?_;unfold c21;repeat' (first
   |((with_reducible show VCs _);first|exact True.intro|(simp only[vb,lb];omega)|(simp only[vb,lb,h1];and_intros<;>first|omega|(simp<;>omega))|(simp[vb,h1]<;>omega))
   |((with_reducible show All _);first|exact True.intro|((try dsimp only[go_sem]);first|(simp[vb,h1]<;>omega)|(simp only[vb,and_true,true_implies];(repeat' (first|(with_reducible assumption)|(with_reducible apply And.intro)|intro _|((fail_if_success (with_reducible show(_:Int)≤_));assumption)))<;>first|omega|rfl|(simp only[ab,h1];done)|(simp[Nat.mul_one,h1]<;>omega)|(simp_all;done))))
   |exact(rfl:some _=_)
   |(
    fail_if_success refine awL ?_
    refine evT [(30,fun _=>some (.bool false))] ?_;repeat1' dsimp only[c21,boxP,rwsP,grsP,casP,go_sem]
    first
    |refine aw4 ?_ ?_ rfl ?_
    |apply aw3
    |apply aw2
    |(refine awB (fun hc=>?_) fun hc=>?_<;>first|(cases hc;done)|(exfalso;first|(simp at hc<;>omega)|(simp[h1]at hc;done))|(try simp only[bn]at hc;try contradiction))
    |skip))
  simp only[cond_and];rfl
def withN (b:List Rg) (c:Int) (r:Rg):List Rg:=if 0≤c then b.set c.toNat r else b
theorem withN_take (b:List Rg) (c:Int) (r:Rg) (k:Nat) (h:k<b.length):(withN b c r).take (k+1)=(withN b c r).take k++[if (k:Int)=c then r else b.getD k zr]:=by
 have hl:(withN b c r).length=b.length:=by unfold withN;split<;>simp
 rw[take_succ_getD _ k zr (by omega)];congr 2;unfold withN;by_cases hc:(k:Int)=c
 ·rw[if_pos hc,if_pos (by omega),←hc,Int.toNat_natCast];simp[List.getD,h]
 ·rw[if_neg hc];split
  ·rw[List.getD,List.getD,List.getElem?_set_ne (by omega)]
  ·rfl
theorem withN_len (b:List Rg) (c:Int) (r:Rg):(withN b c r).length=b.length:=by unfold withN;split<;>simp
set_option maxHeartbeats 4000000 in
theorem with_ok (b:List Rg) (c:Int) (r:Rg) (hb:b.length≤1000000000):PureOK ctx 34 [boxP b,.int .i64 c,.agg [.int .i64 r.lo,.int .i64 r.hi]] (boxP (withN b c r)):=by
 have f1:=box_len b;have hst:=withN_take b c r;have hwl:=withN_len b c r;generalize withN b c r=w at *;refine pure_body' (C:=ctx) (Fn.of fn34 rfl) rfl ?_;unfold c34;repeat' (first
  |((with_reducible first|show VCs _|show All _);simp[vb]<;>omega)
  |exact(rfl:some _=_)
  |(
   fail_if_success refine awL ?_
   refine evA ?_;repeat1' dsimp only[c34,boxP,go_sem]
   first
   |refine aw4 ?_ ?_ rfl ?_
   |apply aw3
   |apply aw2
   |(refine awB (fun hc=>?_) fun hc=>?_<;>first|(cases hc;done)|(exfalso;simp at hc<;>omega)|(try simp only[bn]at hc;try contradiction))
   |skip))
 refine aw_forJ b.length (fun _=>True) (fun k=>[(0,.pv (boxP b)),(1,.pv (.int .i64 c)),(5,.ptr 0 0 0),(7,.ref 1 k 0 k),(8,.pv (.int .i64 k))]) (fun k=>[⟨[.pv (.int .i64 r.lo),.pv (.int .i64 r.hi)],0,2,57,false⟩,⟨((w.take k).flatMap rgC).map .pv,k,2,57,false⟩]) trivial (by (repeat' (first|exact trivial|refine And.intro (by first|rfl|(simp[get,Nat.beq];done)|(simp[get,Nat.beq];omega)|(dsimp only[get];congr 1<;>first|rfl|omega|(simp;done)|(simp;omega))) ?_))) ⟨[],rfl⟩ (fun _=>⟨Nat.zero_le _,rfl,by simp[okMem,bnd]⟩) fun k hk _=>?_
 by_cases hlt:k<b.length
 ·have e:=fm_take rgC_len b k zr hlt;have f2:=box_len (w.take k);have hl:(w.take k).length=k:=by rw[List.length_take];omega
  have hs:=hst k hlt;rw[hl]at f2;rw[hs];clear hst hs;generalize b.getD k zr=x at *;generalize w.take k=v at *;by_cases hc:(k:Int)=c
  ·rw[if_pos hc];repeat' (first
    |((with_reducible show VCs _);first|exact True.intro|(simp only[vb,lb];omega)|(simp only[vb,lb,f1,f2,hlt,hc];and_intros<;>first|omega|(simp<;>omega))|(simp[vb,f1,f2,hlt,hc]<;>omega))
    |((with_reducible show All _);first|exact True.intro|((try dsimp only[go_sem]);first|(simp[vb,f1,f2,hlt,hc]<;>omega)|(simp only[vb,and_true,true_implies];(repeat' (first|(with_reducible assumption)|(with_reducible apply And.intro)|intro _|((fail_if_success (with_reducible show(_:Int)≤_));assumption)))<;>first|omega|rfl|(simp only[ab,f1,f2,hlt,hc];done)|(simp[Nat.mul_one,f1,f2,hlt,hc]<;>omega)|(simp_all;done))))
    |exact(rfl:some _=_)
    |(
     fail_if_success refine awL ?_
     refine evH [(18,{val:=some (.pv (.bool true))}),(22,{mode:=1})] ?_;repeat1' dsimp only[c34,boxP,go_sem]
     first
     |refine aw4 ?_ ?_ rfl ?_
     |apply aw3
     |apply aw2
     |(refine awB (fun hc=>?_) fun hc=>?_<;>first|(cases hc;done)|(exfalso;first|(simp at hc<;>omega)|(simp[f1,f2,hlt,hc]at hc;done))|(try simp only[bn]at hc;try contradiction))
     |skip))
   exact⟨hlt,trivial,by (repeat' (first|exact trivial|refine And.intro (by first|rfl|(simp[get,Nat.beq];done)|(simp[get,Nat.beq];omega)|(dsimp only[get];congr 1<;>first|rfl|omega|(simp;done)|(simp;omega))) ?_)),[],by simp[List.flatMap_append,rgC]⟩
  ·rw[if_neg hc];repeat' (first
    |((with_reducible show VCs _);first|exact True.intro|(simp only[vb,lb];omega)|(simp only[vb,lb,e,f1,f2,hlt,hc,rgC];and_intros<;>first|omega|(simp<;>omega))|(simp[vb,e,f1,f2,hlt,hc,rgC]<;>omega))
    |((with_reducible show All _);first|exact True.intro|((try dsimp only[go_sem]);first|(simp[vb,e,f1,f2,hlt,hc,rgC]<;>omega)|(simp only[vb,and_true,true_implies];(repeat' (first|(with_reducible assumption)|(with_reducible apply And.intro)|intro _|((fail_if_success (with_reducible show(_:Int)≤_));assumption)))<;>first|omega|rfl|(simp only[ab,e,f1,f2,hlt,hc,rgC];done)|(simp[Nat.mul_one,e,f1,f2,hlt,hc,rgC]<;>omega)|(simp_all;done))))
    |exact(rfl:some _=_)
    |(
     fail_if_success refine awL ?_
     refine evH [(18,{val:=some (.pv (.bool false))}),(27,{val:=some (.pv (.agg [.int .i64 x.lo,.int .i64 x.hi]))}),(29,{mode:=1})] ?_;repeat1' dsimp only[c34,boxP,go_sem]
     first
     |refine aw4 ?_ ?_ rfl ?_
     |apply aw3
     |apply aw2
     |(refine awB (fun hc=>?_) fun hc=>?_<;>first|(cases hc;done)|(exfalso;first|(simp at hc<;>omega)|(simp[e,f1,f2,hlt,hc,rgC]at hc;done))|(try simp only[bn]at hc;try contradiction))
     |skip))
   exact⟨hlt,trivial,by (repeat' (first|exact trivial|refine And.intro (by first|rfl|(simp[get,Nat.beq];done)|(simp[get,Nat.beq];omega)|(dsimp only[get];congr 1<;>first|rfl|omega|(simp;done)|(simp;omega))) ?_)),[],by simp[List.flatMap_append,rgC]⟩
 ·obtain rfl:k=b.length:=by omega
  rw[List.take_of_length_le (by omega)];have f2:=box_len w;repeat' (first
   |((with_reducible first|show VCs _|show All _);simp[vb,hlt]<;>omega)
   |exact(rfl:some _=_)
   |(
    fail_if_success refine awL ?_
    refine evA ?_;repeat1' dsimp only[c34,boxP,go_sem]
    first
    |refine aw4 ?_ ?_ rfl ?_
    |apply aw3
    |apply aw2
    |(refine awB (fun hc=>?_) fun hc=>?_<;>first|(cases hc;done)|(exfalso;simp[hlt]at hc<;>omega)|(try simp only[bn]at hc;try contradiction))
    |skip))
  rw[List.take_of_length_le (show w.length≤b.length by omega),←hwl];exact thaw_row rfl rfl rfl (by rw[List.drop_zero,List.take_of_length_le (by simp only[List.length_map];omega)]) (by simp only[List.length_map];omega)
theorem meet17_ok (x y:Rg):PureOK ctx 35 [.agg [.int .i64 x.lo,.int .i64 x.hi],.agg [.int .i64 y.lo,.int .i64 y.hi]] (.agg [.int .i64 (max x.lo y.lo),.int .i64 (min x.hi y.hi)]):=by
 refine pure_body' (C:=ctx) (Fn.of fn35 rfl) rfl ?_;unfold c35;repeat' (first
  |((with_reducible first|show VCs _|show All _);simp[vb]<;>omega)
  |exact(rfl:some _=_)
  |(
   fail_if_success refine awL ?_
   refine evA ?_;repeat1' dsimp only[c35,go_sem]
   first
   |refine aw4 ?_ ?_ rfl ?_
   |apply aw3
   |apply aw2
   |(refine awB (fun hc=>?_) fun hc=>?_<;>first|(cases hc;done)|(exfalso;simp at hc<;>omega)|(try simp only[bn]at hc;try contradiction))
   |skip))
 rw[ite_max,ite_min]
end
section
open Rf
def rgRow (b:List Rg) (g:Nat):Blk:=⟨(b.flatMap rgC).map .pv,g,2,57,false⟩
def plcA (s:Sy) (rows:List Rw) (bx:AV) (ch:Bool):List AV:=[.pv (boxP s.box),.pv (rwsP s.rows),.pv (grsP s.graphs),.pv (casP s.cases),.pv (rwsP rows),bx,.pv (.bool ch)]
theorem box_set2:∀(b:List Rg) (c:Nat) (lo hi:Int),c<b.length→(((b.flatMap rgC).map AV.pv).set (c*2) (.pv (.int .i64 lo))).set (c*2+1) (.pv (.int .i64 hi))=((b.set c ⟨lo,hi⟩).flatMap rgC).map AV.pv
 |[],c,_,_,h=>by simp at h
 |x::r,0,lo,hi,_=>rfl
 |x::r,c+1,lo,hi,h=>by
  have:=box_set2 r c lo hi (by simpa using h);rw[show(c+1)*2=c*2+1+1 by omega];simp only[List.flatMap_cons,rgC,List.cons_append,List.nil_append,List.map_cons,List.set_cons_succ];rw[this]
theorem box_set1:∀(b:List Rg) (c:Nat) (hi:Int),c<b.length→((b.flatMap rgC).map AV.pv).set (c*2+1) (.pv (.int .i64 hi))=((b.set c ⟨(b.getD c zr).lo,hi⟩).flatMap rgC).map AV.pv
 |[],c,_,h=>by simp at h
 |x::r,0,hi,_=>rfl
 |x::r,c+1,hi,h=>by
  have:=box_set1 r c hi (by simpa using h);rw[show(c+1)*2+1=c*2+1+1+1 by omega];simp only[List.flatMap_cons,rgC,List.cons_append,List.nil_append,List.map_cons,List.set_cons_succ];rw[this];simp
theorem row_lo (b:List Rg) (c:Nat) (h:c<b.length):((b.flatMap rgC).map AV.pv)[c*2]?.getD .any= .pv (.int .i64 (b.getD c zr).lo):=by
 have:=flatMap_get rgC_len b c zr 0 h (by omega);rw[Nat.add_zero]at this;rw[List.getElem?_map,this];rfl
theorem row_hi (b:List Rg) (c:Nat) (h:c<b.length):((b.flatMap rgC).map AV.pv)[c*2+1]?.getD .any= .pv (.int .i64 (b.getD c zr).hi):=by
 have:=flatMap_get rgC_len b c zr 1 h (by omega);rw[List.getElem?_map,this];rfl
theorem getD_set_self (b:List Rg) (c:Nat) (y:Rg) (h:c<b.length):(b.set c y).getD c zr=y:=by
 simp[List.getD,h]
theorem plains_map:∀l:List PV,plains (l.map AV.pv)=some l
 |[]=>rfl
 |x::r=>by rw[List.map_cons,plains,plains_map r]
theorem box_thaw (b:List Rg) (g:Nat):(Nat.beq g g&&(0+b.length*2).ble ((b.flatMap rgC).map AV.pv).length)=true∧plains (((b.flatMap rgC).map AV.pv).take (b.length*2))=some (b.flatMap rgC):=by
 have f:=box_len b;refine⟨by simp[f],?_⟩;rw[List.take_of_length_le (by simp[f]),plains_map]
set_option maxHeartbeats 8000000 in
theorem step_graph (s:Sy) (rows:List Rw) (b:List Rg) (g:Nat) (ch:Bool) (x:RStep) (hx:rstepOk x=true) (hk:x.kind=1) (hs:∀q∈s.graphs,graphOk b.length q=true) (hg:s.graphs.length≤1000000000) (hb:b.length≤1000000000) :
  RefOK ctx 78 [.agg (plcA s rows (.ref 0 g 0 b.length) ch),.pv (rstepP x)] [rgRow b g] (.pv (.tup [.bool (stepN s rows b x).2.1,.bool (stepN s rows b x).2.2])) [rgRow (stepN s rows b x).1 g]:=by
 simp only[rstepOk,hk,insideB,Bool.and_eq_true,decide_eq_true_eq,if_true]at hx;obtain⟨⟨-,x1,x2⟩,x3,x4⟩:=hx;obtain⟨i,hi⟩:∃i:Nat,x.index=i:=⟨x.index.toNat,by omega⟩
 obtain⟨c,hc⟩:∃c:Nat,x.cell=c:=⟨x.cell.toNat,by omega⟩
 obtain⟨kd,ix,cl⟩:=x;simp only at *;subst hk hi hc;unfold stepN;simp only[if_true];have f1:=grs_len s.graphs;have f2:=box_len b;obtain⟨hth1,hth2⟩:=box_thaw b g;by_cases h1:i<s.graphs.length
 ·have e1:=fm_take grC_len s.graphs i zg h1;have hgo:=hs _ (getD_mem (d:=zg) h1);have hcl:=closes_ok s rows b ch (s.graphs.getD i zg);simp only[show(i:Int)<s.graphs.length from by omega,if_true,Int.toNat_natCast];generalize s.graphs.getD i zg=q at *;have hgo':=hgo;simp only[graphOk,insideB,Bool.and_eq_true,decide_eq_true_eq]at hgo';obtain⟨⟨⟨⟨⟨g1,g2⟩,g3⟩,g4⟩,g5⟩,g6⟩:=hgo';have hsq:=sq_bd g1 g2;by_cases h2:q.first≤c∧(c:Int)<q.first+q.least.length
  ·obtain⟨k,hk⟩:∃k:Nat,(c:Int)-q.first=k:=⟨((c:Int)-q.first).toNat,by omega⟩
   have hkl:k<q.least.length:=by omega
   have hcb:c<b.length:=by omega
   have hcl:=hcl k hgo hb hkl;simp only[h2,and_self,if_true,hk,Int.toNat_natCast];have e2:=fm_one (g:=intC) (fun _=>rfl) q.least k 0 default hkl;have hlb:leastOk (q.least.getD k 0)=true:=List.all_eq_true.mp g6 _ (getD_mem hkl);simp only[leastOk,insideB,Bool.and_eq_true,decide_eq_true_eq]at hlb;have hfc:q.first.toNat+k=c:=by omega
   unfold cutN;simp only[hfc];have e3:=row_hi b c hcb;have e4:=row_lo b c hcb;have e5:=fun h=>box_set1 b c h hcb
   have e6:=getD_set_self b c;generalize hy:b.getD c zr=y at *;generalize q.least.getD k 0=lk at *;have f3:=ints_len q.least;generalize closesN q b k=cq at *;cases cq with
   |true =>
    simp only[if_true,plcA,rstepP,rstepC,rgRow];refine ref_body' (C:=ctx) (Fn.of fn78 rfl) rfl (by simp) rfl (by simp[okMem,bnd]) ?_;unfold c78;refine evH [(26,{val:=some (.pv (.agg [.int .i64 q.first,.int .i64 q.size,.sl q.least.length (q.least.flatMap intC)]))}),(31,{val:=some (.pv (.int .i64 k))}),(33,{val:=some (.pv (.bool false))}),(39,{val:=some (.pv (.bool false))}),(44,{val:=some (.pv (.bool true)),args:=some [.agg (plcC s rows b ch),.agg [.int .i64 q.first,.int .i64 q.size,intsQ q.least],.int .i64 k]})] ?_;dsimp only[grsP,boxP,rwsP,casP,intsQ,go_sem]
    try dsimp only[grsP,boxP,rwsP,casP,intsQ,go_sem]
    refine⟨(by first|exact True.intro|(simp only[vb,lb];omega)|(simp only[vb,lb,e1,f1,h1,f3,hk,hkl,grC,intsQ];and_intros<;>first|omega|(simp<;>omega))|(simp[vb,e1,f1,h1,f3,hk,hkl,grC,intsQ]<;>omega)),(by first|exact True.intro|((try dsimp only[go_sem]);first|(simp[vb,e1,f1,h1,f3,hk,hkl,grC,intsQ]<;>omega)|(simp only[vb,and_true,true_implies];(repeat' (first|(with_reducible assumption)|(with_reducible apply And.intro)|intro _|((fail_if_success (with_reducible show(_:Int)≤_));assumption)))<;>first|omega|rfl|(simp only[ab,e1,f1,h1,f3,hk,hkl,grC,intsQ];done)|(simp[Nat.mul_one,e1,f1,h1,f3,hk,hkl,grC,intsQ]<;>omega)|(simp_all;done)))),?_⟩
    refine evH [(26,{val:=some (.pv (.agg [.int .i64 q.first,.int .i64 q.size,.sl q.least.length (q.least.flatMap intC)]))}),(31,{val:=some (.pv (.int .i64 k))}),(33,{val:=some (.pv (.bool false))}),(39,{val:=some (.pv (.bool false))}),(44,{val:=some (.pv (.bool true)),args:=some [.agg (plcC s rows b ch),.agg [.int .i64 q.first,.int .i64 q.size,intsQ q.least],.int .i64 k]})] ?_;dsimp only[grsP,boxP,rwsP,casP,intsQ,go_sem];try dsimp only[grsP,boxP,rwsP,casP,intsQ,go_sem]
    refine⟨(by simp[vb,e1,f1,h1,f3,hk,hkl,grC,intsQ]<;>omega),(by simp[vb,e1,f1,h1,f3,hk,hkl,grC,intsQ]<;>omega),?_⟩;refine evH [(26,{val:=some (.pv (.agg [.int .i64 q.first,.int .i64 q.size,.sl q.least.length (q.least.flatMap intC)]))}),(31,{val:=some (.pv (.int .i64 k))}),(33,{val:=some (.pv (.bool false))}),(39,{val:=some (.pv (.bool false))}),(44,{val:=some (.pv (.bool true)),args:=some [.agg (plcC s rows b ch),.agg [.int .i64 q.first,.int .i64 q.size,intsQ q.least],.int .i64 k]})] ?_;dsimp only[grsP,boxP,rwsP,casP,intsQ,go_sem];refine⟨fun _=>?_,fun h=>by simp at h<;>omega⟩
    refine evH [(26,{val:=some (.pv (.agg [.int .i64 q.first,.int .i64 q.size,.sl q.least.length (q.least.flatMap intC)]))}),(31,{val:=some (.pv (.int .i64 k))}),(33,{val:=some (.pv (.bool false))}),(39,{val:=some (.pv (.bool false))}),(44,{val:=some (.pv (.bool true)),args:=some [.agg (plcC s rows b ch),.agg [.int .i64 q.first,.int .i64 q.size,intsQ q.least],.int .i64 k]})] ?_;dsimp only[grsP,boxP,rwsP,casP,intsQ,go_sem];try dsimp only[grsP,boxP,rwsP,casP,intsQ,go_sem]
    refine⟨(by first|exact True.intro|(simp only[vb,lb];omega)|(simp only[vb,lb,e1,f1,h1,f3,hk,hkl,grC,intsQ];and_intros<;>first|omega|(simp<;>omega))|(simp[vb,e1,f1,h1,f3,hk,hkl,grC,intsQ]<;>omega)),(by first|exact True.intro|((try dsimp only[go_sem]);first|(simp[vb,e1,f1,h1,f3,hk,hkl,grC,intsQ]<;>omega)|(simp only[vb,and_true,true_implies];(repeat' (first|(with_reducible assumption)|(with_reducible apply And.intro)|intro _|((fail_if_success (with_reducible show(_:Int)≤_));assumption)))<;>first|omega|rfl|(simp only[ab,e1,f1,h1,f3,hk,hkl,grC,intsQ];done)|(simp[Nat.mul_one,e1,f1,h1,f3,hk,hkl,grC,intsQ]<;>omega)|(simp_all;done)))),?_⟩
    refine evH [(26,{val:=some (.pv (.agg [.int .i64 q.first,.int .i64 q.size,.sl q.least.length (q.least.flatMap intC)]))}),(31,{val:=some (.pv (.int .i64 k))}),(33,{val:=some (.pv (.bool false))}),(39,{val:=some (.pv (.bool false))}),(44,{val:=some (.pv (.bool true)),args:=some [.agg (plcC s rows b ch),.agg [.int .i64 q.first,.int .i64 q.size,intsQ q.least],.int .i64 k]})] ?_;dsimp only[grsP,boxP,rwsP,casP,intsQ,go_sem];refine⟨fun h=>by simp at h<;>omega,fun _=>?_⟩
    refine evH [(26,{val:=some (.pv (.agg [.int .i64 q.first,.int .i64 q.size,.sl q.least.length (q.least.flatMap intC)]))}),(31,{val:=some (.pv (.int .i64 k))}),(33,{val:=some (.pv (.bool false))}),(39,{val:=some (.pv (.bool false))}),(44,{val:=some (.pv (.bool true)),args:=some [.agg (plcC s rows b ch),.agg [.int .i64 q.first,.int .i64 q.size,intsQ q.least],.int .i64 k]})] ?_;dsimp only[grsP,boxP,rwsP,casP,intsQ,go_sem]
    refine evH [(26,{val:=some (.pv (.agg [.int .i64 q.first,.int .i64 q.size,.sl q.least.length (q.least.flatMap intC)]))}),(31,{val:=some (.pv (.int .i64 k))}),(33,{val:=some (.pv (.bool false))}),(39,{val:=some (.pv (.bool false))}),(44,{val:=some (.pv (.bool true)),args:=some [.agg (plcC s rows b ch),.agg [.int .i64 q.first,.int .i64 q.size,intsQ q.least],.int .i64 k]})] ?_;dsimp only[grsP,boxP,rwsP,casP,intsQ,go_sem];try dsimp only[grsP,boxP,rwsP,casP,intsQ,go_sem]
    refine⟨(by first|exact True.intro|(simp only[vb,lb];omega)|(simp only[vb,lb,e1,f1,h1,f3,hk,hkl,grC,intsQ];and_intros<;>first|omega|(simp<;>omega))|(simp[vb,e1,f1,h1,f3,hk,hkl,grC,intsQ]<;>omega)),(by first|exact True.intro|((try dsimp only[go_sem]);first|(simp[vb,e1,f1,h1,f3,hk,hkl,grC,intsQ]<;>omega)|(simp only[vb,and_true,true_implies];(repeat' (first|(with_reducible assumption)|(with_reducible apply And.intro)|intro _|((fail_if_success (with_reducible show(_:Int)≤_));assumption)))<;>first|omega|rfl|(simp only[ab,e1,f1,h1,f3,hk,hkl,grC,intsQ];done)|(simp[Nat.mul_one,e1,f1,h1,f3,hk,hkl,grC,intsQ]<;>omega)|(simp_all;done)))),?_⟩
    refine evH [(26,{val:=some (.pv (.agg [.int .i64 q.first,.int .i64 q.size,.sl q.least.length (q.least.flatMap intC)]))}),(31,{val:=some (.pv (.int .i64 k))}),(33,{val:=some (.pv (.bool false))}),(39,{val:=some (.pv (.bool false))}),(44,{val:=some (.pv (.bool true)),args:=some [.agg (plcC s rows b ch),.agg [.int .i64 q.first,.int .i64 q.size,intsQ q.least],.int .i64 k]})] ?_;dsimp only[grsP,boxP,rwsP,casP,intsQ,go_sem];try dsimp only[grsP,boxP,rwsP,casP,intsQ,go_sem]
    refine⟨(by first|exact True.intro|(simp only[vb,lb];omega)|(simp only[vb,lb,e1,f1,h1,f3,hk,hkl,grC,intsQ];and_intros<;>first|omega|(simp<;>omega))|(simp[vb,e1,f1,h1,f3,hk,hkl,grC,intsQ]<;>omega)),(by first|exact True.intro|((try dsimp only[go_sem]);first|(simp[vb,e1,f1,h1,f3,hk,hkl,grC,intsQ]<;>omega)|(simp only[vb,and_true,true_implies];(repeat' (first|(with_reducible assumption)|(with_reducible apply And.intro)|intro _|((fail_if_success (with_reducible show(_:Int)≤_));assumption)))<;>first|omega|rfl|(simp only[ab,e1,f1,h1,f3,hk,hkl,grC,intsQ];done)|(simp[Nat.mul_one,e1,f1,h1,f3,hk,hkl,grC,intsQ]<;>omega)|(simp_all;done)))),?_⟩
    refine evH [(26,{val:=some (.pv (.agg [.int .i64 q.first,.int .i64 q.size,.sl q.least.length (q.least.flatMap intC)]))}),(31,{val:=some (.pv (.int .i64 k))}),(33,{val:=some (.pv (.bool false))}),(39,{val:=some (.pv (.bool false))}),(44,{val:=some (.pv (.bool true)),args:=some [.agg (plcC s rows b ch),.agg [.int .i64 q.first,.int .i64 q.size,intsQ q.least],.int .i64 k]})] ?_;dsimp only[grsP,boxP,rwsP,casP,intsQ,go_sem];try dsimp only[grsP,boxP,rwsP,casP,intsQ,go_sem]
    refine⟨(by first|exact True.intro|(simp only[vb,lb];omega)|(simp only[vb,lb,e1,f1,h1,f3,hk,hkl,grC,intsQ];and_intros<;>first|omega|(simp<;>omega))|(simp[vb,e1,f1,h1,f3,hk,hkl,grC,intsQ]<;>omega)),(by first|exact True.intro|((try dsimp only[go_sem]);first|(simp[vb,e1,f1,h1,f3,hk,hkl,grC,intsQ]<;>omega)|(simp only[vb,and_true,true_implies];(repeat' (first|(with_reducible assumption)|(with_reducible apply And.intro)|intro _|((fail_if_success (with_reducible show(_:Int)≤_));assumption)))<;>first|omega|rfl|(simp only[ab,e1,f1,h1,f3,hk,hkl,grC,intsQ];done)|(simp[Nat.mul_one,e1,f1,h1,f3,hk,hkl,grC,intsQ]<;>omega)|(simp_all;done)))),?_⟩
    refine evH [(26,{val:=some (.pv (.agg [.int .i64 q.first,.int .i64 q.size,.sl q.least.length (q.least.flatMap intC)]))}),(31,{val:=some (.pv (.int .i64 k))}),(33,{val:=some (.pv (.bool false))}),(39,{val:=some (.pv (.bool false))}),(44,{val:=some (.pv (.bool true)),args:=some [.agg (plcC s rows b ch),.agg [.int .i64 q.first,.int .i64 q.size,intsQ q.least],.int .i64 k]})] ?_;dsimp only[grsP,boxP,rwsP,casP,intsQ,go_sem];refine⟨fun h=>by simp at h<;>omega,fun _=>?_⟩
    refine evH [(26,{val:=some (.pv (.agg [.int .i64 q.first,.int .i64 q.size,.sl q.least.length (q.least.flatMap intC)]))}),(31,{val:=some (.pv (.int .i64 k))}),(33,{val:=some (.pv (.bool false))}),(39,{val:=some (.pv (.bool false))}),(44,{val:=some (.pv (.bool true)),args:=some [.agg (plcC s rows b ch),.agg [.int .i64 q.first,.int .i64 q.size,intsQ q.least],.int .i64 k]})] ?_;dsimp only[grsP,boxP,rwsP,casP,intsQ,go_sem]
    refine evH [(26,{val:=some (.pv (.agg [.int .i64 q.first,.int .i64 q.size,.sl q.least.length (q.least.flatMap intC)]))}),(31,{val:=some (.pv (.int .i64 k))}),(33,{val:=some (.pv (.bool false))}),(39,{val:=some (.pv (.bool false))}),(44,{val:=some (.pv (.bool true)),args:=some [.agg (plcC s rows b ch),.agg [.int .i64 q.first,.int .i64 q.size,intsQ q.least],.int .i64 k]})] ?_;dsimp only[grsP,boxP,rwsP,casP,intsQ,go_sem];try dsimp only[grsP,boxP,rwsP,casP,intsQ,go_sem]
    refine⟨(by first|exact True.intro|(simp only[vb,lb];omega)|(simp only[vb,lb,e1,f1,h1,f3,hk,hkl,grC,intsQ];and_intros<;>first|omega|(simp<;>omega))|(simp[vb,e1,f1,h1,f3,hk,hkl,grC,intsQ]<;>omega)),?_,?_⟩
    ·rw[hth1,cond_true,hth2];exact⟨rfl,hcl,trivial⟩
    refine evH [(55,{val:=some (.pv (.int .i64 y.hi))}),(60,{val:=some (.pv (.int .i64 lk))})] ?_;dsimp only[grsP,boxP,rwsP,casP,intsQ,go_sem];refine⟨fun _=>?_,fun h=>by simp at h<;>omega⟩;refine aw_regT (T:=[]) (H:=[(55,{val:=some (.pv (.int .i64 y.hi))}),(60,{val:=some (.pv (.int .i64 lk))})]) (by rfl) ?_;dsimp only[evOpsTail,grsP,boxP,rwsP,casP,intsQ,go_sem];try dsimp only[grsP,boxP,rwsP,casP,intsQ,go_sem]
    refine⟨(by first|exact True.intro|(simp only[vb,lb];omega)|(simp only[vb,lb,e2,e3,f2,f3,hcb,hkl];and_intros<;>first|omega|(simp<;>omega))|(simp[vb,e2,e3,f2,f3,hcb,hkl]<;>omega)),(by first|exact True.intro|((try dsimp only[go_sem]);first|(simp[vb,e2,e3,f2,f3,hcb,hkl]<;>omega)|(simp only[vb,and_true,true_implies];(repeat' (first|(with_reducible assumption)|(with_reducible apply And.intro)|intro _|((fail_if_success (with_reducible show(_:Int)≤_));assumption)))<;>first|omega|rfl|(simp only[ab,e2,e3,f2,f3,hcb,hkl];done)|(simp[Nat.mul_one,e2,e3,f2,f3,hcb,hkl]<;>omega)|(simp_all;done)))),?_⟩
    rw[show(((b.flatMap rgC).map AV.pv).set (0+(c:Int).toNat*2+1) (.pv (.int .i64 (if lk-1<y.hi then lk-1 else y.hi))))=((b.set c ⟨y.lo,if lk-1<y.hi then lk-1 else y.hi⟩).flatMap rgC).map AV.pv from by rw[←e5];simp];rw[ite_min];have e7:=row_hi (b.set c ⟨y.lo,min y.hi (lk-1)⟩) c (by simpa using hcb);have e8:=row_lo (b.set c ⟨y.lo,min y.hi (lk-1)⟩) c (by simpa using hcb);have e9:=box_len (b.set c ⟨y.lo,min y.hi (lk-1)⟩);rw[e6 _ hcb]at e7 e8;rw[List.length_set]at e9;clear e5 e6;generalize b.set c ⟨y.lo,min y.hi (lk-1)⟩=b2 at *;repeat' (first
     |((with_reducible show VCs _);first|exact True.intro|(simp only[vb,lb];omega)|(simp only[vb,lb,e7,e8,e9,hcb];and_intros<;>first|omega|(simp<;>omega))|(simp[vb,e7,e8,e9,hcb]<;>omega))
     |((with_reducible show All _);first|exact True.intro|((try dsimp only[go_sem]);first|(simp[vb,e7,e8,e9,hcb]<;>omega)|(simp only[vb,and_true,true_implies];(repeat' (first|(with_reducible assumption)|(with_reducible apply And.intro)|intro _|((fail_if_success (with_reducible show(_:Int)≤_));assumption)))<;>first|omega|rfl|(simp only[ab,e7,e8,e9,hcb];done)|(simp[Nat.mul_one,e7,e8,e9,hcb]<;>omega)|(simp_all;done))))
     |exact(rfl:some _=_)
     |(
      fail_if_success refine awL ?_
      refine evH [(71,{val:=some (.pv (.int .i64 y.lo))}),(78,{val:=some (.pv (.int .i64 (min y.hi (lk-1))))})] ?_;repeat1' dsimp only[c78,go_sem]
      first
      |refine aw4 ?_ ?_ rfl ?_
      |apply aw3
      |apply aw2
      |(refine awB (fun hc=>?_) fun hc=>?_<;>first|(cases hc;done)|(exfalso;first|(simp at hc<;>omega)|(simp[e7,e8,e9,hcb]at hc;done))|(try simp only[bn]at hc;try contradiction))
      |skip))
    exact⟨⟨trivial,rfl⟩,_,rfl⟩
   |false =>
    simp only[Bool.false_eq_true,if_false,plcA,rstepP,rstepC,rgRow];have e7:b.set c y=b:=by
     refine List.ext_getElem? fun j=>?_
     by_cases hj:c=j
     ·subst hj;rw[List.getElem?_set_self hcb,←hy,List.getD,List.getElem?_eq_getElem hcb];rfl
     ·rw[List.getElem?_set_ne hj]
    rw[e7];clear e5 e6 e7;refine ref_body' (C:=ctx) (Fn.of fn78 rfl) rfl (by simp) rfl (by simp[okMem,bnd]) ?_;unfold c78;refine evH [(26,{val:=some (.pv (.agg [.int .i64 q.first,.int .i64 q.size,.sl q.least.length (q.least.flatMap intC)]))}),(31,{val:=some (.pv (.int .i64 k))}),(33,{val:=some (.pv (.bool false))}),(39,{val:=some (.pv (.bool false))}),(44,{val:=some (.pv (.bool false)),args:=some [.agg (plcC s rows b ch),.agg [.int .i64 q.first,.int .i64 q.size,intsQ q.least],.int .i64 k]})] ?_;dsimp only[grsP,boxP,rwsP,casP,intsQ,go_sem];try dsimp only[grsP,boxP,rwsP,casP,intsQ,go_sem]
    refine⟨(by first|exact True.intro|(simp only[vb,lb];omega)|(simp only[vb,lb,e1,f1,h1,f3,hk,hkl,grC,intsQ];and_intros<;>first|omega|(simp<;>omega))|(simp[vb,e1,f1,h1,f3,hk,hkl,grC,intsQ]<;>omega)),(by first|exact True.intro|((try dsimp only[go_sem]);first|(simp[vb,e1,f1,h1,f3,hk,hkl,grC,intsQ]<;>omega)|(simp only[vb,and_true,true_implies];(repeat' (first|(with_reducible assumption)|(with_reducible apply And.intro)|intro _|((fail_if_success (with_reducible show(_:Int)≤_));assumption)))<;>first|omega|rfl|(simp only[ab,e1,f1,h1,f3,hk,hkl,grC,intsQ];done)|(simp[Nat.mul_one,e1,f1,h1,f3,hk,hkl,grC,intsQ]<;>omega)|(simp_all;done)))),?_⟩
    refine evH [(26,{val:=some (.pv (.agg [.int .i64 q.first,.int .i64 q.size,.sl q.least.length (q.least.flatMap intC)]))}),(31,{val:=some (.pv (.int .i64 k))}),(33,{val:=some (.pv (.bool false))}),(39,{val:=some (.pv (.bool false))}),(44,{val:=some (.pv (.bool false)),args:=some [.agg (plcC s rows b ch),.agg [.int .i64 q.first,.int .i64 q.size,intsQ q.least],.int .i64 k]})] ?_;dsimp only[grsP,boxP,rwsP,casP,intsQ,go_sem];try dsimp only[grsP,boxP,rwsP,casP,intsQ,go_sem]
    refine⟨(by simp[vb,e1,f1,h1,f3,hk,hkl,grC,intsQ]<;>omega),(by simp[vb,e1,f1,h1,f3,hk,hkl,grC,intsQ]<;>omega),?_⟩;refine evH [(26,{val:=some (.pv (.agg [.int .i64 q.first,.int .i64 q.size,.sl q.least.length (q.least.flatMap intC)]))}),(31,{val:=some (.pv (.int .i64 k))}),(33,{val:=some (.pv (.bool false))}),(39,{val:=some (.pv (.bool false))}),(44,{val:=some (.pv (.bool false)),args:=some [.agg (plcC s rows b ch),.agg [.int .i64 q.first,.int .i64 q.size,intsQ q.least],.int .i64 k]})] ?_;dsimp only[grsP,boxP,rwsP,casP,intsQ,go_sem];refine⟨fun _=>?_,fun h=>by simp at h<;>omega⟩
    refine evH [(26,{val:=some (.pv (.agg [.int .i64 q.first,.int .i64 q.size,.sl q.least.length (q.least.flatMap intC)]))}),(31,{val:=some (.pv (.int .i64 k))}),(33,{val:=some (.pv (.bool false))}),(39,{val:=some (.pv (.bool false))}),(44,{val:=some (.pv (.bool false)),args:=some [.agg (plcC s rows b ch),.agg [.int .i64 q.first,.int .i64 q.size,intsQ q.least],.int .i64 k]})] ?_;dsimp only[grsP,boxP,rwsP,casP,intsQ,go_sem];try dsimp only[grsP,boxP,rwsP,casP,intsQ,go_sem]
    refine⟨(by first|exact True.intro|(simp only[vb,lb];omega)|(simp only[vb,lb,e1,f1,h1,f3,hk,hkl,grC,intsQ];and_intros<;>first|omega|(simp<;>omega))|(simp[vb,e1,f1,h1,f3,hk,hkl,grC,intsQ]<;>omega)),(by first|exact True.intro|((try dsimp only[go_sem]);first|(simp[vb,e1,f1,h1,f3,hk,hkl,grC,intsQ]<;>omega)|(simp only[vb,and_true,true_implies];(repeat' (first|(with_reducible assumption)|(with_reducible apply And.intro)|intro _|((fail_if_success (with_reducible show(_:Int)≤_));assumption)))<;>first|omega|rfl|(simp only[ab,e1,f1,h1,f3,hk,hkl,grC,intsQ];done)|(simp[Nat.mul_one,e1,f1,h1,f3,hk,hkl,grC,intsQ]<;>omega)|(simp_all;done)))),?_⟩
    refine evH [(26,{val:=some (.pv (.agg [.int .i64 q.first,.int .i64 q.size,.sl q.least.length (q.least.flatMap intC)]))}),(31,{val:=some (.pv (.int .i64 k))}),(33,{val:=some (.pv (.bool false))}),(39,{val:=some (.pv (.bool false))}),(44,{val:=some (.pv (.bool false)),args:=some [.agg (plcC s rows b ch),.agg [.int .i64 q.first,.int .i64 q.size,intsQ q.least],.int .i64 k]})] ?_;dsimp only[grsP,boxP,rwsP,casP,intsQ,go_sem];refine⟨fun h=>by simp at h<;>omega,fun _=>?_⟩
    refine evH [(26,{val:=some (.pv (.agg [.int .i64 q.first,.int .i64 q.size,.sl q.least.length (q.least.flatMap intC)]))}),(31,{val:=some (.pv (.int .i64 k))}),(33,{val:=some (.pv (.bool false))}),(39,{val:=some (.pv (.bool false))}),(44,{val:=some (.pv (.bool false)),args:=some [.agg (plcC s rows b ch),.agg [.int .i64 q.first,.int .i64 q.size,intsQ q.least],.int .i64 k]})] ?_;dsimp only[grsP,boxP,rwsP,casP,intsQ,go_sem]
    refine evH [(26,{val:=some (.pv (.agg [.int .i64 q.first,.int .i64 q.size,.sl q.least.length (q.least.flatMap intC)]))}),(31,{val:=some (.pv (.int .i64 k))}),(33,{val:=some (.pv (.bool false))}),(39,{val:=some (.pv (.bool false))}),(44,{val:=some (.pv (.bool false)),args:=some [.agg (plcC s rows b ch),.agg [.int .i64 q.first,.int .i64 q.size,intsQ q.least],.int .i64 k]})] ?_;dsimp only[grsP,boxP,rwsP,casP,intsQ,go_sem];try dsimp only[grsP,boxP,rwsP,casP,intsQ,go_sem]
    refine⟨(by first|exact True.intro|(simp only[vb,lb];omega)|(simp only[vb,lb,e1,f1,h1,f3,hk,hkl,grC,intsQ];and_intros<;>first|omega|(simp<;>omega))|(simp[vb,e1,f1,h1,f3,hk,hkl,grC,intsQ]<;>omega)),(by first|exact True.intro|((try dsimp only[go_sem]);first|(simp[vb,e1,f1,h1,f3,hk,hkl,grC,intsQ]<;>omega)|(simp only[vb,and_true,true_implies];(repeat' (first|(with_reducible assumption)|(with_reducible apply And.intro)|intro _|((fail_if_success (with_reducible show(_:Int)≤_));assumption)))<;>first|omega|rfl|(simp only[ab,e1,f1,h1,f3,hk,hkl,grC,intsQ];done)|(simp[Nat.mul_one,e1,f1,h1,f3,hk,hkl,grC,intsQ]<;>omega)|(simp_all;done)))),?_⟩
    refine evH [(26,{val:=some (.pv (.agg [.int .i64 q.first,.int .i64 q.size,.sl q.least.length (q.least.flatMap intC)]))}),(31,{val:=some (.pv (.int .i64 k))}),(33,{val:=some (.pv (.bool false))}),(39,{val:=some (.pv (.bool false))}),(44,{val:=some (.pv (.bool false)),args:=some [.agg (plcC s rows b ch),.agg [.int .i64 q.first,.int .i64 q.size,intsQ q.least],.int .i64 k]})] ?_;dsimp only[grsP,boxP,rwsP,casP,intsQ,go_sem];try dsimp only[grsP,boxP,rwsP,casP,intsQ,go_sem]
    refine⟨(by first|exact True.intro|(simp only[vb,lb];omega)|(simp only[vb,lb,e1,f1,h1,f3,hk,hkl,grC,intsQ];and_intros<;>first|omega|(simp<;>omega))|(simp[vb,e1,f1,h1,f3,hk,hkl,grC,intsQ]<;>omega)),(by first|exact True.intro|((try dsimp only[go_sem]);first|(simp[vb,e1,f1,h1,f3,hk,hkl,grC,intsQ]<;>omega)|(simp only[vb,and_true,true_implies];(repeat' (first|(with_reducible assumption)|(with_reducible apply And.intro)|intro _|((fail_if_success (with_reducible show(_:Int)≤_));assumption)))<;>first|omega|rfl|(simp only[ab,e1,f1,h1,f3,hk,hkl,grC,intsQ];done)|(simp[Nat.mul_one,e1,f1,h1,f3,hk,hkl,grC,intsQ]<;>omega)|(simp_all;done)))),?_⟩
    refine evH [(26,{val:=some (.pv (.agg [.int .i64 q.first,.int .i64 q.size,.sl q.least.length (q.least.flatMap intC)]))}),(31,{val:=some (.pv (.int .i64 k))}),(33,{val:=some (.pv (.bool false))}),(39,{val:=some (.pv (.bool false))}),(44,{val:=some (.pv (.bool false)),args:=some [.agg (plcC s rows b ch),.agg [.int .i64 q.first,.int .i64 q.size,intsQ q.least],.int .i64 k]})] ?_;dsimp only[grsP,boxP,rwsP,casP,intsQ,go_sem];try dsimp only[grsP,boxP,rwsP,casP,intsQ,go_sem]
    refine⟨(by first|exact True.intro|(simp only[vb,lb];omega)|(simp only[vb,lb,e1,f1,h1,f3,hk,hkl,grC,intsQ];and_intros<;>first|omega|(simp<;>omega))|(simp[vb,e1,f1,h1,f3,hk,hkl,grC,intsQ]<;>omega)),(by first|exact True.intro|((try dsimp only[go_sem]);first|(simp[vb,e1,f1,h1,f3,hk,hkl,grC,intsQ]<;>omega)|(simp only[vb,and_true,true_implies];(repeat' (first|(with_reducible assumption)|(with_reducible apply And.intro)|intro _|((fail_if_success (with_reducible show(_:Int)≤_));assumption)))<;>first|omega|rfl|(simp only[ab,e1,f1,h1,f3,hk,hkl,grC,intsQ];done)|(simp[Nat.mul_one,e1,f1,h1,f3,hk,hkl,grC,intsQ]<;>omega)|(simp_all;done)))),?_⟩
    refine evH [(26,{val:=some (.pv (.agg [.int .i64 q.first,.int .i64 q.size,.sl q.least.length (q.least.flatMap intC)]))}),(31,{val:=some (.pv (.int .i64 k))}),(33,{val:=some (.pv (.bool false))}),(39,{val:=some (.pv (.bool false))}),(44,{val:=some (.pv (.bool false)),args:=some [.agg (plcC s rows b ch),.agg [.int .i64 q.first,.int .i64 q.size,intsQ q.least],.int .i64 k]})] ?_;dsimp only[grsP,boxP,rwsP,casP,intsQ,go_sem];refine⟨fun h=>by simp at h<;>omega,fun _=>?_⟩
    refine evH [(26,{val:=some (.pv (.agg [.int .i64 q.first,.int .i64 q.size,.sl q.least.length (q.least.flatMap intC)]))}),(31,{val:=some (.pv (.int .i64 k))}),(33,{val:=some (.pv (.bool false))}),(39,{val:=some (.pv (.bool false))}),(44,{val:=some (.pv (.bool false)),args:=some [.agg (plcC s rows b ch),.agg [.int .i64 q.first,.int .i64 q.size,intsQ q.least],.int .i64 k]})] ?_;dsimp only[grsP,boxP,rwsP,casP,intsQ,go_sem]
    refine evH [(26,{val:=some (.pv (.agg [.int .i64 q.first,.int .i64 q.size,.sl q.least.length (q.least.flatMap intC)]))}),(31,{val:=some (.pv (.int .i64 k))}),(33,{val:=some (.pv (.bool false))}),(39,{val:=some (.pv (.bool false))}),(44,{val:=some (.pv (.bool false)),args:=some [.agg (plcC s rows b ch),.agg [.int .i64 q.first,.int .i64 q.size,intsQ q.least],.int .i64 k]})] ?_;dsimp only[grsP,boxP,rwsP,casP,intsQ,go_sem];try dsimp only[grsP,boxP,rwsP,casP,intsQ,go_sem]
    refine⟨(by first|exact True.intro|(simp only[vb,lb];omega)|(simp only[vb,lb,e1,f1,h1,f3,hk,hkl,grC,intsQ];and_intros<;>first|omega|(simp<;>omega))|(simp[vb,e1,f1,h1,f3,hk,hkl,grC,intsQ]<;>omega)),?_,?_⟩
    ·rw[hth1,cond_true,hth2];exact⟨rfl,hcl,trivial⟩
    repeat' (first
     |((with_reducible show VCs _);first|exact True.intro|(simp only[vb,lb];omega)|(simp only[vb,lb,e3,e4,f2,hcb];and_intros<;>first|omega|(simp<;>omega))|(simp[vb,e3,e4,f2,hcb]<;>omega))
     |((with_reducible show All _);first|exact True.intro|((try dsimp only[go_sem]);first|(simp[vb,e3,e4,f2,hcb]<;>omega)|(simp only[vb,and_true,true_implies];(repeat' (first|(with_reducible assumption)|(with_reducible apply And.intro)|intro _|((fail_if_success (with_reducible show(_:Int)≤_));assumption)))<;>first|omega|rfl|(simp only[ab,e3,e4,f2,hcb];done)|(simp[Nat.mul_one,e3,e4,f2,hcb]<;>omega)|(simp_all;done))))
     |exact(rfl:some _=_)
     |(
      fail_if_success refine awL ?_
      refine evH [(71,{val:=some (.pv (.int .i64 y.lo))}),(78,{val:=some (.pv (.int .i64 y.hi))})] ?_;repeat1' dsimp only[c78,go_sem]
      first
      |refine aw4 ?_ ?_ rfl ?_
      |apply aw3
      |apply aw2
      |(refine awB (fun hc=>?_) fun hc=>?_<;>first|(cases hc;done)|(exfalso;first|(simp at hc<;>omega)|(simp[e3,e4,f2,hcb]at hc;done))|(try simp only[bn]at hc;try contradiction))
      |skip))
    exact⟨⟨trivial,rfl⟩,_,rfl⟩
  ·simp only[h2,if_false];simp only[plcA,rstepP,rstepC,rgRow];clear hcl;have f3:=ints_len q.least;have hql:q.least.length≤36:=by omega
   refine ref_body' (C:=ctx) (Fn.of fn78 rfl) rfl (by simp) rfl (by simp[okMem,bnd]) ?_;unfold c78;refine evH [(26,{val:=some (.pv (.agg [.int .i64 q.first,.int .i64 q.size,.sl q.least.length (q.least.flatMap intC)]))})] ?_;dsimp only[grsP,boxP,rwsP,casP,intsQ,go_sem];try dsimp only[grsP,boxP,rwsP,casP,intsQ,go_sem]
   refine⟨(by first|exact True.intro|(simp only[vb,lb];omega)|(simp only[vb,lb,e1,f1,h1,f3,grC,intsQ];and_intros<;>first|omega|(simp<;>omega))|(simp[vb,e1,f1,h1,f3,grC,intsQ]<;>omega)),(by first|exact True.intro|((try dsimp only[go_sem]);first|(simp[vb,e1,f1,h1,f3,grC,intsQ]<;>omega)|(simp only[vb,and_true,true_implies];(repeat' (first|(with_reducible assumption)|(with_reducible apply And.intro)|intro _|((fail_if_success (with_reducible show(_:Int)≤_));assumption)))<;>first|omega|rfl|(simp only[ab,e1,f1,h1,f3,grC,intsQ];done)|(simp[Nat.mul_one,e1,f1,h1,f3,grC,intsQ]<;>omega)|(simp_all;done)))),?_⟩
   refine evH [(26,{val:=some (.pv (.agg [.int .i64 q.first,.int .i64 q.size,.sl q.least.length (q.least.flatMap intC)]))})] ?_;dsimp only[grsP,boxP,rwsP,casP,intsQ,go_sem];try dsimp only[grsP,boxP,rwsP,casP,intsQ,go_sem]
   refine⟨(by simp[vb,e1,f1,h1,f3,grC,intsQ]<;>omega),(by simp[vb,e1,f1,h1,f3,grC,intsQ]<;>omega),?_⟩;refine evH [(26,{val:=some (.pv (.agg [.int .i64 q.first,.int .i64 q.size,.sl q.least.length (q.least.flatMap intC)]))})] ?_;dsimp only[grsP,boxP,rwsP,casP,intsQ,go_sem];refine⟨fun _=>?_,fun h=>by simp at h<;>omega⟩;refine evH [(26,{val:=some (.pv (.agg [.int .i64 q.first,.int .i64 q.size,.sl q.least.length (q.least.flatMap intC)]))})] ?_;dsimp only[grsP,boxP,rwsP,casP,intsQ,go_sem];try dsimp only[grsP,boxP,rwsP,casP,intsQ,go_sem]
   refine⟨(by first|exact True.intro|(simp only[vb,lb];omega)|(simp only[vb,lb,e1,f1,h1,f3,grC,intsQ];and_intros<;>first|omega|(simp<;>omega))|(simp[vb,e1,f1,h1,f3,grC,intsQ]<;>omega)),(by first|exact True.intro|((try dsimp only[go_sem]);first|(simp[vb,e1,f1,h1,f3,grC,intsQ]<;>omega)|(simp only[vb,and_true,true_implies];(repeat' (first|(with_reducible assumption)|(with_reducible apply And.intro)|intro _|((fail_if_success (with_reducible show(_:Int)≤_));assumption)))<;>first|omega|rfl|(simp only[ab,e1,f1,h1,f3,grC,intsQ];done)|(simp[Nat.mul_one,e1,f1,h1,f3,grC,intsQ]<;>omega)|(simp_all;done)))),?_⟩
   refine evH [(26,{val:=some (.pv (.agg [.int .i64 q.first,.int .i64 q.size,.sl q.least.length (q.least.flatMap intC)]))})] ?_;dsimp only[grsP,boxP,rwsP,casP,intsQ,go_sem];refine⟨fun h=>by simp at h<;>omega,fun _=>?_⟩;refine evH [(26,{val:=some (.pv (.agg [.int .i64 q.first,.int .i64 q.size,.sl q.least.length (q.least.flatMap intC)]))})] ?_;dsimp only[grsP,boxP,rwsP,casP,intsQ,go_sem];refine evH [(26,{val:=some (.pv (.agg [.int .i64 q.first,.int .i64 q.size,.sl q.least.length (q.least.flatMap intC)]))})] ?_;dsimp only[grsP,boxP,rwsP,casP,intsQ,go_sem]
   try dsimp only[grsP,boxP,rwsP,casP,intsQ,go_sem]
   refine⟨(by first|exact True.intro|(simp only[vb,lb];omega)|(simp only[vb,lb,e1,f1,h1,f3,grC,intsQ];and_intros<;>first|omega|(simp<;>omega))|(simp[vb,e1,f1,h1,f3,grC,intsQ]<;>omega)),(by first|exact True.intro|((try dsimp only[go_sem]);first|(simp[vb,e1,f1,h1,f3,grC,intsQ]<;>omega)|(simp only[vb,and_true,true_implies];(repeat' (first|(with_reducible assumption)|(with_reducible apply And.intro)|intro _|((fail_if_success (with_reducible show(_:Int)≤_));assumption)))<;>first|omega|rfl|(simp only[ab,e1,f1,h1,f3,grC,intsQ];done)|(simp[Nat.mul_one,e1,f1,h1,f3,grC,intsQ]<;>omega)|(simp_all;done)))),?_⟩
   refine evH [(26,{val:=some (.pv (.agg [.int .i64 q.first,.int .i64 q.size,.sl q.least.length (q.least.flatMap intC)]))})] ?_;dsimp only[grsP,boxP,rwsP,casP,intsQ,go_sem];try dsimp only[grsP,boxP,rwsP,casP,intsQ,go_sem]
   refine⟨(by first|exact True.intro|(simp only[vb,lb];omega)|(simp only[vb,lb,e1,f1,h1,f3,grC,intsQ];and_intros<;>first|omega|(simp<;>omega))|(simp[vb,e1,f1,h1,f3,grC,intsQ]<;>omega)),(by first|exact True.intro|((try dsimp only[go_sem]);first|(simp[vb,e1,f1,h1,f3,grC,intsQ]<;>omega)|(simp only[vb,and_true,true_implies];(repeat' (first|(with_reducible assumption)|(with_reducible apply And.intro)|intro _|((fail_if_success (with_reducible show(_:Int)≤_));assumption)))<;>first|omega|rfl|(simp only[ab,e1,f1,h1,f3,grC,intsQ];done)|(simp[Nat.mul_one,e1,f1,h1,f3,grC,intsQ]<;>omega)|(simp_all;done)))),?_⟩
   by_cases h3:(c:Int)-q.first<0
   ·repeat' (first
     |((with_reducible show VCs _);first|exact True.intro|(simp only[vb,lb];omega)|(simp only[vb,lb,h3];and_intros<;>first|omega|(simp<;>omega))|(simp[vb,h3]<;>omega))
     |((with_reducible show All _);first|exact True.intro|((try dsimp only[go_sem]);first|(simp[vb,h3]<;>omega)|(simp only[vb,and_true,true_implies];(repeat' (first|(with_reducible assumption)|(with_reducible apply And.intro)|intro _|((fail_if_success (with_reducible show(_:Int)≤_));assumption)))<;>first|omega|rfl|(simp only[ab,h3];done)|(simp[Nat.mul_one,h3]<;>omega)|(simp_all;done))))
     |exact(rfl:some _=_)
     |(
      fail_if_success refine awL ?_
      refine evH [(33,{val:=some (.pv (.bool true))})] ?_;repeat1' dsimp only[c78,go_sem]
      first
      |refine aw4 ?_ ?_ rfl ?_
      |apply aw3
      |apply aw2
      |(refine awB (fun hc=>?_) fun hc=>?_<;>first|(cases hc;done)|(exfalso;first|(simp at hc<;>omega)|(simp[h3]at hc;done))|(try simp only[bn]at hc;try contradiction))
      |skip))
    all_goals exact⟨⟨trivial,rfl⟩,_,rfl⟩
   ·repeat' (first
     |((with_reducible show VCs _);first|exact True.intro|(simp only[vb,lb];omega)|(simp only[vb,lb,h3];and_intros<;>first|omega|(simp<;>omega))|(simp[vb,h3]<;>omega))
     |((with_reducible show All _);first|exact True.intro|((try dsimp only[go_sem]);first|(simp[vb,h3]<;>omega)|(simp only[vb,and_true,true_implies];(repeat' (first|(with_reducible assumption)|(with_reducible apply And.intro)|intro _|((fail_if_success (with_reducible show(_:Int)≤_));assumption)))<;>first|omega|rfl|(simp only[ab,h3];done)|(simp[Nat.mul_one,h3]<;>omega)|(simp_all;done))))
     |exact(rfl:some _=_)
     |(
      fail_if_success refine awL ?_
      refine evH [(33,{val:=some (.pv (.bool false))}),(39,{val:=some (.pv (.bool true))})] ?_;repeat1' dsimp only[c78,go_sem]
      first
      |refine aw4 ?_ ?_ rfl ?_
      |apply aw3
      |apply aw2
      |(refine awB (fun hc=>?_) fun hc=>?_<;>first|(cases hc;done)|(exfalso;first|(simp at hc<;>omega)|(simp[h3]at hc;done))|(try simp only[bn]at hc;try contradiction))
      |skip))
    all_goals exact⟨⟨trivial,rfl⟩,_,rfl⟩
 ·simp only[show ¬(i:Int)<s.graphs.length from by omega,if_false];simp only[plcA,rstepP,rstepC,rgRow];refine ref_body' (C:=ctx) (Fn.of fn78 rfl) rfl (by simp) rfl (by simp[okMem,bnd]) ?_;unfold c78;repeat' (first
   |((with_reducible show VCs _);first|exact True.intro|(simp only[vb,lb];omega)|(simp only[vb,lb,h1];and_intros<;>first|omega|(simp<;>omega))|(simp[vb,h1]<;>omega))
   |((with_reducible show All _);first|exact True.intro|((try dsimp only[go_sem]);first|(simp[vb,h1]<;>omega)|(simp only[vb,and_true,true_implies];(repeat' (first|(with_reducible assumption)|(with_reducible apply And.intro)|intro _|((fail_if_success (with_reducible show(_:Int)≤_));assumption)))<;>first|omega|rfl|(simp only[ab,h1];done)|(simp[Nat.mul_one,h1]<;>omega)|(simp_all;done))))
   |exact(rfl:some _=_)
   |(
    fail_if_success refine awL ?_
    refine evA ?_;repeat1' dsimp only[c78,grsP,boxP,rwsP,casP,go_sem]
    first
    |refine aw4 ?_ ?_ rfl ?_
    |apply aw3
    |apply aw2
    |(refine awB (fun hc=>?_) fun hc=>?_<;>first|(cases hc;done)|(exfalso;first|(simp at hc<;>omega)|(simp[h1]at hc;done))|(try simp only[bn]at hc;try contradiction))
    |skip))
  all_goals exact⟨⟨trivial,rfl⟩,_,rfl⟩
end
section
open Rf
set_option maxHeartbeats 8000000 in
theorem step_row (s:Sy) (rows:List Rw) (b:List Rg) (g:Nat) (ch:Bool) (x:RStep) (hx:rstepOk x=true) (hk:x.kind=0) (hr:rows.length≤1000000000) (hrt:∀r∈rows,r.terms.length≤1000000000) (hb:b.length≤1000000000) :
  RefOK ctx 78 [.agg (plcA s rows (.ref 0 g 0 b.length) ch),.pv (rstepP x)] [rgRow b g] (.pv (.tup [.bool (stepN s rows b x).2.1,.bool (stepN s rows b x).2.2])) [rgRow (stepN s rows b x).1 g]:=by
 simp only[rstepOk,hk,insideB,Bool.and_eq_true,decide_eq_true_eq]at hx;obtain⟨⟨-,x1,x2⟩,x3,x4⟩:=hx;have x3: -1≤x.cell:=by simpa using x3
 obtain⟨i,hi⟩:∃i:Nat,x.index=i:=⟨x.index.toNat,by omega⟩
 obtain⟨kd,ix,cl⟩:=x;simp only at *;subst hk hi;unfold stepN;rw[if_neg (show ¬(0:Int)=1 by decide)];dsimp only;rw[Int.toNat_natCast];have f1:=rws_len rows;have f2:=box_len b;obtain⟨hth1,hth2⟩:=box_thaw b g;by_cases h1:(i:Int)<rows.length∧cl<b.length
 ·obtain⟨h1,h2⟩:=h1;have h1':i<rows.length:=by omega
  have e1:=fm_take rwC_len rows i zw h1';have ht:=hrt _ (getD_mem (d:=zw) h1');have hti:=fun c=>tighten_ok b (rows.getD i zw) c hb ht
  rw[if_pos ⟨h1,h2⟩];clear hrt;generalize rows.getD i zw=q at *;by_cases h3:cl<0
  ·rw[if_pos h3];simp only[plcA,rstepP,rstepC,rgRow];obtain⟨ts,bd⟩:=q;simp only at *;have f3:=terms_len ts;refine ref_body' (C:=ctx) (Fn.of fn78 rfl) rfl (by simp) rfl (by simp[okMem,bnd]) ?_;unfold c78;cases ts with
   |nil =>
    repeat' (first
     |((with_reducible show VCs _);first|exact True.intro|(simp only[vb,lb];omega)|(simp only[vb,lb,e1,f1,h1,h1',h2,h3,rwC,termsP];and_intros<;>first|omega|(simp<;>omega))|(simp[vb,e1,f1,h1,h1',h2,h3,rwC,termsP]<;>omega))
     |((with_reducible show All _);first|exact True.intro|((try dsimp only[go_sem]);first|(simp[vb,e1,f1,h1,h1',h2,h3,rwC,termsP]<;>omega)|(simp only[vb,and_true,true_implies];(repeat' (first|(with_reducible assumption)|(with_reducible apply And.intro)|intro _|((fail_if_success (with_reducible show(_:Int)≤_));assumption)))<;>first|omega|rfl|(simp only[ab,e1,f1,h1,h1',h2,h3,rwC,termsP];done)|(simp[Nat.mul_one,e1,f1,h1,h1',h2,h3,rwC,termsP]<;>omega)|(simp_all;done))))
     |exact(rfl:some _=_)
     |(
      fail_if_success refine awL ?_
      refine evH [(99,{val:=some (.pv (.agg [.sl 0 [],.int .i64 bd]))}),(102,{val:=some (.pv (.bool true))})] ?_;repeat1' dsimp only[c78,rwsP,boxP,grsP,casP,termsP,rwC,go_sem]
      first
      |refine aw4 ?_ ?_ rfl ?_
      |apply aw3
      |apply aw2
      |(refine awB (fun hc=>?_) fun hc=>?_<;>first|(cases hc;done)|(exfalso;first|(simp at hc<;>omega)|(simp[e1,f1,h1,h1',h2,h3,rwC,termsP]at hc;done))|(try simp only[bn]at hc;try contradiction))
      |skip))
    all_goals exact⟨⟨trivial,by simp⟩,_,rfl⟩
   |cons t0 tr =>
    repeat' (first
     |((with_reducible show VCs _);first|exact True.intro|(simp only[vb,lb];omega)|(simp only[vb,lb,e1,f1,h1,h1',h2,h3,rwC,termsP];and_intros<;>first|omega|(simp<;>omega))|(simp[vb,e1,f1,h1,h1',h2,h3,rwC,termsP]<;>omega))
     |((with_reducible show All _);first|exact True.intro|((try dsimp only[go_sem]);first|(simp[vb,e1,f1,h1,h1',h2,h3,rwC,termsP]<;>omega)|(simp only[vb,and_true,true_implies];(repeat' (first|(with_reducible assumption)|(with_reducible apply And.intro)|intro _|((fail_if_success (with_reducible show(_:Int)≤_));assumption)))<;>first|omega|rfl|(simp only[ab,e1,f1,h1,h1',h2,h3,rwC,termsP];done)|(simp[Nat.mul_one,e1,f1,h1,h1',h2,h3,rwC,termsP]<;>omega)|(simp_all;done))))
     |exact(rfl:some _=_)
     |(
      fail_if_success refine awL ?_
      refine evH [(99,{val:=some (.pv (.agg [.sl (tr.length+1) ((t0::tr).flatMap tmC),.int .i64 bd]))}),(102,{val:=some (.pv (.bool true))}),(106,{val:=some (.pv (.bool false))})] ?_;repeat1' dsimp only[c78,rwsP,boxP,grsP,casP,termsP,rwC,go_sem]
      first
      |refine aw4 ?_ ?_ rfl ?_
      |apply aw3
      |apply aw2
      |(refine awB (fun hc=>?_) fun hc=>?_<;>first|(cases hc;done)|(exfalso;first|(simp at hc<;>omega)|(simp[e1,f1,h1,h1',h2,h3,rwC,termsP]at hc;done))|(try simp only[bn]at hc;try contradiction))
      |skip))
    all_goals exact⟨⟨trivial,by simp⟩,_,rfl⟩
  ·obtain⟨c,rfl⟩:∃c:Nat,cl=c:=⟨cl.toNat,by omega⟩
   have hcb:c<b.length:=by omega
   rw[if_neg h3];simp only[plcA,rstepP,rstepC,rgRow,Int.toNat_natCast];have hti:=hti c;have e5:=fun lo hi=>box_set2 b c lo hi hcb
   have e6:=getD_set_self b c;generalize tighten q b c=y at *;unfold termsP at hti;refine ref_body' (C:=ctx) (Fn.of fn78 rfl) rfl (by simp) rfl (by simp[okMem,bnd]) ?_;unfold c78;refine evH [(85,{val:=some (.pv (.bool false))}),(92,{val:=some (.pv (.bool false))}),(99,{val:=some (.pv (.agg [.sl q.terms.length (q.terms.flatMap tmC),.int .i64 q.bound]))}),(102,{val:=some (.pv (.bool false))}),(123,{val:=some (.pv (.agg [.int .i64 y.lo,.int .i64 y.hi])),args:=some [.agg [.sl q.terms.length (q.terms.flatMap tmC),.int .i64 q.bound],boxP b,.int .i64 c]})] ?_
   dsimp only[rwsP,boxP,grsP,casP,termsP,go_sem];try dsimp only[rwsP,boxP,grsP,casP,termsP,go_sem]
   refine⟨(by first|exact True.intro|(simp only[vb,lb];omega)|(simp only[vb,lb,e1,f1,f2,h1,h1',h2,h3,hcb,rwC,termsP];and_intros<;>first|omega|(simp<;>omega))|(simp[vb,e1,f1,f2,h1,h1',h2,h3,hcb,rwC,termsP]<;>omega)),(by first|exact True.intro|((try dsimp only[go_sem]);first|(simp[vb,e1,f1,f2,h1,h1',h2,h3,hcb,rwC,termsP]<;>omega)|(simp only[vb,and_true,true_implies];(repeat' (first|(with_reducible assumption)|(with_reducible apply And.intro)|intro _|((fail_if_success (with_reducible show(_:Int)≤_));assumption)))<;>first|omega|rfl|(simp only[ab,e1,f1,f2,h1,h1',h2,h3,hcb,rwC,termsP];done)|(simp[Nat.mul_one,e1,f1,f2,h1,h1',h2,h3,hcb,rwC,termsP]<;>omega)|(simp_all;done)))),?_⟩
   iterate 5 first
    |refine⟨fun h=>by simp at h<;>omega,fun _=>?_⟩
    |refine⟨by simp[vb,e1,f1,f2,h1,h1',h2,h3,hcb,rwC,termsP]<;>omega,by simp[vb,e1,f1,f2,h1,h1',h2,h3,hcb,rwC,termsP]<;>omega,?_⟩
    |(refine evH [(85,{val:=some (.pv (.bool false))}),(92,{val:=some (.pv (.bool false))}),(99,{val:=some (.pv (.agg [.sl q.terms.length (q.terms.flatMap tmC),.int .i64 q.bound]))}),(102,{val:=some (.pv (.bool false))}),(123,{val:=some (.pv (.agg [.int .i64 y.lo,.int .i64 y.hi])),args:=some [.agg [.sl q.terms.length (q.terms.flatMap tmC),.int .i64 q.bound],boxP b,.int .i64 c]})] ?_;iterate 2 (try dsimp only[rwsP,boxP,grsP,casP,termsP,go_sem]))
   refine evH [(85,{val:=some (.pv (.bool false))}),(92,{val:=some (.pv (.bool false))}),(99,{val:=some (.pv (.agg [.sl q.terms.length (q.terms.flatMap tmC),.int .i64 q.bound]))}),(102,{val:=some (.pv (.bool false))}),(123,{val:=some (.pv (.agg [.int .i64 y.lo,.int .i64 y.hi])),args:=some [.agg [.sl q.terms.length (q.terms.flatMap tmC),.int .i64 q.bound],boxP b,.int .i64 c]})] ?_;dsimp only[rwsP,boxP,grsP,casP,termsP,go_sem];try dsimp only[rwsP,boxP,grsP,casP,termsP,go_sem]
   refine⟨(by first|exact True.intro|(simp only[vb,lb];omega)|(simp only[vb,lb,e1,f1,f2,h1,h1',h2,h3,hcb,rwC,termsP];and_intros<;>first|omega|(simp<;>omega))|(simp[vb,e1,f1,f2,h1,h1',h2,h3,hcb,rwC,termsP]<;>omega)),(by first|exact True.intro|((try dsimp only[go_sem]);first|(simp[vb,e1,f1,f2,h1,h1',h2,h3,hcb,rwC,termsP]<;>omega)|(simp only[vb,and_true,true_implies];(repeat' (first|(with_reducible assumption)|(with_reducible apply And.intro)|intro _|((fail_if_success (with_reducible show(_:Int)≤_));assumption)))<;>first|omega|rfl|(simp only[ab,e1,f1,f2,h1,h1',h2,h3,hcb,rwC,termsP];done)|(simp[Nat.mul_one,e1,f1,f2,h1,h1',h2,h3,hcb,rwC,termsP]<;>omega)|(simp_all;done)))),?_⟩
   refine evH [(85,{val:=some (.pv (.bool false))}),(92,{val:=some (.pv (.bool false))}),(99,{val:=some (.pv (.agg [.sl q.terms.length (q.terms.flatMap tmC),.int .i64 q.bound]))}),(102,{val:=some (.pv (.bool false))}),(123,{val:=some (.pv (.agg [.int .i64 y.lo,.int .i64 y.hi])),args:=some [.agg [.sl q.terms.length (q.terms.flatMap tmC),.int .i64 q.bound],boxP b,.int .i64 c]})] ?_;dsimp only[rwsP,boxP,grsP,casP,termsP,go_sem];refine⟨fun h=>by simp at h<;>omega,fun _=>?_⟩
   refine evH [(85,{val:=some (.pv (.bool false))}),(92,{val:=some (.pv (.bool false))}),(99,{val:=some (.pv (.agg [.sl q.terms.length (q.terms.flatMap tmC),.int .i64 q.bound]))}),(102,{val:=some (.pv (.bool false))}),(123,{val:=some (.pv (.agg [.int .i64 y.lo,.int .i64 y.hi])),args:=some [.agg [.sl q.terms.length (q.terms.flatMap tmC),.int .i64 q.bound],boxP b,.int .i64 c]})] ?_;dsimp only[rwsP,boxP,grsP,casP,termsP,go_sem]
   refine evH [(85,{val:=some (.pv (.bool false))}),(92,{val:=some (.pv (.bool false))}),(99,{val:=some (.pv (.agg [.sl q.terms.length (q.terms.flatMap tmC),.int .i64 q.bound]))}),(102,{val:=some (.pv (.bool false))}),(123,{val:=some (.pv (.agg [.int .i64 y.lo,.int .i64 y.hi])),args:=some [.agg [.sl q.terms.length (q.terms.flatMap tmC),.int .i64 q.bound],boxP b,.int .i64 c]})] ?_;dsimp only[rwsP,boxP,grsP,casP,termsP,go_sem];try dsimp only[rwsP,boxP,grsP,casP,termsP,go_sem]
   refine⟨(by first|exact True.intro|(simp only[vb,lb];omega)|(simp only[vb,lb,e1,f1,f2,h1,h1',h2,h3,hcb,rwC,termsP];and_intros<;>first|omega|(simp<;>omega))|(simp[vb,e1,f1,f2,h1,h1',h2,h3,hcb,rwC,termsP]<;>omega)),(by first|exact True.intro|((try dsimp only[go_sem]);first|(simp[vb,e1,f1,f2,h1,h1',h2,h3,hcb,rwC,termsP]<;>omega)|(simp only[vb,and_true,true_implies];(repeat' (first|(with_reducible assumption)|(with_reducible apply And.intro)|intro _|((fail_if_success (with_reducible show(_:Int)≤_));assumption)))<;>first|omega|rfl|(simp only[ab,e1,f1,f2,h1,h1',h2,h3,hcb,rwC,termsP];done)|(simp[Nat.mul_one,e1,f1,f2,h1,h1',h2,h3,hcb,rwC,termsP]<;>omega)|(simp_all;done)))),?_⟩
   iterate 5 first
    |refine⟨fun h=>by simp at h<;>omega,fun _=>?_⟩
    |refine⟨by simp[vb,e1,f1,f2,h1,h1',h2,h3,hcb,rwC,termsP]<;>omega,by simp[vb,e1,f1,f2,h1,h1',h2,h3,hcb,rwC,termsP]<;>omega,?_⟩
    |(refine evH [(85,{val:=some (.pv (.bool false))}),(92,{val:=some (.pv (.bool false))}),(99,{val:=some (.pv (.agg [.sl q.terms.length (q.terms.flatMap tmC),.int .i64 q.bound]))}),(102,{val:=some (.pv (.bool false))}),(123,{val:=some (.pv (.agg [.int .i64 y.lo,.int .i64 y.hi])),args:=some [.agg [.sl q.terms.length (q.terms.flatMap tmC),.int .i64 q.bound],boxP b,.int .i64 c]})] ?_;iterate 2 (try dsimp only[rwsP,boxP,grsP,casP,termsP,go_sem]))
   refine aw_seq (aw_regT (T:=[]) (H:=[(85,{val:=some (.pv (.bool false))}),(92,{val:=some (.pv (.bool false))}),(99,{val:=some (.pv (.agg [.sl q.terms.length (q.terms.flatMap tmC),.int .i64 q.bound]))}),(102,{val:=some (.pv (.bool false))}),(123,{val:=some (.pv (.agg [.int .i64 y.lo,.int .i64 y.hi])),args:=some [.agg [.sl q.terms.length (q.terms.flatMap tmC),.int .i64 q.bound],boxP b,.int .i64 c]})]) (by rfl) ?_);dsimp only[evOpsTail,rwsP,boxP,grsP,casP,termsP,go_sem];try dsimp only[rwsP,boxP,grsP,casP,termsP,go_sem]
   refine⟨(by first|exact True.intro|(simp only[vb,lb];omega)|(simp only[vb,lb,e1,f1,f2,h1,h1',h2,h3,hcb,rwC,termsP];and_intros<;>first|omega|(simp<;>omega))|(simp[vb,e1,f1,f2,h1,h1',h2,h3,hcb,rwC,termsP]<;>omega)),?_,?_⟩
   ·rw[hth1,cond_true,hth2];exact⟨rfl,hti,trivial⟩
   rw[show((((b.flatMap rgC).map AV.pv).set (0+(c:Int).toNat*2) (.pv (.int .i64 y.lo))).set (0+(c:Int).toNat*2+1) (.pv (.int .i64 y.hi)))=((b.set c ⟨y.lo,y.hi⟩).flatMap rgC).map AV.pv from by rw[←e5];simp];have e7:=row_hi (b.set c y) c (by simpa using hcb);have e8:=row_lo (b.set c y) c (by simpa using hcb);have e9:=box_len (b.set c y);rw[e6 _ hcb]at e7 e8;rw[List.length_set]at e9;rw[show(⟨y.lo,y.hi⟩:Rg)=y from rfl];clear e5 e6;generalize b.set c y=b2 at *;repeat' (first
    |((with_reducible show VCs _);first|exact True.intro|(simp only[vb,lb];omega)|(simp only[vb,lb,e7,e8,e9,hcb];and_intros<;>first|omega|(simp<;>omega))|(simp[vb,e7,e8,e9,hcb]<;>omega))
    |((with_reducible show All _);first|exact True.intro|((try dsimp only[go_sem]);first|(simp[vb,e7,e8,e9,hcb]<;>omega)|(simp only[vb,and_true,true_implies];(repeat' (first|(with_reducible assumption)|(with_reducible apply And.intro)|intro _|((fail_if_success (with_reducible show(_:Int)≤_));assumption)))<;>first|omega|rfl|(simp only[ab,e7,e8,e9,hcb];done)|(simp[Nat.mul_one,e7,e8,e9,hcb]<;>omega)|(simp_all;done))))
    |exact(rfl:some _=_)
    |(
     fail_if_success refine awL ?_
     refine evH [(131,{val:=some (.pv (.int .i64 y.lo))}),(138,{val:=some (.pv (.int .i64 y.hi))})] ?_;repeat1' dsimp only[c78,go_sem]
     first
     |refine aw4 ?_ ?_ rfl ?_
     |apply aw3
     |apply aw2
     |(refine awB (fun hc=>?_) fun hc=>?_<;>first|(cases hc;done)|(exfalso;first|(simp at hc<;>omega)|(simp[e7,e8,e9,hcb]at hc;done))|(try simp only[bn]at hc;try contradiction))
     |skip))
   exact⟨⟨trivial,rfl⟩,_,rfl⟩
 ·rw[if_neg h1];simp only[plcA,rstepP,rstepC,rgRow];refine ref_body' (C:=ctx) (Fn.of fn78 rfl) rfl (by simp) rfl (by simp[okMem,bnd]) ?_;unfold c78;by_cases h2:(i:Int)<rows.length
  ·repeat' (first
    |((with_reducible show VCs _);first|exact True.intro|(simp only[vb,lb];omega)|(simp only[vb,lb,h1,h2];and_intros<;>first|omega|(simp<;>omega))|(simp[vb,h1,h2]<;>omega))
    |((with_reducible show All _);first|exact True.intro|((try dsimp only[go_sem]);first|(simp[vb,h1,h2]<;>omega)|(simp only[vb,and_true,true_implies];(repeat' (first|(with_reducible assumption)|(with_reducible apply And.intro)|intro _|((fail_if_success (with_reducible show(_:Int)≤_));assumption)))<;>first|omega|rfl|(simp only[ab,h1,h2];done)|(simp[Nat.mul_one,h1,h2]<;>omega)|(simp_all;done))))
    |exact(rfl:some _=_)
    |(
     fail_if_success refine awL ?_
     refine evH [(85,{val:=some (.pv (.bool false))}),(92,{val:=some (.pv (.bool true))})] ?_;repeat1' dsimp only[c78,rwsP,boxP,grsP,casP,go_sem]
     first
     |refine aw4 ?_ ?_ rfl ?_
     |apply aw3
     |apply aw2
     |(refine awB (fun hc=>?_) fun hc=>?_<;>first|(cases hc;done)|(exfalso;first|(simp at hc<;>omega)|(simp[h1,h2]at hc;done))|(try simp only[bn]at hc;try contradiction))
     |skip))
   all_goals exact⟨⟨trivial,rfl⟩,_,rfl⟩
  ·repeat' (first
    |((with_reducible show VCs _);first|exact True.intro|(simp only[vb,lb];omega)|(simp only[vb,lb,h2];and_intros<;>first|omega|(simp<;>omega))|(simp[vb,h2]<;>omega))
    |((with_reducible show All _);first|exact True.intro|((try dsimp only[go_sem]);first|(simp[vb,h2]<;>omega)|(simp only[vb,and_true,true_implies];(repeat' (first|(with_reducible assumption)|(with_reducible apply And.intro)|intro _|((fail_if_success (with_reducible show(_:Int)≤_));assumption)))<;>first|omega|rfl|(simp only[ab,h2];done)|(simp[Nat.mul_one,h2]<;>omega)|(simp_all;done))))
    |exact(rfl:some _=_)
    |(
     fail_if_success refine awL ?_
     refine evH [(85,{val:=some (.pv (.bool true))})] ?_;repeat1' dsimp only[c78,rwsP,boxP,grsP,casP,go_sem]
     first
     |refine aw4 ?_ ?_ rfl ?_
     |apply aw3
     |apply aw2
     |(refine awB (fun hc=>?_) fun hc=>?_<;>first|(cases hc;done)|(exfalso;first|(simp at hc<;>omega)|(simp[h2]at hc;done))|(try simp only[bn]at hc;try contradiction))
     |skip))
   all_goals exact⟨⟨trivial,rfl⟩,_,rfl⟩
theorem step_ok (s:Sy) (rows:List Rw) (b:List Rg) (g:Nat) (ch:Bool) (x:RStep) (hx:rstepOk x=true) (hs:∀q∈s.graphs,graphOk b.length q=true) (hg:s.graphs.length≤1000000000) (hr:rows.length≤1000000000) (hrt:∀r∈rows,r.terms.length≤1000000000) (hb:b.length≤1000000000) :
  RefOK ctx 78 [.agg (plcA s rows (.ref 0 g 0 b.length) ch),.pv (rstepP x)] [rgRow b g] (.pv (.tup [.bool (stepN s rows b x).2.1,.bool (stepN s rows b x).2.2])) [rgRow (stepN s rows b x).1 g]:=by
 have hx':=hx;simp only[rstepOk,insideB,Bool.and_eq_true,decide_eq_true_eq]at hx';by_cases hk:x.kind=1
 ·exact step_graph s rows b g ch x hx hk hs hg hb
 ·exact step_row s rows b g ch x hx (by omega) hr hrt hb
end
section
open Rf
theorem cloneG_nil:PureOK ctx 77 [.sl 0 []] (.sl 0 []):=by
 refine pure_body' (C:=ctx) (Fn.of fn77 rfl) rfl ?_;unfold c77;refine evA ?_;dsimp only[go_sem];try dsimp only[go_sem]
 refine⟨(by simp[vb]<;>omega),(by simp[vb]<;>omega),?_⟩;refine aw_nilcase 0 rfl ?_ fun ad c=>?_
 ·iterate 6 first
   |refine⟨fun _=>?_,fun h=>by simp at h<;>omega⟩
   |refine⟨by simp[vb]<;>omega,by simp[vb]<;>omega,?_⟩
   |(refine evA ?_;iterate 2 (try dsimp only[go_sem]))
  refine aw_slotW 2 CW.nil ?_;refine evA ?_;dsimp only[go_sem];exact⟨(by first|exact True.intro|(simp only[vb,lb];omega)|(simp[vb]<;>omega)),rfl⟩
 ·iterate 7 first
   |refine⟨fun h=>by simp at h<;>omega,fun _=>?_⟩
   |refine⟨by simp[vb]<;>omega,by simp[vb]<;>omega,?_⟩
   |(refine evH [(7,{mode:=2})] ?_;iterate 2 (try dsimp only[go_sem]))
  refine evA ?_;dsimp only[go_sem];exact⟨(by first|exact True.intro|(simp only[vb,lb];omega)|(simp[vb]<;>omega)),rfl⟩
theorem cloneG0 (k:Nat) (cells:List PV) (hk:k≤1000000000) (hc:cells.length=(k+1)*2):RefOK ctx 77 [.pv (.sl (k+1) cells)] [] (.ref 0 1 0 (k+1)) [⟨cells.map .pv,1,2,57,false⟩]:=by
 refine ref_body' (C:=ctx) (Fn.of fn77 rfl) rfl (by simp) rfl (by simp[okMem,bnd]) ?_;unfold c77;iterate 9 first
  |refine⟨fun h=>by simp at h<;>omega,fun _=>?_⟩
  |refine⟨by simp[vb]<;>omega,by simp[vb]<;>omega,?_⟩
  |(refine evH [(7,{mode:=1})] ?_;iterate 2 (try dsimp only[go_sem]))
 refine evA ?_;dsimp only[go_sem];exact⟨⟨trivial,by simp⟩,[],rfl⟩
theorem emB_pv {cs:List PV} {g z:Nat} {e:TypeId} {f:Bool} (keep:List Nat) (n:Nat):emB keep n ⟨cs.map .pv,g,z,e,f⟩=⟨cs.map .pv,g,z,e,f⟩:=by
 simp[emB,emV,Function.comp_def]
theorem cloneG (b:List Rg) (h0:b≠[]) (hl:b.length≤1000000000) (μ:AM):RefOK ctx 77 [.pv (.sl b.length (b.flatMap rgC))] μ (.ref μ.length 1 0 b.length) (μ++[rgRow b 1]):=by
 obtain⟨k,hk⟩:∃k,b.length=k+1:=⟨b.length-1,by have:=List.length_pos_iff.mpr h0;omega⟩
 have f:=box_len b;unfold rgRow;rw[hk]at f ⊢;generalize b.flatMap rgC=cs at *;have h:=cloneG0 k cs (by omega) f;have:=h.frame [] μ (by simp) (by simp) trivial rfl (by simp[bnd]) (by simp);simpa [emV,emI,emU,emB_pv]using this
theorem cloneR0' (b:List Rg) (g:Nat) (h0:0<b.length) (hl:b.length≤1000000000):RefOK ctx 77 [.ref 0 g 0 b.length] [rgRow b g] (.ref 1 1 0 b.length) [rgRow b g,rgRow b 1]:=by
 have f:=box_len b;refine ref_body' (C:=ctx) (Fn.of fn77 rfl) rfl (by simp) rfl (by simp[okMem,bnd,rgRow]) ?_;unfold c77;unfold rgRow;iterate 7 first
  |refine⟨fun h=>by simp at h<;>omega,fun _=>?_⟩
  |refine⟨by simp[vb,f,h0]<;>omega,by simp[vb,f,h0]<;>omega,?_⟩
  |(refine evH [(7,{mode:=1})] ?_;iterate 2 (try dsimp only[go_sem]))
 refine evH [(7,{mode:=1})] ?_;dsimp only[go_sem];try dsimp only[go_sem]
 refine⟨(by first|exact True.intro|(simp only[vb,lb];omega)|(simp only[vb,lb,f,h0];and_intros<;>first|omega|(simp<;>omega))|(simp[vb,f,h0]<;>omega)),(by first|exact True.intro|((try dsimp only[go_sem]);first|(simp[vb,f,h0]<;>omega)|(simp only[vb,and_true,true_implies];(repeat' (first|(with_reducible assumption)|(with_reducible apply And.intro)|intro _|((fail_if_success (with_reducible show(_:Int)≤_));assumption)))<;>first|omega|rfl|(simp only[ab,f,h0];done)|(simp[Nat.mul_one,f,h0]<;>omega)|(simp_all;done)))),?_⟩;refine evA ?_;dsimp only[go_sem]
 exact⟨⟨by simp[vb],by simp⟩,[],by simp[f,List.take_of_length_le]⟩
theorem cloneRef (b:List Rg) (g:Nat) (h0:0<b.length) (hl:b.length≤1000000000) (μ:AM) (j:Nat) (hj:μ[j]?=some (rgRow b g)):RefOK ctx 77 [.ref j g 0 b.length] μ (.ref μ.length 1 0 b.length) (μ++[rgRow b 1]):=by
 have hlt:=(List.getElem?_eq_some_iff.mp hj).1;have h:=(cloneR0' b g h0 hl).frame [j] μ (by simp) (by simpa using hlt) ⟨by rw[rgRow,emB_pv];exact hj,trivial⟩ (by simp[okMem,rgRow,bnd]) (by simp[bnd,Nat.blt]) (by simp);have h2:μ.set j (rgRow b g)=μ:=by
  refine List.ext_getElem? fun i=>?_
  by_cases hi:j=i
  ·subst hi;rw[List.getElem?_set_self hlt,hj]
  ·rw[List.getElem?_set_ne hi]
 simp only[rgRow]at h2 ⊢ h;simpa [emV,emI,emU,emB_pv,h2]using h
set_option maxHeartbeats 4000000 in
theorem step_nil (s:Sy) (rows:List Rw) (ch:Bool) (x:RStep) (hx:rstepOk x=true) (hs:∀q∈s.graphs,graphOk 0 q=true) (hr:rows.length≤1000000000) :
  PureOK ctx 78 [.agg [boxP s.box,rwsP s.rows,grsP s.graphs,casP s.cases,rwsP rows,.sl 0 [],.bool ch],rstepP x] (.tup [.bool (stepN s rows [] x).2.1,.bool (stepN s rows [] x).2.2])∧(stepN s rows [] x).1=[]:=by
 simp only[rstepOk,insideB,Bool.and_eq_true,decide_eq_true_eq]at hx;obtain⟨⟨⟨k1,k2⟩,x1,x2⟩,x3,x4⟩:=hx;have x5: -1≤x.cell:=by split at x3<;>omega
 obtain⟨i,hi⟩:∃i:Nat,x.index=i:=⟨x.index.toNat,by omega⟩
 obtain⟨kd,ix,cl⟩:=x;simp only at *;subst hi;have hgn:s.graphs=[]:=by
  cases hg:s.graphs with
  |nil=>rfl
  |cons q r =>
   have:=hs q (by rw[hg];simp);simp only[graphOk,insideB,Bool.and_eq_true,decide_eq_true_eq]at this;have h2:=sq_bd this.1.1.1.1.1 this.1.1.1.1.2;omega
 refine⟨?_,List.eq_nil_of_length_eq_zero (by rw[stepN_len];rfl)⟩;unfold stepN;rw[hgn];by_cases hk:kd=1
 ·subst hk;rw[if_pos rfl];simp only[List.length_nil];rw[if_neg (by omega)];refine pure_body' (C:=ctx) (Fn.of fn78 rfl) rfl ?_;unfold c78;repeat' (first
   |((with_reducible show VCs _);first|exact True.intro|(simp only[vb,lb];omega)|(simp[vb]<;>omega))
   |((with_reducible show All _);first|exact True.intro|((try dsimp only[go_sem]);first|(simp[vb]<;>omega)|(simp only[vb,and_true,true_implies];(repeat' (first|(with_reducible assumption)|(with_reducible apply And.intro)|intro _|((fail_if_success (with_reducible show(_:Int)≤_));assumption)))<;>first|omega|rfl|(simp only[ab];done)|(simp[Nat.mul_one]<;>omega)|(simp_all;done))))
   |exact(rfl:some _=_)
   |(
    fail_if_success refine awL ?_
    refine evA ?_;repeat1' dsimp only[c78,rstepP,rstepC,grsP,boxP,rwsP,casP,go_sem]
    first
    |refine aw4 ?_ ?_ rfl ?_
    |apply aw3
    |apply aw2
    |(refine awB (fun hc=>?_) fun hc=>?_<;>first|(cases hc;done)|(exfalso;first|(simp at hc<;>omega))|(try simp only[bn]at hc;try contradiction))
    |skip))
 ·obtain rfl:kd=0:=by omega
  rw[if_neg hk];dsimp only;rw[Int.toNat_natCast];by_cases h1:(i:Int)<rows.length∧cl<([]:List Rg).length
  ·have h3:cl<0:=by simpa using h1.2
   rw[if_pos h1,if_pos h3];have h1':i<rows.length:=by omega
   have e1:=fm_take rwC_len rows i zw h1';have f1:=rws_len rows;generalize rows.getD i zw=q at *;obtain⟨ts,bd⟩:=q;simp only at *;refine pure_body' (C:=ctx) (Fn.of fn78 rfl) rfl ?_;unfold c78;obtain⟨h1a,h1b⟩:=h1;cases ts with
   |nil =>
    repeat' (first
     |((with_reducible show VCs _);first|exact True.intro|(simp only[vb,lb];omega)|(simp only[vb,lb,e1,f1,h1a,h1',h3,rwC,termsP];and_intros<;>first|omega|(simp<;>omega))|(simp[vb,e1,f1,h1a,h1',h3,rwC,termsP]<;>omega))
     |((with_reducible show All _);first|exact True.intro|((try dsimp only[go_sem]);first|(simp[vb,e1,f1,h1a,h1',h3,rwC,termsP]<;>omega)|(simp only[vb,and_true,true_implies];(repeat' (first|(with_reducible assumption)|(with_reducible apply And.intro)|intro _|((fail_if_success (with_reducible show(_:Int)≤_));assumption)))<;>first|omega|rfl|(simp only[ab,e1,f1,h1a,h1',h3,rwC,termsP];done)|(simp[Nat.mul_one,e1,f1,h1a,h1',h3,rwC,termsP]<;>omega)|(simp_all;done))))
     |exact(rfl:some _=_)
     |(
      fail_if_success refine awL ?_
      refine evH [(99,{val:=some (.pv (.agg [.sl 0 [],.int .i64 bd]))}),(102,{val:=some (.pv (.bool true))})] ?_;repeat1' dsimp only[c78,rstepP,rstepC,rwsP,boxP,grsP,casP,termsP,rwC,go_sem]
      first
      |refine aw4 ?_ ?_ rfl ?_
      |apply aw3
      |apply aw2
      |(refine awB (fun hc=>?_) fun hc=>?_<;>first|(cases hc;done)|(exfalso;first|(simp at hc<;>omega)|(simp[e1,f1,h1a,h1',h3,rwC,termsP]at hc;done))|(try simp only[bn]at hc;try contradiction))
      |skip))
    all_goals simp
   |cons t0 tr =>
    repeat' (first
     |((with_reducible show VCs _);first|exact True.intro|(simp only[vb,lb];omega)|(simp only[vb,lb,e1,f1,h1a,h1',h3,rwC,termsP];and_intros<;>first|omega|(simp<;>omega))|(simp[vb,e1,f1,h1a,h1',h3,rwC,termsP]<;>omega))
     |((with_reducible show All _);first|exact True.intro|((try dsimp only[go_sem]);first|(simp[vb,e1,f1,h1a,h1',h3,rwC,termsP]<;>omega)|(simp only[vb,and_true,true_implies];(repeat' (first|(with_reducible assumption)|(with_reducible apply And.intro)|intro _|((fail_if_success (with_reducible show(_:Int)≤_));assumption)))<;>first|omega|rfl|(simp only[ab,e1,f1,h1a,h1',h3,rwC,termsP];done)|(simp[Nat.mul_one,e1,f1,h1a,h1',h3,rwC,termsP]<;>omega)|(simp_all;done))))
     |exact(rfl:some _=_)
     |(
      fail_if_success refine awL ?_
      refine evH [(99,{val:=some (.pv (.agg [.sl (tr.length+1) ((t0::tr).flatMap tmC),.int .i64 bd]))}),(102,{val:=some (.pv (.bool true))}),(106,{val:=some (.pv (.bool false))})] ?_;repeat1' dsimp only[c78,rstepP,rstepC,rwsP,boxP,grsP,casP,termsP,rwC,go_sem]
      first
      |refine aw4 ?_ ?_ rfl ?_
      |apply aw3
      |apply aw2
      |(refine awB (fun hc=>?_) fun hc=>?_<;>first|(cases hc;done)|(exfalso;first|(simp at hc<;>omega)|(simp[e1,f1,h1a,h1',h3,rwC,termsP]at hc;done))|(try simp only[bn]at hc;try contradiction))
      |skip))
    all_goals simp
  ·rw[if_neg h1];refine pure_body' (C:=ctx) (Fn.of fn78 rfl) rfl ?_;unfold c78;by_cases h2:(i:Int)<rows.length
   ·have h3:¬cl<0:=fun h=>h1 ⟨h2,by simpa using h⟩
    repeat' (first
     |((with_reducible show VCs _);first|exact True.intro|(simp only[vb,lb];omega)|(simp only[vb,lb,h2,h3];and_intros<;>first|omega|(simp<;>omega))|(simp[vb,h2,h3]<;>omega))
     |((with_reducible show All _);first|exact True.intro|((try dsimp only[go_sem]);first|(simp[vb,h2,h3]<;>omega)|(simp only[vb,and_true,true_implies];(repeat' (first|(with_reducible assumption)|(with_reducible apply And.intro)|intro _|((fail_if_success (with_reducible show(_:Int)≤_));assumption)))<;>first|omega|rfl|(simp only[ab,h2,h3];done)|(simp[Nat.mul_one,h2,h3]<;>omega)|(simp_all;done))))
     |exact(rfl:some _=_)
     |(
      fail_if_success refine awL ?_
      refine evH [(85,{val:=some (.pv (.bool false))}),(92,{val:=some (.pv (.bool true))})] ?_;repeat1' dsimp only[c78,rstepP,rstepC,rwsP,boxP,grsP,casP,go_sem]
      first
      |refine aw4 ?_ ?_ rfl ?_
      |apply aw3
      |apply aw2
      |(refine awB (fun hc=>?_) fun hc=>?_<;>first|(cases hc;done)|(exfalso;first|(simp at hc<;>omega)|(simp[h2,h3]at hc;done))|(try simp only[bn]at hc;try contradiction))
      |skip))
   ·repeat' (first
     |((with_reducible show VCs _);first|exact True.intro|(simp only[vb,lb];omega)|(simp only[vb,lb,h2];and_intros<;>first|omega|(simp<;>omega))|(simp[vb,h2]<;>omega))
     |((with_reducible show All _);first|exact True.intro|((try dsimp only[go_sem]);first|(simp[vb,h2]<;>omega)|(simp only[vb,and_true,true_implies];(repeat' (first|(with_reducible assumption)|(with_reducible apply And.intro)|intro _|((fail_if_success (with_reducible show(_:Int)≤_));assumption)))<;>first|omega|rfl|(simp only[ab,h2];done)|(simp[Nat.mul_one,h2]<;>omega)|(simp_all;done))))
     |exact(rfl:some _=_)
     |(
      fail_if_success refine awL ?_
      refine evH [(85,{val:=some (.pv (.bool true))})] ?_;repeat1' dsimp only[c78,rstepP,rstepC,rwsP,boxP,grsP,casP,go_sem]
      first
      |refine aw4 ?_ ?_ rfl ?_
      |apply aw3
      |apply aw2
      |(refine awB (fun hc=>?_) fun hc=>?_<;>first|(cases hc;done)|(exfalso;first|(simp at hc<;>omega)|(simp[h2]at hc;done))|(try simp only[bn]at hc;try contradiction))
      |skip))
end
section
open Rf
def own47:Nat→Bool:=fun d=>Nat.beq d 59||Nat.beq d 62
def c47q:ACode:=(⟨_,by conv=>(lhs;reduce;try simp only[lt1,Int.cast_ofNat_Int,Int.reduceNegSucc,UInt8.reduceOfNat])⟩:{x // codeOf Tryz.prog 47 own47=some x}).1
theorem fn47q:fnOf Tryz.prog 47 own47=some (c47q,[.t 4],144,true):=by kernel_rfl
def plcB (s:Sy) (rows:List Rw) (bx:AV) (ch:Bool):Blk:=⟨plcA s rows bx ch,0,7,73,false⟩
theorem step_at (s:Sy) (rows:List Rw) (b:List Rg) (g:Nat) (ch:Bool) (x:RStep) (hx:rstepOk x=true) (hs:∀q∈s.graphs,graphOk b.length q=true) (hg:s.graphs.length≤1000000000) (hr:rows.length≤1000000000) (hrt:∀r∈rows,r.terms.length≤1000000000) (hb:b.length≤1000000000)
  (μ:AM) (j:Nat) (hj:μ[j]?=some (rgRow b g)) :
  RefOK ctx 78 [.agg (plcA s rows (.ref j g 0 b.length) ch),.pv (rstepP x)] μ (.pv (.tup [.bool (stepN s rows b x).2.1,.bool (stepN s rows b x).2.2])) (μ.set j (rgRow (stepN s rows b x).1 g)):=by
 have hlt:=(List.getElem?_eq_some_iff.mp hj).1;have h:=(step_ok s rows b g ch x hx hs hg hr hrt hb).frame [j] μ (by simp) (by simpa using hlt) ⟨by rw[rgRow,emB_pv];exact hj,trivial⟩ (by simp[okMem,rgRow,bnd]) (by simp[bnd,Nat.blt,plcA]) (by simp);generalize stepN s rows b x=q at *;simp only[rgRow]at h ⊢;simpa [emV,emI,emU,emB_pv,plcA]using h
structure AccOk (s:Sy):Prop where
 g:s.graphs.length≤1000000000
 c:s.cases.length≤1000000
 l:∀l∈s.cases,l.length≤1000∧∀r∈l,r.terms.length≤1000000000
def accMost (ch:Bool):Nat:=bif ch then 1001000 else 1000000
set_option maxHeartbeats 16000000 in
theorem accepts_ok (s:Sy) (hs:AccOk s):∀(t:Tree),formedB t=true→wt t≤1000000000→∀(rows:List Rw) (b:List Rg) (ch:Bool),rows.length≤accMost ch→(∀r∈rows,r.terms.length≤1000000000)→b.length≤1000000000→(∀q∈s.graphs,graphOk b.length q=true) →
  PureOK ctx 47 [.agg [boxP s.box,rwsP s.rows,grsP s.graphs,casP s.cases,rwsP rows,boxP b,.bool ch],treeP t] (.bool (acceptN s t rows b ch)):=by
 refine Tree.ind fun kd st c a l ih hf hw rows b ch hr hrt hb hgo=>?_
 rw[wt_node]at hw;have hl:=wts_len l;rw[formedB_node]at hf;simp only[Bool.and_eq_true]at hf;obtain⟨⟨hf1,hf2⟩,hf3⟩:=hf;have hE:=Empty_ok b hb;have hr':rows.length≤1001000:=by unfold accMost at hr;cases ch<;>simp at hr<;>omega
 rw[acceptN_node];have f1:=rsteps_len st;have f2:=box_len b;generalize emptyB b=eb at *;cases eb with
 |true =>
  simp only[if_true];unfold boxP at hE;refine pure_body' (C:=ctx) (Fn.of fn47q rfl) rfl ?_;unfold c47q;repeat' (first
   |((with_reducible show VCs _);first|exact True.intro|(simp only[vb,lb];omega)|(simp only[vb,lb,hE];and_intros<;>first|omega|(simp<;>omega))|(simp[vb,hE]<;>omega))
   |((with_reducible show All _);first|exact True.intro|((try dsimp only[go_sem]);first|(simp[vb,hE]<;>omega)|(simp only[vb,and_true,true_implies];(repeat' (first|(with_reducible assumption)|(with_reducible apply And.intro)|intro _|((fail_if_success (with_reducible show(_:Int)≤_));assumption)))<;>first|omega|rfl|(simp only[ab,hE];done)|(simp[Nat.mul_one,hE]<;>omega)|(simp_all;done))))
   |exact(rfl:some _=_)
   |(
    fail_if_success refine awL ?_
    refine evT [(72,fun _=>some (.bool true))] ?_;repeat1' dsimp only[c47,treeP,Tree.kind,Tree.steps,Tree.cell,Tree.pos,Tree.kids,rstepsP,kidsP,boxP,rwsP,grsP,casP,go_sem]
    first
    |refine aw4 ?_ ?_ rfl ?_
    |apply aw3
    |apply aw2
    |(refine awB (fun hc=>?_) fun hc=>?_<;>first|(cases hc;done)|(exfalso;first|(simp at hc<;>omega)|(simp[hE]at hc;done))|(try simp only[bn]at hc;try contradiction))
    |skip))
 |false =>
  simp only[Bool.false_eq_true,if_false];by_cases h0:b=[]
  ·subst h0;have hcn:=cloneG_nil;have hE:PureOK ctx 72 [.sl 0 []] (.bool false):=hE;refine pure_body' (C:=ctx) (Fn.of fn47q rfl) rfl ?_;unfold c47q;repeat' (first
    |((with_reducible show VCs _);first|exact True.intro|(simp only[vb,lb];omega)|(simp only[vb,lb,hE,hcn];and_intros<;>first|omega|(simp<;>omega))|(simp[vb,hE,hcn]<;>omega))
    |((with_reducible show All _);first|exact True.intro|((try dsimp only[go_sem]);first|(simp[vb,hE,hcn]<;>omega)|(simp only[vb,and_true,true_implies];(repeat' (first|(with_reducible assumption)|(with_reducible apply And.intro)|intro _|((fail_if_success (with_reducible show(_:Int)≤_));assumption)))<;>first|omega|rfl|(simp only[ab,hE,hcn];done)|(simp[Nat.mul_one,hE,hcn]<;>omega)|(simp_all;done))))
    |exact(rfl:some _=_)
    |(
     fail_if_success refine awL ?_
     refine evT [(72,fun _=>some (.bool false)),(77,fun _=>some (.sl 0 []))] ?_;repeat1' dsimp only[c47,treeP,plcB,plcA,treeB,Tree.kind,Tree.steps,Tree.cell,Tree.pos,Tree.kids,rstepsP,kidsP,boxP,rwsP,grsP,casP,go_sem]
     first
     |refine aw4 ?_ ?_ rfl ?_
     |apply aw3
     |apply aw2
     |(refine awB (fun hc=>?_) fun hc=>?_<;>first|(cases hc;done)|(exfalso;first|(simp at hc<;>omega)|(simp[hE,hcn]at hc;done))|(try simp only[bn]at hc;try contradiction))
     |skip))
   refine aw_loopJ (σ:=Nat) (fun q=>q≤st.length∧stepsOn s rows (st.drop q) []=stepsOn s rows st [])
    (fun q=>[(2,.ptr 0 0 0),(3,.ptr 1 0 0),(23,.pv (rstepsP st)),(24,.pv (.int .i64 st.length)),(25,.pv (.int .i64 q))])
    (fun q=>[plcB s rows (.pv (.sl 0 [])) ch,treeB (.node kd st c a l)]) (fun q=>st.length-q) 0 ⟨Nat.zero_le _,rfl⟩ (by (repeat' (first|exact trivial|refine And.intro (by first|rfl|(simp[get,Nat.beq];done)|(simp[get,Nat.beq];omega)|(dsimp only[get];congr 1<;>first|rfl|omega|(simp;done)|(simp;omega))) ?_))) ⟨[],rfl⟩ (fun _ _=>⟨Nat.zero_le _,rfl,by simp[okMem,plcB,plcA,treeB,bnd]⟩) fun k hq=>?_
   obtain⟨p1,p3⟩:=hq;by_cases hlt:k<st.length
   ·have e:=fm_take rstepC_len st k zs hlt;have hx:=List.all_eq_true.mp hf1 _ (getD_mem (d:=zs) hlt);rw[drop_getD st k zs hlt,stepsOn]at p3;generalize st.getD k zs=x at *;obtain⟨hst,hb2⟩:=step_nil s rows ch x hx hgo (by omega);generalize stepN s rows [] x=q at *;obtain⟨b2,pp,cc⟩:=q;simp only at hst hb2 p3;subst hb2;unfold rstepP boxP rwsP grsP casP at hst;simp only[rstepC]at hst;rw[←p3];cases cc with
    |true =>
     simp only[if_true];repeat' (first
      |((with_reducible show VCs _);first|exact True.intro|(simp only[vb,lb];omega)|(simp only[vb,lb,e,f1,hlt,rstepC,hst];and_intros<;>first|omega|(simp<;>omega))|(simp[vb,e,f1,hlt,rstepC,hst]<;>omega))
      |((with_reducible show All _);first|exact True.intro|((try dsimp only[go_sem]);first|(simp[vb,e,f1,hlt,rstepC,hst]<;>omega)|(simp only[vb,and_true,true_implies];(repeat' (first|(with_reducible assumption)|(with_reducible apply And.intro)|intro _|((fail_if_success (with_reducible show(_:Int)≤_));assumption)))<;>first|omega|rfl|(simp only[ab,e,f1,hlt,rstepC,hst];done)|(simp[Nat.mul_one,e,f1,hlt,rstepC,hst]<;>omega)|(simp_all;done))))
      |exact(rfl:some _=_)
      |(
       fail_if_success refine awL ?_
       refine evTH [(78,fun _=>some (.tup [.bool pp,.bool true]))] [(28,{val:=some (.pv (.agg [.int .i64 x.kind,.int .i64 x.index,.int .i64 x.cell]))})] ?_;repeat1' dsimp only[c47,plcB,plcA,treeB,Tree.kind,Tree.steps,Tree.cell,Tree.pos,Tree.kids,rstepsP,kidsP,boxP,rwsP,grsP,casP,go_sem]
       first
       |refine aw4 ?_ ?_ rfl ?_
       |apply aw3
       |apply aw2
       |(refine awB (fun hc=>?_) fun hc=>?_<;>first|(cases hc;done)|(exfalso;first|(simp at hc<;>omega)|(simp[e,f1,hlt,rstepC,hst]at hc;done))|(try simp only[bn]at hc;try contradiction))
       |skip))
    |false =>
     simp only[Bool.false_eq_true,if_false];cases pp with
     |false =>
      simp only[Bool.false_eq_true,if_false];repeat' (first
       |((with_reducible show VCs _);first|exact True.intro|(simp only[vb,lb];omega)|(simp only[vb,lb,e,f1,hlt,rstepC,hst];and_intros<;>first|omega|(simp<;>omega))|(simp[vb,e,f1,hlt,rstepC,hst]<;>omega))
       |((with_reducible show All _);first|exact True.intro|((try dsimp only[go_sem]);first|(simp[vb,e,f1,hlt,rstepC,hst]<;>omega)|(simp only[vb,and_true,true_implies];(repeat' (first|(with_reducible assumption)|(with_reducible apply And.intro)|intro _|((fail_if_success (with_reducible show(_:Int)≤_));assumption)))<;>first|omega|rfl|(simp only[ab,e,f1,hlt,rstepC,hst];done)|(simp[Nat.mul_one,e,f1,hlt,rstepC,hst]<;>omega)|(simp_all;done))))
       |exact(rfl:some _=_)
       |(
        fail_if_success refine awL ?_
        refine evTH [(78,fun _=>some (.tup [.bool false,.bool false]))] [(28,{val:=some (.pv (.agg [.int .i64 x.kind,.int .i64 x.index,.int .i64 x.cell]))})] ?_;repeat1' dsimp only[c47,plcB,plcA,treeB,Tree.kind,Tree.steps,Tree.cell,Tree.pos,Tree.kids,rstepsP,kidsP,boxP,rwsP,grsP,casP,go_sem]
        first
        |refine aw4 ?_ ?_ rfl ?_
        |apply aw3
        |apply aw2
        |(refine awB (fun hc=>?_) fun hc=>?_<;>first|(cases hc;done)|(exfalso;first|(simp at hc<;>omega)|(simp[e,f1,hlt,rstepC,hst]at hc;done))|(try simp only[bn]at hc;try contradiction))
        |skip))
     |true =>
      simp only[if_true];repeat' (first
       |((with_reducible show VCs _);first|exact True.intro|(simp only[vb,lb];omega)|(simp only[vb,lb,e,f1,hlt,rstepC,hst];and_intros<;>first|omega|(simp<;>omega))|(simp[vb,e,f1,hlt,rstepC,hst]<;>omega))
       |((with_reducible show All _);first|exact True.intro|((try dsimp only[go_sem]);first|(simp[vb,e,f1,hlt,rstepC,hst]<;>omega)|(simp only[vb,and_true,true_implies];(repeat' (first|(with_reducible assumption)|(with_reducible apply And.intro)|intro _|((fail_if_success (with_reducible show(_:Int)≤_));assumption)))<;>first|omega|rfl|(simp only[ab,e,f1,hlt,rstepC,hst];done)|(simp[Nat.mul_one,e,f1,hlt,rstepC,hst]<;>omega)|(simp_all;done))))
       |exact(rfl:some _=_)
       |(
        fail_if_success refine awL ?_
        refine evTH [(78,fun _=>some (.tup [.bool true,.bool false]))] [(28,{val:=some (.pv (.agg [.int .i64 x.kind,.int .i64 x.index,.int .i64 x.cell]))})] ?_;repeat1' dsimp only[c47,plcB,plcA,treeB,Tree.kind,Tree.steps,Tree.cell,Tree.pos,Tree.kids,rstepsP,kidsP,boxP,rwsP,grsP,casP,go_sem]
        first
        |refine aw4 ?_ ?_ rfl ?_
        |apply aw3
        |apply aw2
        |(refine awB (fun hc=>?_) fun hc=>?_<;>first|(cases hc;done)|(exfalso;first|(simp at hc<;>omega)|(simp[e,f1,hlt,rstepC,hst]at hc;done))|(try simp only[bn]at hc;try contradiction))
        |skip))
      exact⟨k+1,by show st.length-(k+1)<st.length-k;omega,⟨by show k+1≤_;omega,rfl⟩,by (repeat' (first|exact trivial|refine And.intro (by first|rfl|(simp[get,Nat.beq];done)|(simp[get,Nat.beq];omega)|(dsimp only[get];congr 1<;>first|rfl|omega|(simp;done)|(simp;omega))) ?_)),_,rfl⟩
   ·obtain rfl:k=st.length:=by omega
    rw[List.drop_length,stepsOn]at p3;rw[←p3];simp only;clear p3 hE hf1 hcn;have f3:=kids_len l;by_cases hk1:kd=1
    ·subst hk1;simp[tailOk,insideB]at hf2;obtain⟨⟨t1,t2,t3⟩,t4,t5⟩:=hf2;unfold accT;rw[if_pos rfl,if_neg (by simp;omega)];repeat' (first
      |((with_reducible show VCs _);first|exact True.intro|(simp only[vb,lb];omega)|(simp only[vb,lb,t2];and_intros<;>first|omega|(simp<;>omega))|(simp[vb,t2]<;>omega))
      |((with_reducible show All _);first|exact True.intro|((try dsimp only[go_sem]);first|(simp[vb,t2]<;>omega)|(simp only[vb,and_true,true_implies];(repeat' (first|(with_reducible assumption)|(with_reducible apply And.intro)|intro _|((fail_if_success (with_reducible show(_:Int)≤_));assumption)))<;>first|omega|rfl|(simp only[ab,t2];done)|(simp[Nat.mul_one,t2]<;>omega)|(simp_all;done))))
      |exact(rfl:some _=_)
      |(
       fail_if_success refine awL ?_
       refine evA ?_;repeat1' dsimp only[c47,plcB,plcA,treeB,Tree.kind,Tree.steps,Tree.cell,Tree.pos,Tree.kids,rstepsP,kidsP,boxP,rwsP,grsP,casP,go_sem]
       first
       |refine aw4 ?_ ?_ rfl ?_
       |apply aw3
       |apply aw2
       |(refine awB (fun hc=>?_) fun hc=>?_<;>first|(cases hc;done)|(exfalso;first|(simp at hc<;>omega)|(simp[t2]at hc;done))|(try simp only[bn]at hc;try contradiction))
       |skip))
    ·by_cases hk2:kd=2
     ·subst hk2;simp[tailOk]at hf2;obtain⟨⟨⟨t1,t2⟩,rfl⟩,rfl⟩:=hf2;have hcc:=hs.c;unfold accT;rw[if_neg (by decide),if_pos rfl,List.length_map];cases ch with
      |true =>
       repeat' (first
        |((with_reducible show VCs _);first|exact True.intro|(simp only[vb,lb];omega)|(simp only[vb,lb,hlt];and_intros<;>first|omega|(simp<;>omega))|(simp[vb,hlt]<;>omega))
        |((with_reducible show All _);first|exact True.intro|((try dsimp only[go_sem]);first|(simp[vb,hlt]<;>omega)|(simp only[vb,and_true,true_implies];(repeat' (first|(with_reducible assumption)|(with_reducible apply And.intro)|intro _|((fail_if_success (with_reducible show(_:Int)≤_));assumption)))<;>first|omega|rfl|(simp only[ab,hlt];done)|(simp[Nat.mul_one,hlt]<;>omega)|(simp_all;done))))
        |exact(rfl:some _=_)
        |(
         fail_if_success refine awL ?_
         refine evH [(107,{val:=some (.pv (.bool true))})] ?_;repeat1' dsimp only[c47,plcB,plcA,treeB,Tree.kind,Tree.steps,Tree.cell,Tree.pos,Tree.kids,rstepsP,kidsP,boxP,rwsP,grsP,casP,go_sem]
         first
         |refine aw4 ?_ ?_ rfl ?_
         |apply aw3
         |apply aw2
         |(refine awB (fun hc=>?_) fun hc=>?_<;>first|(cases hc;done)|(exfalso;first|(simp at hc<;>omega)|(simp[hlt]at hc;done))|(try simp only[bn]at hc;try contradiction))
         |skip))
      |false =>
       by_cases hlc:l.length=s.cases.length
       ·rw[decide_eq_true hlc];simp only[Bool.not_false,Bool.true_and];generalize hres:accK rows [] (l.map (acceptN s)) s.cases=res;repeat' (first
         |((with_reducible show VCs _);first|exact True.intro|(simp only[vb,lb];omega)|(simp only[vb,lb,hlt,hlc];and_intros<;>first|omega|(simp<;>omega))|(simp[vb,hlt,hlc]<;>omega))
         |((with_reducible show All _);first|exact True.intro|((try dsimp only[go_sem]);first|(simp[vb,hlt,hlc]<;>omega)|(simp only[vb,and_true,true_implies];(repeat' (first|(with_reducible assumption)|(with_reducible apply And.intro)|intro _|((fail_if_success (with_reducible show(_:Int)≤_));assumption)))<;>first|omega|rfl|(simp only[ab,hlt,hlc];done)|(simp[Nat.mul_one,hlt,hlc]<;>omega)|(simp_all;done))))
         |exact(rfl:some _=_)
         |(
          fail_if_success refine awL ?_
          refine evH [(107,{val:=some (.pv (.bool false))}),(116,{val:=some (.pv (.bool false))})] ?_;repeat1' dsimp only[c47,plcB,plcA,treeB,Tree.kind,Tree.steps,Tree.cell,Tree.pos,Tree.kids,rstepsP,kidsP,boxP,rwsP,grsP,casP,go_sem]
          first
          |refine aw4 ?_ ?_ rfl ?_
          |apply aw3
          |apply aw2
          |(refine awB (fun hc=>?_) fun hc=>?_<;>first|(cases hc;done)|(exfalso;first|(simp at hc<;>omega)|(simp[hlt,hlc]at hc;done))|(try simp only[bn]at hc;try contradiction))
          |skip))
        refine aw_loopJ (σ:=Nat) (fun k=>k≤l.length∧accK rows [] ((l.map (acceptN s)).drop k) (s.cases.drop k)=res)
         (fun k=>[(2,.ptr 0 0 0),(3,.ptr 1 0 0),(119,.pv (kidsP l)),(120,.pv (.int .i64 l.length)),(121,.pv (.int .i64 k))])
         (fun k=>[plcB s rows (.pv (.sl 0 [])) false,treeB (.node 2 st 0 0 l)]) (fun k=>l.length-k) 0 ⟨Nat.zero_le _,hres⟩ (by (repeat' (first|exact trivial|refine And.intro (by first|rfl|(simp[get,Nat.beq];done)|(simp[get,Nat.beq];omega)|(dsimp only[get];congr 1<;>first|rfl|omega|(simp;done)|(simp;omega))) ?_))) ⟨[],rfl⟩ (fun _ _=>⟨Nat.zero_le _,rfl,by simp[okMem,plcB,plcA,treeB,bnd]⟩) fun k hq=>?_
        obtain⟨q1,q2⟩:=hq;by_cases hlk:k<l.length
        ·have hkc:k<s.cases.length:=by omega
         have e:=kid_take l k hlk;have e2:=cas_at s.cases k hkc;have e3:=cas_len s.cases;have hcl:=hs.l _ (getD_mem (d:=([]:List Rw)) hkc);have hmem:=getD_mem (d:=zt) hlk;have hwk:=wt_mem hmem;have hih:=ih _ hmem (List.all_eq_true.mp hf3 _ hmem) (by omega) (rows++s.cases.getD k []) [] true (by rw[List.length_append];unfold accMost at hr ⊢;simp only[cond_true,cond_false]at hr ⊢;omega) (fun r hr=>by
          rcases List.mem_append.mp hr with h|h
          ·exact hrt r h
          ·exact hcl.2 r h) hb hgo
         have hcon:=concat_ok [rows,s.cases.getD k []] (by simp) (by simp only[lenS,List.map_cons,List.map_nil,List.sum_cons,List.sum_nil];omega);rw[show[rows,s.cases.getD k []].flatten=rows++s.cases.getD k [] by simp]at hcon;rw[drop_getD _ k (acceptN s zt) (by simpa using hlk),drop_getD s.cases k [] hkc,accK]at q2;rw[show(l.map (acceptN s)).getD k (acceptN s zt)=acceptN s (l.getD k zt) by simp[List.getD]]at q2;generalize hrest:accK rows [] ((l.map (acceptN s)).drop (k+1)) (s.cases.drop (k+1))=rest at *;generalize s.cases.getD k []=cs at *;generalize l.getD k zt=x at *
         generalize acceptN s x (rows++cs) [] true=qx at *;generalize rows++cs=rows2 at *;obtain⟨a0,a1,a2,a3,a4⟩:=x;simp only[treeP,Tree.kind,Tree.steps,Tree.cell,Tree.pos,Tree.kids]at hih e;clear ih hres;have hcon:PureOK ctx 80 [.sl 2 [.sl rows.length (rows.flatMap rwC),.sl cs.length (cs.flatMap rwC)]] (.sl rows2.length (rows2.flatMap rwC)):=hcon;unfold boxP rwsP grsP casP kidsP rstepsP at hih;repeat' (first
          |((with_reducible show VCs _);first|exact True.intro|(simp only[vb,lb];omega)|(simp only[vb,lb,e,f3,hlk,e2,e3,hkc,hcon,kidsP,rstepsP,hih];and_intros<;>first|omega|(simp<;>omega))|(simp[vb,e,f3,hlk,e2,e3,hkc,hcon,kidsP,rstepsP,hih]<;>omega))
          |((with_reducible show All _);first|exact True.intro|((try dsimp only[go_sem]);first|(simp[vb,e,f3,hlk,e2,e3,hkc,hcon,kidsP,rstepsP,hih]<;>omega)|(simp only[vb,and_true,true_implies];(repeat' (first|(with_reducible assumption)|(with_reducible apply And.intro)|intro _|((fail_if_success (with_reducible show(_:Int)≤_));assumption)))<;>first|omega|rfl|(simp only[ab,e,f3,hlk,e2,e3,hkc,hcon,kidsP,rstepsP,hih];done)|(simp[Nat.mul_one,e,f3,hlk,e2,e3,hkc,hcon,kidsP,rstepsP,hih]<;>omega)|(simp_all;done))))
          |exact(rfl:some _=_)
          |(
           fail_if_success refine awL ?_
           refine evTH [(80,fun _=>some (.sl rows2.length (rows2.flatMap rwC))),(47,fun _=>some (.bool qx))] [(125,{val:=some (.pv (.agg [.int .i64 a0,.sl a1.length (a1.flatMap rstepC),.int .i64 a2,.int .i64 a3,.sl a4.length (a4.flatMap treeC)]))}),(134,{val:=some (.pv (.sl cs.length (cs.flatMap rwC)))})] ?_;repeat1' dsimp only[c47,plcB,plcA,treeB,Tree.kind,Tree.steps,Tree.cell,Tree.pos,Tree.kids,rstepsP,kidsP,boxP,rwsP,grsP,casP,go_sem]
           first
           |refine aw4 ?_ ?_ rfl ?_
           |apply aw3
           |apply aw2
           |(refine awB (fun hc=>?_) fun hc=>?_<;>first|(cases hc;done)|(exfalso;first|(simp at hc<;>omega)|(simp[e,f3,hlk,e2,e3,hkc,hcon,kidsP,rstepsP,hih]at hc;done))|(try simp only[bn]at hc;try contradiction))
           |skip))
         ·rw[←q2,show qx=false by simpa using hc];rfl
         ·exact⟨k+1,by show l.length-(k+1)<l.length-k;omega,⟨by show k+1≤_;omega,by rw[←q2,show qx=true by simpa using hc];simpa using hrest⟩,by (repeat' (first|exact trivial|refine And.intro (by first|rfl|(simp[get,Nat.beq];done)|(simp[get,Nat.beq];omega)|(dsimp only[get];congr 1<;>first|rfl|omega|(simp;done)|(simp;omega))) ?_)),_,rfl⟩
        ·obtain rfl:k=l.length:=by omega
         rw[List.drop_of_length_le (by simp),accK]at q2;subst q2;repeat' (first
          |((with_reducible show VCs _);first|exact True.intro|(simp only[vb,lb];omega)|(simp only[vb,lb,hlk];and_intros<;>first|omega|(simp<;>omega))|(simp[vb,hlk]<;>omega))
          |((with_reducible show All _);first|exact True.intro|((try dsimp only[go_sem]);first|(simp[vb,hlk]<;>omega)|(simp only[vb,and_true,true_implies];(repeat' (first|(with_reducible assumption)|(with_reducible apply And.intro)|intro _|((fail_if_success (with_reducible show(_:Int)≤_));assumption)))<;>first|omega|rfl|(simp only[ab,hlk];done)|(simp[Nat.mul_one,hlk]<;>omega)|(simp_all;done))))
          |exact(rfl:some _=_)
          |(
           fail_if_success refine awL ?_
           refine evA ?_;repeat1' dsimp only[c47,plcB,plcA,treeB,Tree.kind,Tree.steps,Tree.cell,Tree.pos,Tree.kids,rstepsP,kidsP,boxP,rwsP,grsP,casP,go_sem]
           first
           |refine aw4 ?_ ?_ rfl ?_
           |apply aw3
           |apply aw2
           |(refine awB (fun hc=>?_) fun hc=>?_<;>first|(cases hc;done)|(exfalso;first|(simp at hc<;>omega)|(simp[hlk]at hc;done))|(try simp only[bn]at hc;try contradiction))
           |skip))
         all_goals (intro _ _ _ _ h;cases h)
       ·rw[decide_eq_false hlc];have hlc':¬(l.length:Int)=(s.cases.length:Int):=by omega
        repeat' (first
         |((with_reducible show VCs _);first|exact True.intro|(simp only[vb,lb];omega)|(simp only[vb,lb,hlt,hlc'];and_intros<;>first|omega|(simp<;>omega))|(simp[vb,hlt,hlc']<;>omega))
         |((with_reducible show All _);first|exact True.intro|((try dsimp only[go_sem]);first|(simp[vb,hlt,hlc']<;>omega)|(simp only[vb,and_true,true_implies];(repeat' (first|(with_reducible assumption)|(with_reducible apply And.intro)|intro _|((fail_if_success (with_reducible show(_:Int)≤_));assumption)))<;>first|omega|rfl|(simp only[ab,hlt,hlc'];done)|(simp[Nat.mul_one,hlt,hlc']<;>omega)|(simp_all;done))))
         |exact(rfl:some _=_)
         |(
          fail_if_success refine awL ?_
          refine evH [(107,{val:=some (.pv (.bool false))}),(116,{val:=some (.pv (.bool true))})] ?_;repeat1' dsimp only[c47,plcB,plcA,treeB,Tree.kind,Tree.steps,Tree.cell,Tree.pos,Tree.kids,rstepsP,kidsP,boxP,rwsP,grsP,casP,go_sem]
          first
          |refine aw4 ?_ ?_ rfl ?_
          |apply aw3
          |apply aw2
          |(refine awB (fun hc=>?_) fun hc=>?_<;>first|(cases hc;done)|(exfalso;first|(simp at hc<;>omega)|(simp[hlt,hlc']at hc;done))|(try simp only[bn]at hc;try contradiction))
          |skip))
     ·rw[show accT s kd c a (l.map (acceptN s)) rows [] ch=false by rw[accT,if_neg hk1,if_neg hk2]];repeat' (first
       |((with_reducible show VCs _);first|exact True.intro|(simp only[vb,lb];omega)|(simp only[vb,lb,hk1,hk2];and_intros<;>first|omega|(simp<;>omega))|(simp[vb,hk1,hk2]<;>omega))
       |((with_reducible show All _);first|exact True.intro|((try dsimp only[go_sem]);first|(simp[vb,hk1,hk2]<;>omega)|(simp only[vb,and_true,true_implies];(repeat' (first|(with_reducible assumption)|(with_reducible apply And.intro)|intro _|((fail_if_success (with_reducible show(_:Int)≤_));assumption)))<;>first|omega|rfl|(simp only[ab,hk1,hk2];done)|(simp[Nat.mul_one,hk1,hk2]<;>omega)|(simp_all;done))))
       |exact(rfl:some _=_)
       |(
        fail_if_success refine awL ?_
        refine evA ?_;repeat1' dsimp only[c47,plcB,plcA,treeB,Tree.kind,Tree.steps,Tree.cell,Tree.pos,Tree.kids,rstepsP,kidsP,boxP,rwsP,grsP,casP,go_sem]
        first
        |refine aw4 ?_ ?_ rfl ?_
        |apply aw3
        |apply aw2
        |(refine awB (fun hc=>?_) fun hc=>?_<;>first|(cases hc;done)|(exfalso;first|(simp at hc<;>omega)|(simp[hk1,hk2]at hc;done))|(try simp only[bn]at hc;try contradiction))
        |skip))
  ·have hpos:0<b.length:=List.length_pos_iff.mpr h0;have hcln:=cloneG b h0 hb [⟨[.pv (boxP s.box),.pv (rwsP s.rows),.pv (grsP s.graphs),.pv (casP s.cases),.pv (rwsP rows),.pv (boxP b),.pv (.bool ch)],0,7,73,false⟩,treeB (.node kd st c a l)];unfold boxP at hE;unfold boxP rwsP grsP casP treeB rgRow at hcln;simp only[Tree.kind,Tree.steps,Tree.cell,Tree.pos,Tree.kids,rstepsP,kidsP,List.length_cons,List.length_nil,List.cons_append,List.nil_append,Nat.zero_add]at hcln;refine pure_body' (C:=ctx) (Fn.of fn47q rfl) rfl ?_;unfold c47q;repeat' (first
    |((with_reducible show VCs _);first|exact True.intro|(simp only[vb,lb];omega)|(simp only[vb,lb,hE,hcln];and_intros<;>first|omega|(simp<;>omega))|(simp[vb,hE,hcln]<;>omega))
    |((with_reducible show All _);first|exact True.intro|((try dsimp only[go_sem]);first|(simp[vb,hE,hcln]<;>omega)|(simp only[vb,and_true,true_implies];(repeat' (first|(with_reducible assumption)|(with_reducible apply And.intro)|intro _|((fail_if_success (with_reducible show(_:Int)≤_));assumption)))<;>first|omega|rfl|(simp only[ab,hE,hcln];done)|(simp[Nat.mul_one,hE,hcln]<;>omega)|(simp_all;done))))
    |exact(rfl:some _=_)
    |(
     fail_if_success refine awL ?_
     refine evTH [(72,fun _=>some (.bool false))] [(20,{val:=some (.ref 2 1 0 b.length),mem:=some [⟨[.pv (boxP s.box),.pv (rwsP s.rows),.pv (grsP s.graphs),.pv (casP s.cases),.pv (rwsP rows),.pv (boxP b),.pv (.bool ch)],0,7,73,false⟩,treeB (.node kd st c a l),rgRow b 1]})] ?_;repeat1' dsimp only[c47,treeP,treeB,rgRow,Tree.kind,Tree.steps,Tree.cell,Tree.pos,Tree.kids,rstepsP,kidsP,boxP,rwsP,grsP,casP,go_sem]
     first
     |refine aw4 ?_ ?_ rfl ?_
     |apply aw3
     |apply aw2
     |(refine awB (fun hc=>?_) fun hc=>?_<;>first|(cases hc;done)|(exfalso;first|(simp at hc<;>omega)|(simp[hE,hcln]at hc;done))|(try simp only[bn]at hc;try contradiction))
     |skip))
   refine aw_loopJ (σ:=Nat×List Rg) (fun q=>q.1≤st.length∧q.2.length=b.length∧stepsOn s rows (st.drop q.1) q.2=stepsOn s rows st b)
    (fun q=>[(2,.ptr 0 0 0),(3,.ptr 1 0 0),(23,.pv (rstepsP st)),(24,.pv (.int .i64 st.length)),(25,.pv (.int .i64 q.1))])
    (fun q=>[plcB s rows (.ref 2 1 0 b.length) ch,treeB (.node kd st c a l),rgRow q.2 1]) (fun q=>st.length-q.1) (0,b) ⟨Nat.zero_le _,rfl,rfl⟩ (by (repeat' (first|exact trivial|refine And.intro (by first|rfl|(simp[get,Nat.beq];done)|(simp[get,Nat.beq];omega)|(dsimp only[get];congr 1<;>first|rfl|omega|(simp;done)|(simp;omega))) ?_))) ⟨[],rfl⟩ (fun _ _=>⟨Nat.zero_le _,rfl,by simp[okMem,plcB,plcA,treeB,rgRow,bnd,Nat.blt]⟩) fun q hq=>?_
   obtain⟨k,bb⟩:=q;obtain⟨p1,p2,p3⟩:=hq;simp only at p1 p2 p3 ⊢;by_cases hlt:k<st.length
   ·have e:=fm_take rstepC_len st k zs hlt;have hx:=List.all_eq_true.mp hf1 _ (getD_mem (d:=zs) hlt);rw[drop_getD st k zs hlt,stepsOn]at p3;generalize st.getD k zs=x at *;have hst:=step_at s rows bb 1 ch x hx (by rw[p2];exact hgo) hs.g (by omega) hrt (by omega) [plcB s rows (.ref 2 1 0 b.length) ch,treeB (.node kd st c a l),rgRow bb 1,⟨[.pv (.int .i64 x.kind),.pv (.int .i64 x.index),.pv (.int .i64 x.cell)],0,3,66,false⟩] 2 rfl;have hln:=stepN_len s rows bb x;generalize stepN s rows bb x=q at *;obtain⟨b2,pp,cc⟩:=q;simp only at hst hln p3;rw[p2]at hst hln
    rw[show([plcB s rows (.ref 2 1 0 b.length) ch,treeB (.node kd st c a l),rgRow bb 1,⟨[.pv (.int .i64 x.kind),.pv (.int .i64 x.index),.pv (.int .i64 x.cell)],0,3,66,false⟩]:AM).set 2 (rgRow b2 1)=[plcB s rows (.ref 2 1 0 b.length) ch,treeB (.node kd st c a l),rgRow b2 1,⟨[.pv (.int .i64 x.kind),.pv (.int .i64 x.index),.pv (.int .i64 x.cell)],0,3,66,false⟩] from rfl]at hst;unfold plcB plcA treeB rgRow rstepP boxP rwsP grsP casP at hst;simp only[Tree.kind,Tree.steps,Tree.cell,Tree.pos,Tree.kids,rstepsP,kidsP,rstepC]at hst;rw[←p3];clear p3 hcln;cases cc with
    |true =>
     simp only[if_true];repeat' (first
      |((with_reducible show VCs _);first|exact True.intro|(simp only[vb,lb];omega)|(simp only[vb,lb,e,f1,hlt,rstepC,hst];and_intros<;>first|omega|(simp<;>omega))|(simp[vb,e,f1,hlt,rstepC,hst]<;>omega))
      |((with_reducible show All _);first|exact True.intro|((try dsimp only[go_sem]);first|(simp[vb,e,f1,hlt,rstepC,hst]<;>omega)|(simp only[vb,and_true,true_implies];(repeat' (first|(with_reducible assumption)|(with_reducible apply And.intro)|intro _|((fail_if_success (with_reducible show(_:Int)≤_));assumption)))<;>first|omega|rfl|(simp only[ab,e,f1,hlt,rstepC,hst];done)|(simp[Nat.mul_one,e,f1,hlt,rstepC,hst]<;>omega)|(simp_all;done))))
      |exact(rfl:some _=_)
      |(
       fail_if_success refine awL ?_
       refine evH [(28,{val:=some (.pv (.agg [.int .i64 x.kind,.int .i64 x.index,.int .i64 x.cell]))}),(32,{val:=some (.pv (.tup [.bool pp,.bool true])),mem:=some [plcB s rows (.ref 2 1 0 b.length) ch,treeB (.node kd st c a l),rgRow b2 1,⟨[.pv (.int .i64 x.kind),.pv (.int .i64 x.index),.pv (.int .i64 x.cell)],0,3,66,false⟩]})] ?_;repeat1' dsimp only[c47,plcB,plcA,treeB,rgRow,Tree.kind,Tree.steps,Tree.cell,Tree.pos,Tree.kids,rstepsP,kidsP,boxP,rwsP,grsP,casP,go_sem]
       first
       |refine aw4 ?_ ?_ rfl ?_
       |apply aw3
       |apply aw2
       |(refine awB (fun hc=>?_) fun hc=>?_<;>first|(cases hc;done)|(exfalso;first|(simp at hc<;>omega)|(simp[e,f1,hlt,rstepC,hst]at hc;done))|(try simp only[bn]at hc;try contradiction))
       |skip))
    |false =>
     simp only[Bool.false_eq_true,if_false];cases pp with
     |false =>
      simp only[Bool.false_eq_true,if_false];repeat' (first
       |((with_reducible show VCs _);first|exact True.intro|(simp only[vb,lb];omega)|(simp only[vb,lb,e,f1,hlt,rstepC,hst];and_intros<;>first|omega|(simp<;>omega))|(simp[vb,e,f1,hlt,rstepC,hst]<;>omega))
       |((with_reducible show All _);first|exact True.intro|((try dsimp only[go_sem]);first|(simp[vb,e,f1,hlt,rstepC,hst]<;>omega)|(simp only[vb,and_true,true_implies];(repeat' (first|(with_reducible assumption)|(with_reducible apply And.intro)|intro _|((fail_if_success (with_reducible show(_:Int)≤_));assumption)))<;>first|omega|rfl|(simp only[ab,e,f1,hlt,rstepC,hst];done)|(simp[Nat.mul_one,e,f1,hlt,rstepC,hst]<;>omega)|(simp_all;done))))
       |exact(rfl:some _=_)
       |(
        fail_if_success refine awL ?_
        refine evH [(28,{val:=some (.pv (.agg [.int .i64 x.kind,.int .i64 x.index,.int .i64 x.cell]))}),(32,{val:=some (.pv (.tup [.bool false,.bool false])),mem:=some [plcB s rows (.ref 2 1 0 b.length) ch,treeB (.node kd st c a l),rgRow b2 1,⟨[.pv (.int .i64 x.kind),.pv (.int .i64 x.index),.pv (.int .i64 x.cell)],0,3,66,false⟩]})] ?_;repeat1' dsimp only[c47,plcB,plcA,treeB,rgRow,Tree.kind,Tree.steps,Tree.cell,Tree.pos,Tree.kids,rstepsP,kidsP,boxP,rwsP,grsP,casP,go_sem]
        first
        |refine aw4 ?_ ?_ rfl ?_
        |apply aw3
        |apply aw2
        |(refine awB (fun hc=>?_) fun hc=>?_<;>first|(cases hc;done)|(exfalso;first|(simp at hc<;>omega)|(simp[e,f1,hlt,rstepC,hst]at hc;done))|(try simp only[bn]at hc;try contradiction))
        |skip))
     |true =>
      simp only[if_true];repeat' (first
       |((with_reducible show VCs _);first|exact True.intro|(simp only[vb,lb];omega)|(simp only[vb,lb,e,f1,hlt,rstepC,hst];and_intros<;>first|omega|(simp<;>omega))|(simp[vb,e,f1,hlt,rstepC,hst]<;>omega))
       |((with_reducible show All _);first|exact True.intro|((try dsimp only[go_sem]);first|(simp[vb,e,f1,hlt,rstepC,hst]<;>omega)|(simp only[vb,and_true,true_implies];(repeat' (first|(with_reducible assumption)|(with_reducible apply And.intro)|intro _|((fail_if_success (with_reducible show(_:Int)≤_));assumption)))<;>first|omega|rfl|(simp only[ab,e,f1,hlt,rstepC,hst];done)|(simp[Nat.mul_one,e,f1,hlt,rstepC,hst]<;>omega)|(simp_all;done))))
       |exact(rfl:some _=_)
       |(
        fail_if_success refine awL ?_
        refine evH [(28,{val:=some (.pv (.agg [.int .i64 x.kind,.int .i64 x.index,.int .i64 x.cell]))}),(32,{val:=some (.pv (.tup [.bool true,.bool false])),mem:=some [plcB s rows (.ref 2 1 0 b.length) ch,treeB (.node kd st c a l),rgRow b2 1,⟨[.pv (.int .i64 x.kind),.pv (.int .i64 x.index),.pv (.int .i64 x.cell)],0,3,66,false⟩]})] ?_;repeat1' dsimp only[c47,plcB,plcA,treeB,rgRow,Tree.kind,Tree.steps,Tree.cell,Tree.pos,Tree.kids,rstepsP,kidsP,boxP,rwsP,grsP,casP,go_sem]
        first
        |refine aw4 ?_ ?_ rfl ?_
        |apply aw3
        |apply aw2
        |(refine awB (fun hc=>?_) fun hc=>?_<;>first|(cases hc;done)|(exfalso;first|(simp at hc<;>omega)|(simp[e,f1,hlt,rstepC,hst]at hc;done))|(try simp only[bn]at hc;try contradiction))
        |skip))
      exact⟨(k+1,b2),by show st.length-(k+1)<st.length-k;omega,⟨by show k+1≤_;omega,hln,rfl⟩,by (repeat' (first|exact trivial|refine And.intro (by first|rfl|(simp[get,Nat.beq];done)|(simp[get,Nat.beq];omega)|(dsimp only[get];congr 1<;>first|rfl|omega|(simp;done)|(simp;omega))) ?_)),_,rfl⟩
   ·obtain rfl:k=st.length:=by omega
    rw[List.drop_length,stepsOn]at p3;rw[←p3];simp only;clear p3 hcln hE hf1;have f3:=kids_len l;rw[←p2]at hb hgo hpos ⊢;have f4:=box_len bb;clear f2;by_cases hk1:kd=1
    ·subst hk1;simp[tailOk,insideB]at hf2;obtain⟨⟨t1,t2,t3⟩,t4,t5⟩:=hf2;obtain⟨cn,rfl⟩:∃n:Nat,c=n:=⟨c.toNat,by omega⟩
     unfold accT;rw[if_pos rfl];by_cases hcb:(cn:Int)<bb.length
     ·rw[if_pos hcb];have hcb':cn<bb.length:=by omega
      match l,t1 with
      |[k0,k1],_ =>
      simp only[List.map_cons,List.map_nil,Int.toNat_natCast];have e:=box_take bb cn (by omega) hcb;rw[Int.toNat_natCast]at e;have e4:(((bb.flatMap rgC).map AV.pv).drop (cn*2)).take 2=[.pv (.int .i64 (bb.getD cn zr).lo),.pv (.int .i64 (bb.getD cn zr).hi)]:=by rw[←List.map_drop,←List.map_take,e];rfl
      clear e;generalize bb.getD cn zr=y at *;iterate 9 first
       |refine⟨fun h=>by simp at h<;>omega,fun _=>?_⟩
       |refine⟨by simp[vb,hcb,hcb',f4,e4,plains]<;>omega,by simp[vb,hcb,hcb',f4,e4,plains]<;>omega,?_⟩
       |(refine evH [(54,{val:=some (.pv (.agg [.int .i64 y.lo,.int .i64 y.hi]))})] ?_;iterate 2 (try dsimp only[plcB,plcA,treeB,rgRow,Tree.kind,Tree.steps,Tree.cell,Tree.pos,Tree.kids,go_sem]))
      refine evH [(54,{val:=some (.pv (.agg [.int .i64 y.lo,.int .i64 y.hi]))})] ?_;dsimp only[plcB,plcA,treeB,rgRow,Tree.kind,Tree.steps,Tree.cell,Tree.pos,Tree.kids,go_sem];refine⟨fun _=>?_,fun h=>by simp at h<;>omega⟩;iterate 5 first
       |refine⟨fun h=>by simp at h<;>omega,fun _=>?_⟩
       |refine⟨by simp[vb,hcb,hcb',f4,e4,plains]<;>omega,by simp[vb,hcb,hcb',f4,e4,plains]<;>omega,?_⟩
       |(refine evH [(54,{val:=some (.pv (.agg [.int .i64 y.lo,.int .i64 y.hi]))})] ?_;iterate 2 (try dsimp only[plcB,plcA,treeB,rgRow,Tree.kind,Tree.steps,Tree.cell,Tree.pos,Tree.kids,go_sem]))
      refine evH [(54,{val:=some (.pv (.agg [.int .i64 y.lo,.int .i64 y.hi]))})] ?_;dsimp only[plcB,plcA,treeB,rgRow,Tree.kind,Tree.steps,Tree.cell,Tree.pos,Tree.kids,go_sem];try dsimp only[plcB,plcA,treeB,rgRow,Tree.kind,Tree.steps,Tree.cell,Tree.pos,Tree.kids,go_sem]
      refine⟨(by first|exact True.intro|(simp only[vb,lb];omega)|(simp only[vb,lb,hcb,hcb',f4,e4,plains];and_intros<;>first|omega|(simp<;>omega))|(simp[vb,hcb,hcb',f4,e4,plains]<;>omega)),(by first|exact True.intro|((try dsimp only[go_sem]);first|(simp[vb,hcb,hcb',f4,e4,plains]<;>omega)|(simp only[vb,and_true,true_implies];(repeat' (first|(with_reducible assumption)|(with_reducible apply And.intro)|intro _|((fail_if_success (with_reducible show(_:Int)≤_));assumption)))<;>first|omega|rfl|(simp only[ab,hcb,hcb',f4,e4,plains];done)|(simp[Nat.mul_one,hcb,hcb',f4,e4,plains]<;>omega)|(simp_all;done)))),?_⟩
      refine aw_frame [(2,.ptr 0 0 0),(3,.ptr 1 0 0),(9,.ptr 3 0 0)] (by (repeat' (first|exact trivial|refine And.intro (by first|rfl|(simp[get,Nat.beq];done)|(simp[get,Nat.beq];omega)|(dsimp only[get];congr 1<;>first|rfl|omega|(simp;done)|(simp;omega))) ?_))) ?_;have hcr:=fun μ hj=>cloneRef bb 1 hpos hb μ 2 hj
      refine aw_rsS 2 [] [] rfl ?_ ?_;dsimp only[freeA,go_sem];refine⟨(by first|exact True.intro|(simp only[vb,lb];omega)|(simp[vb]<;>omega)),(by first|exact True.intro|((try dsimp only[go_sem]);first|(simp[vb]<;>omega)|(simp only[vb,and_true,true_implies];(repeat' (first|(with_reducible assumption)|(with_reducible apply And.intro)|intro _|((fail_if_success (with_reducible show(_:Int)≤_));assumption)))<;>first|omega|rfl|(simp only[ab];done)|(simp[Nat.mul_one]<;>omega)|(simp_all;done)))),rfl,?_⟩;dsimp only[go_sem];rotate_left;dsimp only[freeB,swapL,go_sem]
      refine⟨(by first|exact True.intro|(simp only[vb,lb];omega)|(simp[vb]<;>omega)),(by first|exact True.intro|((try dsimp only[go_sem]);first|(simp[vb]<;>omega)|(simp only[vb,and_true,true_implies];(repeat' (first|(with_reducible assumption)|(with_reducible apply And.intro)|intro _|((fail_if_success (with_reducible show(_:Int)≤_));assumption)))<;>first|omega|rfl|(simp only[ab];done)|(simp[Nat.mul_one]<;>omega)|(simp_all;done)))),rfl,?_⟩;refine aw_keep [0,1,2,3,5,4] rfl ?_;dsimp only[go_sem];rw[ren_pv];all_goals
       refine aw_frame [(2,.ptr 0 0 0),(3,.ptr 1 0 0),(9,.ptr 3 0 0),(10,.ptr 4 0 0),(11,.ptr 5 0 0)] (by (repeat' (first|exact trivial|refine And.intro (by first|rfl|(simp[get,Nat.beq];done)|(simp[get,Nat.beq];omega)|(dsimp only[get];congr 1<;>first|rfl|omega|(simp;done)|(simp;omega))) ?_))) ?_;simp only[wts]at hw;have ih0:=ih k0 (by simp) (by simpa using (List.all_eq_true.mp hf3 k0 (by simp))) (by omega) rows (bb.set cn ⟨y.lo,min y.hi a⟩) ch hr hrt (by simpa using hb) (by simpa using hgo)
       have ih1:=ih k1 (by simp) (by simpa using (List.all_eq_true.mp hf3 k1 (by simp))) (by omega) rows (bb.set cn ⟨max y.lo (a+1),y.hi⟩) ch hr hrt (by simpa using hb) (by simpa using hgo);clear ih;unfold rgRow at hcr;refine evH [(59,{val:=some (.ref 6 1 0 bb.length),new:=[⟨(bb.flatMap rgC).map .pv,1,2,57,false⟩]}),(62,{val:=some (.ref 7 1 0 bb.length),new:=[⟨(bb.flatMap rgC).map .pv,1,2,57,false⟩]})] ?_;dsimp only[go_sem];try dsimp only[go_sem]
       refine⟨(by simp[vb]<;>omega),?_,(by first|rfl|trivial),?_⟩
       ·iterate 3 (try dsimp only[bigMem,updL,go_sem])
        exact⟨hcr _ rfl,hcr _ rfl,trivial⟩
       iterate 3 (try dsimp only[bigMem,updL,go_sem])
       refine aw_frame [(2,.ptr 0 0 0),(3,.ptr 1 0 0),(9,.ptr 3 0 0),(10,.ptr 4 0 0),(11,.ptr 5 0 0)] (by (repeat' (first|exact trivial|refine And.intro (by first|rfl|(simp[get,Nat.beq];done)|(simp[get,Nat.beq];omega)|(dsimp only[get];congr 1<;>first|rfl|omega|(simp;done)|(simp;omega))) ?_))) ?_;have e6:=box_len bb;have hm1:=meet_ok y ⟨y.lo,a⟩;have hm2:=meet_ok y ⟨a+1,y.hi⟩;have e7:=fun b lo hi h=>box_set2 b cn lo hi h
       simp only[Int.max_self,Int.min_self]at hm1 hm2;refine aw_seq (aw_regT (T:=[(79,fun ps=>match ps with|[.agg [.int _ a,.int _ b],.agg [.int _ c,.int _ d]]=>some (.agg [.int .i64 (max a c),.int .i64 (min b d)])|_=>none)]) (H:=[]) (by rfl) ?_);dsimp only[evOpsTail,go_sem];try dsimp only[go_sem]
       refine⟨(by simp[vb,hcb,hcb',e6,hm1]<;>omega),(by simp[vb,hcb,hcb',e6,hm1]<;>omega),?_⟩;iterate 3 (try dsimp only[go_sem])
       refine aw_frame [(2,.ptr 0 0 0),(3,.ptr 1 0 0),(9,.ptr 3 0 0),(10,.ptr 4 0 0),(11,.ptr 5 0 0)] (by (repeat' (first|exact trivial|refine And.intro (by first|rfl|(simp[get,Nat.beq];done)|(simp[get,Nat.beq];omega)|(dsimp only[get];congr 1<;>first|rfl|omega|(simp;done)|(simp;omega))) ?_))) ?_;rw[show((((bb.flatMap rgC).map AV.pv).set (0+(cn:Int).toNat*2) (.pv (.int .i64 (max y.lo y.lo)))).set (0+(cn:Int).toNat*2+1) (.pv (.int .i64 (min y.hi a))))=((bb.set cn ⟨y.lo,min y.hi a⟩).flatMap rgC).map AV.pv from by rw[←e7 bb _ _ hcb',Int.max_self];simp]
       refine aw_seq (aw_regT (T:=[(79,fun ps=>match ps with|[.agg [.int _ a,.int _ b],.agg [.int _ c,.int _ d]]=>some (.agg [.int .i64 (max a c),.int .i64 (min b d)])|_=>none)]) (H:=[]) (by rfl) ?_);dsimp only[evOpsTail,go_sem];try dsimp only[go_sem]
       refine⟨(by simp[vb,hcb,hcb',e6,hm2]<;>omega),(by simp[vb,hcb,hcb',e6,hm2]<;>omega),?_⟩;iterate 3 (try dsimp only[go_sem])
       refine aw_frame [(2,.ptr 0 0 0),(3,.ptr 1 0 0),(9,.ptr 3 0 0),(10,.ptr 4 0 0),(11,.ptr 5 0 0)] (by (repeat' (first|exact trivial|refine And.intro (by first|rfl|(simp[get,Nat.beq];done)|(simp[get,Nat.beq];omega)|(dsimp only[get];congr 1<;>first|rfl|omega|(simp;done)|(simp;omega))) ?_))) ?_;rw[show((((bb.flatMap rgC).map AV.pv).set (0+(cn:Int).toNat*2) (.pv (.int .i64 (max y.lo (a+1))))).set (0+(cn:Int).toNat*2+1) (.pv (.int .i64 (min y.hi y.hi))))=((bb.set cn ⟨max y.lo (a+1),y.hi⟩).flatMap rgC).map AV.pv from by rw[←e7 bb _ _ hcb',Int.min_self];simp];clear hcr e7 hm1 hm2 e6 e4
       have hbl0:(bb.set cn ⟨y.lo,min y.hi a⟩).length=bb.length:=by simp
       have hbl1:(bb.set cn ⟨max y.lo (a+1),y.hi⟩).length=bb.length:=by simp
       generalize bb.set cn ⟨y.lo,min y.hi a⟩=bl at *;generalize bb.set cn ⟨max y.lo (a+1),y.hi⟩=bh at *;generalize acceptN s k0 rows bl ch=q0 at *;generalize acceptN s k1 rows bh ch=q1 at *;have z1:=box_len bl;have z2:=box_len bh;have x1:(0+bb.length*2).ble ((bl.flatMap rgC).map AV.pv).length=true:=by rw[List.length_map,z1,hbl0];simp
       have x3:(0+bb.length*2).ble ((bh.flatMap rgC).map AV.pv).length=true:=by rw[List.length_map,z2,hbl1];simp
       have x2:plains (((bl.flatMap rgC).map AV.pv).take (bb.length*2))=some (bl.flatMap rgC):=by rw[←hbl0];exact(box_thaw bl 1).2
       have x4:plains (((bh.flatMap rgC).map AV.pv).take (bb.length*2))=some (bh.flatMap rgC):=by rw[←hbl1];exact(box_thaw bh 1).2
       obtain⟨a0,a1,a2,a3,a4⟩:=k0;obtain⟨d0,d1,d2,d3,d4⟩:=k1;have g0:=kid_take [.node a0 a1 a2 a3 a4,.node d0 d1 d2 d3 d4] 0 (by simp);have g1:=kid_take [.node a0 a1 a2 a3 a4,.node d0 d1 d2 d3 d4] 1 (by simp);simp only[List.getD_cons_zero,List.getD_cons_succ,Tree.kind,Tree.steps,Tree.cell,Tree.pos,Tree.kids,Nat.zero_mul,Nat.one_mul,List.drop_zero]at g0 g1;have g2':([Tree.node a0 a1 a2 a3 a4,.node d0 d1 d2 d3 d4].flatMap treeC).length=10:=kids_len _;simp only[treeP,Tree.kind,Tree.steps,Tree.cell,Tree.pos,Tree.kids]at ih0 ih1;unfold kidsP boxP at ih0 ih1;unfold kidsP at g0 g1
       refine evH [(94,{val:=some (.pv (.agg [.int .i64 a0,rstepsP a1,.int .i64 a2,.int .i64 a3,kidsP a4]))}),(95,{val:=some (.pv (.bool q0)),args:=some [.agg [boxP s.box,rwsP s.rows,grsP s.graphs,casP s.cases,rwsP rows,boxP bl,.bool ch],.agg [.int .i64 a0,rstepsP a1,.int .i64 a2,.int .i64 a3,kidsP a4]]}),(101,{val:=some (.pv (.agg [.int .i64 d0,rstepsP d1,.int .i64 d2,.int .i64 d3,kidsP d4]))}),(102,{val:=some (.pv (.bool q1)),args:=some [.agg [boxP s.box,rwsP s.rows,grsP s.graphs,casP s.cases,rwsP rows,boxP bh,.bool ch],.agg [.int .i64 d0,rstepsP d1,.int .i64 d2,.int .i64 d3,kidsP d4]]})] ?_
       dsimp only[kidsP,go_sem];try dsimp only[kidsP,go_sem]
       refine⟨(by simp[vb,treeC_len]<;>omega),?_,?_⟩
       ·unfold boxP;simp only[x1,x2,x3,x4,cond_true,g0,g1,hbl0,hbl1]at ih0 ih1 ⊢;exact⟨fun _ h=>h,fun h=>⟨trivial,⟨fun _=>h,fun _=>h,trivial⟩,trivial,ih1,trivial⟩,fun h=>⟨by simp[vb,treeC_len],⟨fun _=>h,trivial⟩,trivial,trivial⟩,fun h=>⟨by simp[vb],⟨fun _=>h,trivial⟩,trivial⟩,fun h=>⟨by simp[vb],⟨fun _=>h,trivial⟩,trivial⟩,fun _=>⟨trivial,trivial,trivial⟩,fun _=>⟨by simp[vb],trivial,trivial⟩,trivial,ih0,trivial,trivial⟩
       repeat' (first
        |((with_reducible show VCs _);first|exact True.intro|(simp only[vb,lb];omega)|(simp[vb]<;>omega))
        |((with_reducible show All _);first|exact True.intro|((try dsimp only[go_sem]);first|(simp[vb]<;>omega)|(simp only[vb,and_true,true_implies];(repeat' (first|(with_reducible assumption)|(with_reducible apply And.intro)|intro _|((fail_if_success (with_reducible show(_:Int)≤_));assumption)))<;>first|omega|rfl|(simp only[ab];done)|(simp[Nat.mul_one]<;>omega)|(simp_all;done))))
        |exact(rfl:some _=_)
        |(
         fail_if_success refine awL ?_
         refine evA ?_;repeat1' dsimp only[c47,go_sem]
         first
         |refine aw4 ?_ ?_ rfl ?_
         |apply aw3
         |apply aw2
         |(refine awB (fun hc=>?_) fun hc=>?_<;>first|(cases hc;done)|(exfalso;first|(simp at hc<;>omega))|(try simp only[bn]at hc;try contradiction))
         |skip))
       rw[cond_and]
     ·rw[if_neg hcb];repeat' (first
       |((with_reducible show VCs _);first|exact True.intro|(simp only[vb,lb];omega)|(simp only[vb,lb,hcb];and_intros<;>first|omega|(simp<;>omega))|(simp[vb,hcb]<;>omega))
       |((with_reducible show All _);first|exact True.intro|((try dsimp only[go_sem]);first|(simp[vb,hcb]<;>omega)|(simp only[vb,and_true,true_implies];(repeat' (first|(with_reducible assumption)|(with_reducible apply And.intro)|intro _|((fail_if_success (with_reducible show(_:Int)≤_));assumption)))<;>first|omega|rfl|(simp only[ab,hcb];done)|(simp[Nat.mul_one,hcb]<;>omega)|(simp_all;done))))
       |exact(rfl:some _=_)
       |(
        fail_if_success refine awL ?_
        refine evA ?_;repeat1' dsimp only[c47,plcB,plcA,treeB,rgRow,Tree.kind,Tree.steps,Tree.cell,Tree.pos,Tree.kids,go_sem]
        first
        |refine aw4 ?_ ?_ rfl ?_
        |apply aw3
        |apply aw2
        |(refine awB (fun hc=>?_) fun hc=>?_<;>first|(cases hc;done)|(exfalso;first|(simp at hc<;>omega)|(simp[hcb]at hc;done))|(try simp only[bn]at hc;try contradiction))
        |skip))
    ·by_cases hk2:kd=2
     ·subst hk2;simp[tailOk]at hf2;obtain⟨⟨⟨t1,t2⟩,rfl⟩,rfl⟩:=hf2;have hcc:=hs.c;unfold accT;rw[if_neg (by decide),if_pos rfl,List.length_map];cases ch with
      |true =>
       repeat' (first
        |((with_reducible show VCs _);first|exact True.intro|(simp only[vb,lb];omega)|(simp only[vb,lb,hlt];and_intros<;>first|omega|(simp<;>omega))|(simp[vb,hlt]<;>omega))
        |((with_reducible show All _);first|exact True.intro|((try dsimp only[go_sem]);first|(simp[vb,hlt]<;>omega)|(simp only[vb,and_true,true_implies];(repeat' (first|(with_reducible assumption)|(with_reducible apply And.intro)|intro _|((fail_if_success (with_reducible show(_:Int)≤_));assumption)))<;>first|omega|rfl|(simp only[ab,hlt];done)|(simp[Nat.mul_one,hlt]<;>omega)|(simp_all;done))))
        |exact(rfl:some _=_)
        |(
         fail_if_success refine awL ?_
         refine evH [(107,{val:=some (.pv (.bool true))})] ?_;repeat1' dsimp only[c47,plcB,plcA,treeB,rgRow,Tree.kind,Tree.steps,Tree.cell,Tree.pos,Tree.kids,kidsP,casP,go_sem]
         first
         |refine aw4 ?_ ?_ rfl ?_
         |apply aw3
         |apply aw2
         |(refine awB (fun hc=>?_) fun hc=>?_<;>first|(cases hc;done)|(exfalso;first|(simp at hc<;>omega)|(simp[hlt]at hc;done))|(try simp only[bn]at hc;try contradiction))
         |skip))
      |false =>
       by_cases hlc:l.length=s.cases.length
       ·rw[decide_eq_true hlc];simp only[Bool.not_false,Bool.true_and];generalize hres:accK rows bb (l.map (acceptN s)) s.cases=res;repeat' (first
         |((with_reducible show VCs _);first|exact True.intro|(simp only[vb,lb];omega)|(simp only[vb,lb,hlt,hlc];and_intros<;>first|omega|(simp<;>omega))|(simp[vb,hlt,hlc]<;>omega))
         |((with_reducible show All _);first|exact True.intro|((try dsimp only[go_sem]);first|(simp[vb,hlt,hlc]<;>omega)|(simp only[vb,and_true,true_implies];(repeat' (first|(with_reducible assumption)|(with_reducible apply And.intro)|intro _|((fail_if_success (with_reducible show(_:Int)≤_));assumption)))<;>first|omega|rfl|(simp only[ab,hlt,hlc];done)|(simp[Nat.mul_one,hlt,hlc]<;>omega)|(simp_all;done))))
         |exact(rfl:some _=_)
         |(
          fail_if_success refine awL ?_
          refine evH [(107,{val:=some (.pv (.bool false))}),(116,{val:=some (.pv (.bool false))})] ?_;repeat1' dsimp only[c47,plcB,plcA,treeB,rgRow,Tree.kind,Tree.steps,Tree.cell,Tree.pos,Tree.kids,kidsP,casP,go_sem]
          first
          |refine aw4 ?_ ?_ rfl ?_
          |apply aw3
          |apply aw2
          |(refine awB (fun hc=>?_) fun hc=>?_<;>first|(cases hc;done)|(exfalso;first|(simp at hc<;>omega)|(simp[hlt,hlc]at hc;done))|(try simp only[bn]at hc;try contradiction))
          |skip))
        refine aw_loopJ (σ:=Nat) (fun k=>k≤l.length∧accK rows bb ((l.map (acceptN s)).drop k) (s.cases.drop k)=res)
         (fun k=>[(2,.ptr 0 0 0),(3,.ptr 1 0 0),(119,.pv (kidsP l)),(120,.pv (.int .i64 l.length)),(121,.pv (.int .i64 k))])
         (fun k=>[plcB s rows (.ref 2 1 0 bb.length) false,treeB (.node 2 st 0 0 l),rgRow bb 1]) (fun k=>l.length-k) 0 ⟨Nat.zero_le _,hres⟩ (by (repeat' (first|exact trivial|refine And.intro (by first|rfl|(simp[get,Nat.beq];done)|(simp[get,Nat.beq];omega)|(dsimp only[get];congr 1<;>first|rfl|omega|(simp;done)|(simp;omega))) ?_))) ⟨[],rfl⟩ (fun _ _=>⟨Nat.zero_le _,rfl,by simp[okMem,plcB,plcA,treeB,rgRow,bnd,Nat.blt]⟩) fun k hq=>?_
        obtain⟨q1,q2⟩:=hq;by_cases hlk:k<l.length
        ·have hkc:k<s.cases.length:=by omega
         have e:=kid_take l k hlk;have e2:=cas_at s.cases k hkc;have e3:=cas_len s.cases;have hcl:=hs.l _ (getD_mem (d:=([]:List Rw)) hkc);have hmem:=getD_mem (d:=zt) hlk;have hwk:=wt_mem hmem;have hih:=ih _ hmem (List.all_eq_true.mp hf3 _ hmem) (by omega) (rows++s.cases.getD k []) bb true (by rw[List.length_append];unfold accMost at hr ⊢;simp only[cond_true,cond_false]at hr ⊢;omega) (fun r hr=>by
          rcases List.mem_append.mp hr with h|h
          ·exact hrt r h
          ·exact hcl.2 r h) hb hgo
         have hcon:=concat_ok [rows,s.cases.getD k []] (by simp) (by simp only[lenS,List.map_cons,List.map_nil,List.sum_cons,List.sum_nil];omega);rw[show[rows,s.cases.getD k []].flatten=rows++s.cases.getD k [] by simp]at hcon;rw[drop_getD _ k (acceptN s zt) (by simpa using hlk),drop_getD s.cases k [] hkc,accK]at q2;rw[show(l.map (acceptN s)).getD k (acceptN s zt)=acceptN s (l.getD k zt) by simp[List.getD]]at q2;generalize hrest:accK rows bb ((l.map (acceptN s)).drop (k+1)) (s.cases.drop (k+1))=rest at *;generalize s.cases.getD k []=cs at *;generalize l.getD k zt=x at *
         generalize acceptN s x (rows++cs) bb true=qx at *;generalize rows++cs=rows2 at *;obtain⟨x1,x2⟩:=box_thaw bb 1;obtain⟨a0,a1,a2,a3,a4⟩:=x;simp only[treeP,Tree.kind,Tree.steps,Tree.cell,Tree.pos,Tree.kids]at hih e;clear ih hres;have hcon:PureOK ctx 80 [.sl 2 [rwsP rows,.sl cs.length (cs.flatMap rwC)]] (.sl rows2.length (rows2.flatMap rwC)):=hcon;have z1:=box_len bb;iterate 5 first
          |refine⟨fun _=>?_,fun h=>by simp at h<;>omega⟩
          |refine⟨by simp[vb,e,f3,hlk,e2,e3,hkc,hcon,kidsP]<;>omega,by simp[vb,e,f3,hlk,e2,e3,hkc,hcon,kidsP]<;>omega,?_⟩
          |(refine evTH [(80,fun _=>some (.sl rows2.length (rows2.flatMap rwC)))] [(125,{val:=some (.pv (.agg [.int .i64 a0,rstepsP a1,.int .i64 a2,.int .i64 a3,kidsP a4]))}),(134,{val:=some (.pv (.sl cs.length (cs.flatMap rwC)))})] ?_;iterate 2 (try dsimp only[plcB,plcA,treeB,rgRow,Tree.kind,Tree.steps,Tree.cell,Tree.pos,Tree.kids,kidsP,casP,go_sem]))
         refine evTH [(80,fun _=>some (.sl rows2.length (rows2.flatMap rwC)))] [(125,{val:=some (.pv (.agg [.int .i64 a0,rstepsP a1,.int .i64 a2,.int .i64 a3,kidsP a4]))}),(134,{val:=some (.pv (.sl cs.length (cs.flatMap rwC)))})] ?_;dsimp only[plcB,plcA,treeB,rgRow,Tree.kind,Tree.steps,Tree.cell,Tree.pos,Tree.kids,kidsP,casP,go_sem];try dsimp only[plcB,plcA,treeB,rgRow,Tree.kind,Tree.steps,Tree.cell,Tree.pos,Tree.kids,kidsP,casP,go_sem]
         refine⟨(by first|exact True.intro|(simp only[vb,lb];omega)|(simp only[vb,lb,e,f3,hlk,e2,e3,hkc,hcon,kidsP];and_intros<;>first|omega|(simp<;>omega))|(simp[vb,e,f3,hlk,e2,e3,hkc,hcon,kidsP]<;>omega)),(by first|exact True.intro|((try dsimp only[go_sem]);first|(simp[vb,e,f3,hlk,e2,e3,hkc,hcon,kidsP]<;>omega)|(simp only[vb,and_true,true_implies];(repeat' (first|(with_reducible assumption)|(with_reducible apply And.intro)|intro _|((fail_if_success (with_reducible show(_:Int)≤_));assumption)))<;>first|omega|rfl|(simp only[ab,e,f3,hlk,e2,e3,hkc,hcon,kidsP];done)|(simp[Nat.mul_one,e,f3,hlk,e2,e3,hkc,hcon,kidsP]<;>omega)|(simp_all;done)))),?_⟩
         refine evTH [(80,fun _=>some (.sl rows2.length (rows2.flatMap rwC)))] [(125,{val:=some (.pv (.agg [.int .i64 a0,rstepsP a1,.int .i64 a2,.int .i64 a3,kidsP a4]))}),(134,{val:=some (.pv (.sl cs.length (cs.flatMap rwC)))})] ?_;dsimp only[plcB,plcA,treeB,rgRow,Tree.kind,Tree.steps,Tree.cell,Tree.pos,Tree.kids,kidsP,casP,go_sem];try dsimp only[plcB,plcA,treeB,rgRow,Tree.kind,Tree.steps,Tree.cell,Tree.pos,Tree.kids,kidsP,casP,go_sem]
         refine⟨(by simp[vb,e,f3,hlk,e2,e3,hkc,hcon,kidsP]<;>omega),(by simp[vb,e,f3,hlk,e2,e3,hkc,hcon,kidsP]<;>omega),?_⟩;refine aw_seq (aw_regT (T:=[(80,fun _=>some (.sl rows2.length (rows2.flatMap rwC)))]) (H:=[(125,{val:=some (.pv (.agg [.int .i64 a0,rstepsP a1,.int .i64 a2,.int .i64 a3,kidsP a4]))}),(134,{val:=some (.pv (.sl cs.length (cs.flatMap rwC)))})]) (by rfl) ?_);dsimp only[evOpsTail,plcB,plcA,treeB,rgRow,Tree.kind,Tree.steps,Tree.cell,Tree.pos,Tree.kids,kidsP,casP,go_sem];try dsimp only[plcB,plcA,treeB,rgRow,Tree.kind,Tree.steps,Tree.cell,Tree.pos,Tree.kids,kidsP,casP,go_sem]
         refine⟨(by simp[vb,e,f3,hlk,e2,e3,hkc,hcon,kidsP]<;>omega),(by simp[vb,e,f3,hlk,e2,e3,hkc,hcon,kidsP]<;>omega),?_⟩;iterate 4 (try dsimp only[go_sem])
         unfold kidsP boxP at hih;have x3:(0+bb.length*2).ble ((bb.flatMap rgC).map AV.pv).length=true:=by rw[List.length_map,z1];simp
         refine evH [(141,{val:=some (.pv (.bool qx)),args:=some [.agg [.sl s.box.length (s.box.flatMap rgC),rwsP s.rows,grsP s.graphs,casP s.cases,.sl rows2.length (rows2.flatMap rwC),.sl bb.length (bb.flatMap rgC),.bool true],.agg [.int .i64 a0,rstepsP a1,.int .i64 a2,.int .i64 a3,.sl a4.length (a4.flatMap treeC)]]})] ?_;dsimp only[kidsP,boxP,casP,go_sem];try dsimp only[kidsP,boxP,casP,go_sem]
         refine⟨(by simp[vb]<;>omega),?_,?_⟩
         ·iterate 3 (try dsimp only[go_sem])
          unfold casP at hih;simp only[x3,x2,cond_true];exact⟨trivial,hih,trivial⟩
         cases qx with
         |true =>
          repeat' (first
           |((with_reducible show VCs _);first|exact True.intro|(simp only[vb,lb];omega)|(simp only[vb,lb,hlk];and_intros<;>first|omega|(simp<;>omega))|(simp[vb,hlk]<;>omega))
           |((with_reducible show All _);first|exact True.intro|((try dsimp only[go_sem]);first|(simp[vb,hlk]<;>omega)|(simp only[vb,and_true,true_implies];(repeat' (first|(with_reducible assumption)|(with_reducible apply And.intro)|intro _|((fail_if_success (with_reducible show(_:Int)≤_));assumption)))<;>first|omega|rfl|(simp only[ab,hlk];done)|(simp[Nat.mul_one,hlk]<;>omega)|(simp_all;done))))
           |exact(rfl:some _=_)
           |(
            fail_if_success refine awL ?_
            refine evA ?_;repeat1' dsimp only[c47,go_sem]
            first
            |refine aw4 ?_ ?_ rfl ?_
            |apply aw3
            |apply aw2
            |(refine awB (fun hc=>?_) fun hc=>?_<;>first|(cases hc;done)|(exfalso;first|(simp at hc<;>omega)|(simp[hlk]at hc;done))|(try simp only[bn]at hc;try contradiction))
            |skip))
          exact⟨k+1,by show l.length-(k+1)<l.length-k;omega,⟨by show k+1≤_;omega,by rw[←q2];simpa using hrest⟩,by (repeat' (first|exact trivial|refine And.intro (by first|rfl|(simp[get,Nat.beq];done)|(simp[get,Nat.beq];omega)|(dsimp only[get];congr 1<;>first|rfl|omega|(simp;done)|(simp;omega))) ?_)),_,rfl⟩
         |false =>
          repeat' (first
           |((with_reducible show VCs _);first|exact True.intro|(simp only[vb,lb];omega)|(simp only[vb,lb,hlk];and_intros<;>first|omega|(simp<;>omega))|(simp[vb,hlk]<;>omega))
           |((with_reducible show All _);first|exact True.intro|((try dsimp only[go_sem]);first|(simp[vb,hlk]<;>omega)|(simp only[vb,and_true,true_implies];(repeat' (first|(with_reducible assumption)|(with_reducible apply And.intro)|intro _|((fail_if_success (with_reducible show(_:Int)≤_));assumption)))<;>first|omega|rfl|(simp only[ab,hlk];done)|(simp[Nat.mul_one,hlk]<;>omega)|(simp_all;done))))
           |exact(rfl:some _=_)
           |(
            fail_if_success refine awL ?_
            refine evA ?_;repeat1' dsimp only[c47,go_sem]
            first
            |refine aw4 ?_ ?_ rfl ?_
            |apply aw3
            |apply aw2
            |(refine awB (fun hc=>?_) fun hc=>?_<;>first|(cases hc;done)|(exfalso;first|(simp at hc<;>omega)|(simp[hlk]at hc;done))|(try simp only[bn]at hc;try contradiction))
            |skip))
          rw[←q2];rfl
        ·obtain rfl:k=l.length:=by omega
         rw[List.drop_of_length_le (by simp),accK]at q2;subst q2;repeat' (first
          |((with_reducible show VCs _);first|exact True.intro|(simp only[vb,lb];omega)|(simp only[vb,lb,hlk];and_intros<;>first|omega|(simp<;>omega))|(simp[vb,hlk]<;>omega))
          |((with_reducible show All _);first|exact True.intro|((try dsimp only[go_sem]);first|(simp[vb,hlk]<;>omega)|(simp only[vb,and_true,true_implies];(repeat' (first|(with_reducible assumption)|(with_reducible apply And.intro)|intro _|((fail_if_success (with_reducible show(_:Int)≤_));assumption)))<;>first|omega|rfl|(simp only[ab,hlk];done)|(simp[Nat.mul_one,hlk]<;>omega)|(simp_all;done))))
          |exact(rfl:some _=_)
          |(
           fail_if_success refine awL ?_
           refine evA ?_;repeat1' dsimp only[c47,plcB,plcA,treeB,rgRow,Tree.kind,Tree.steps,Tree.cell,Tree.pos,Tree.kids,kidsP,casP,go_sem]
           first
           |refine aw4 ?_ ?_ rfl ?_
           |apply aw3
           |apply aw2
           |(refine awB (fun hc=>?_) fun hc=>?_<;>first|(cases hc;done)|(exfalso;first|(simp at hc<;>omega)|(simp[hlk]at hc;done))|(try simp only[bn]at hc;try contradiction))
           |skip))
         all_goals (intro _ _ _ _ h;cases h)
       ·rw[decide_eq_false hlc];have hlc':¬(l.length:Int)=(s.cases.length:Int):=by omega
        repeat' (first
         |((with_reducible show VCs _);first|exact True.intro|(simp only[vb,lb];omega)|(simp only[vb,lb,hlt,hlc'];and_intros<;>first|omega|(simp<;>omega))|(simp[vb,hlt,hlc']<;>omega))
         |((with_reducible show All _);first|exact True.intro|((try dsimp only[go_sem]);first|(simp[vb,hlt,hlc']<;>omega)|(simp only[vb,and_true,true_implies];(repeat' (first|(with_reducible assumption)|(with_reducible apply And.intro)|intro _|((fail_if_success (with_reducible show(_:Int)≤_));assumption)))<;>first|omega|rfl|(simp only[ab,hlt,hlc'];done)|(simp[Nat.mul_one,hlt,hlc']<;>omega)|(simp_all;done))))
         |exact(rfl:some _=_)
         |(
          fail_if_success refine awL ?_
          refine evH [(107,{val:=some (.pv (.bool false))}),(116,{val:=some (.pv (.bool true))})] ?_;repeat1' dsimp only[c47,plcB,plcA,treeB,rgRow,Tree.kind,Tree.steps,Tree.cell,Tree.pos,Tree.kids,kidsP,casP,go_sem]
          first
          |refine aw4 ?_ ?_ rfl ?_
          |apply aw3
          |apply aw2
          |(refine awB (fun hc=>?_) fun hc=>?_<;>first|(cases hc;done)|(exfalso;first|(simp at hc<;>omega)|(simp[hlt,hlc']at hc;done))|(try simp only[bn]at hc;try contradiction))
          |skip))
     ·rw[show accT s kd c a (l.map (acceptN s)) rows bb ch=false by rw[accT,if_neg hk1,if_neg hk2]];repeat' (first
       |((with_reducible show VCs _);first|exact True.intro|(simp only[vb,lb];omega)|(simp only[vb,lb,hk1,hk2];and_intros<;>first|omega|(simp<;>omega))|(simp[vb,hk1,hk2]<;>omega))
       |((with_reducible show All _);first|exact True.intro|((try dsimp only[go_sem]);first|(simp[vb,hk1,hk2]<;>omega)|(simp only[vb,and_true,true_implies];(repeat' (first|(with_reducible assumption)|(with_reducible apply And.intro)|intro _|((fail_if_success (with_reducible show(_:Int)≤_));assumption)))<;>first|omega|rfl|(simp only[ab,hk1,hk2];done)|(simp[Nat.mul_one,hk1,hk2]<;>omega)|(simp_all;done))))
       |exact(rfl:some _=_)
       |(
        fail_if_success refine awL ?_
        refine evA ?_;repeat1' dsimp only[c47,plcB,plcA,treeB,rgRow,Tree.kind,Tree.steps,Tree.cell,Tree.pos,Tree.kids,go_sem]
        first
        |refine aw4 ?_ ?_ rfl ?_
        |apply aw3
        |apply aw2
        |(refine awB (fun hc=>?_) fun hc=>?_<;>first|(cases hc;done)|(exfalso;first|(simp at hc<;>omega)|(simp[hk1,hk2]at hc;done))|(try simp only[bn]at hc;try contradiction))
        |skip))
end
section
open Rf
theorem AccOk.of {s:Sy} (h:sysOk s=true) (hs:SyS s):AccOk s∧(∀q∈s.graphs,graphOk s.box.length q=true)∧s.rows.length≤1000000:=by
 simp only[sysOk,Bool.and_eq_true,decide_eq_true_eq]at h;obtain⟨⟨⟨⟨⟨⟨h1,h2⟩,h3⟩,h4⟩,h5⟩,h6⟩,h7⟩:=h;refine⟨⟨hs.g,by omega,fun l hl=>⟨?_,hs.ct l hl⟩⟩,fun q hq=>List.all_eq_true.mp h6 q hq,by omega⟩;have:=List.all_eq_true.mp h7 l hl;simp only[caseOk,Bool.and_eq_true,decide_eq_true_eq]at this;omega
set_option maxHeartbeats 4000000 in
theorem check_ok (s:Sy) (hs:SyS s) (t:Tree) (ht:wt t≤1000000000):PureOK ctx 22 [.agg [boxP s.box,rwsP s.rows,grsP s.graphs,casP s.cases],treeP t] (.bool (checkN s t)):=by
 have h1:=sysValid_ok s hs;have h2:=valid_ok t ht;have h3:sysOk s=true→validB t=true→PureOK ctx 47 [.agg [boxP s.box,rwsP s.rows,grsP s.graphs,casP s.cases,rwsP s.rows,boxP s.box,.bool false],treeP t] (.bool (acceptN s t s.rows s.box false)):=fun a b=>by
  obtain⟨g1,g2,g3⟩:=AccOk.of a hs;simp only[validB,Bool.and_eq_true]at b;exact accepts_ok s g1 t b.2 ht s.rows s.box false g3 hs.rt hs.b g2
 unfold checkN;generalize acceptN s t s.rows s.box false=q3 at *;generalize sysOk s=q1 at *;generalize validB t=q2 at *;unfold boxP rwsP grsP casP at h1 h3;simp only[treeP]at h2 h3;unfold rstepsP kidsP at h2 h3;cases q1 with
 |false =>
  refine pure_body' (C:=ctx) (Fn.of fn22 rfl) rfl ?_;unfold c22;refine evT [(46,fun _=>some (.bool false)),(13,fun _=>some (.bool q2))] ?_;dsimp only[treeP,rstepsP,kidsP,boxP,rwsP,grsP,casP,go_sem];try dsimp only[treeP,rstepsP,kidsP,boxP,rwsP,grsP,casP,go_sem]
  refine⟨(by simp[vb,h1,h2]<;>omega),(by simp[vb,h1,h2]<;>omega),?_⟩;refine aw_seq (aw_regX (T:=[(46,fun _=>some (.bool false)),(13,fun _=>some (.bool q2))]) (H:=[]) ?_);dsimp only[treeP,rstepsP,kidsP,boxP,rwsP,grsP,casP,go_sem];try dsimp only[treeP,rstepsP,kidsP,boxP,rwsP,grsP,casP,go_sem]
  refine⟨(by first|exact True.intro|(simp only[vb,lb];omega)|(simp only[vb,lb,h1,h2];and_intros<;>first|omega|(simp<;>omega))|(simp[vb,h1,h2]<;>omega)),(by first|exact True.intro|((try dsimp only[go_sem]);first|(simp[vb,h1,h2]<;>omega)|(simp only[vb,and_true,true_implies];(repeat' (first|(with_reducible assumption)|(with_reducible apply And.intro)|intro _|((fail_if_success (with_reducible show(_:Int)≤_));assumption)))<;>first|omega|rfl|(simp only[ab,h1,h2];done)|(simp[Nat.mul_one,h1,h2]<;>omega)|(simp_all;done)))),?_⟩;refine evT [(46,fun _=>some (.bool false)),(13,fun _=>some (.bool q2))] ?_
  dsimp only[treeP,rstepsP,kidsP,boxP,rwsP,grsP,casP,go_sem];exact⟨trivial,rfl⟩
 |true =>
  cases q2 with
  |false =>
   refine pure_body' (C:=ctx) (Fn.of fn22 rfl) rfl ?_;unfold c22;refine evT [(46,fun _=>some (.bool true)),(13,fun _=>some (.bool false))] ?_;dsimp only[treeP,rstepsP,kidsP,boxP,rwsP,grsP,casP,go_sem];try dsimp only[treeP,rstepsP,kidsP,boxP,rwsP,grsP,casP,go_sem]
   refine⟨(by simp[vb,h1,h2]<;>omega),(by simp[vb,h1,h2]<;>omega),?_⟩;refine aw_seq (aw_regX (T:=[(46,fun _=>some (.bool true)),(13,fun _=>some (.bool false))]) (H:=[]) ?_);dsimp only[treeP,rstepsP,kidsP,boxP,rwsP,grsP,casP,go_sem];try dsimp only[treeP,rstepsP,kidsP,boxP,rwsP,grsP,casP,go_sem]
   refine⟨(by first|exact True.intro|(simp only[vb,lb];omega)|(simp only[vb,lb,h1,h2];and_intros<;>first|omega|(simp<;>omega))|(simp[vb,h1,h2]<;>omega)),(by first|exact True.intro|((try dsimp only[go_sem]);first|(simp[vb,h1,h2]<;>omega)|(simp only[vb,and_true,true_implies];(repeat' (first|(with_reducible assumption)|(with_reducible apply And.intro)|intro _|((fail_if_success (with_reducible show(_:Int)≤_));assumption)))<;>first|omega|rfl|(simp only[ab,h1,h2];done)|(simp[Nat.mul_one,h1,h2]<;>omega)|(simp_all;done)))),?_⟩
   refine evT [(46,fun _=>some (.bool true)),(13,fun _=>some (.bool false))] ?_;dsimp only[treeP,rstepsP,kidsP,boxP,rwsP,grsP,casP,go_sem];exact⟨trivial,rfl⟩
  |true =>
   have h3:=h3 rfl rfl;refine pure_body' (C:=ctx) (Fn.of fn22 rfl) rfl ?_;unfold c22;refine evT [(46,fun _=>some (.bool true)),(13,fun _=>some (.bool true)),(47,fun _=>some (.bool q3))] ?_;dsimp only[treeP,rstepsP,kidsP,boxP,rwsP,grsP,casP,go_sem];try dsimp only[treeP,rstepsP,kidsP,boxP,rwsP,grsP,casP,go_sem]
   refine⟨(by simp[vb,h1,h2,h3]<;>omega),(by simp[vb,h1,h2,h3]<;>omega),?_⟩;refine aw_seq (aw_regX (T:=[(46,fun _=>some (.bool true)),(13,fun _=>some (.bool true)),(47,fun _=>some (.bool q3))]) (H:=[]) ?_);dsimp only[treeP,rstepsP,kidsP,boxP,rwsP,grsP,casP,go_sem];try dsimp only[treeP,rstepsP,kidsP,boxP,rwsP,grsP,casP,go_sem]
   refine⟨(by first|exact True.intro|(simp only[vb,lb];omega)|(simp only[vb,lb,h1,h2,h3];and_intros<;>first|omega|(simp<;>omega))|(simp[vb,h1,h2,h3]<;>omega)),(by first|exact True.intro|((try dsimp only[go_sem]);first|(simp[vb,h1,h2,h3]<;>omega)|(simp only[vb,and_true,true_implies];(repeat' (first|(with_reducible assumption)|(with_reducible apply And.intro)|intro _|((fail_if_success (with_reducible show(_:Int)≤_));assumption)))<;>first|omega|rfl|(simp only[ab,h1,h2,h3];done)|(simp[Nat.mul_one,h1,h2,h3]<;>omega)|(simp_all;done)))),?_⟩
   refine evT [(46,fun _=>some (.bool true)),(13,fun _=>some (.bool true)),(47,fun _=>some (.bool q3))] ?_;dsimp only[treeP,rstepsP,kidsP,boxP,rwsP,grsP,casP,go_sem];exact⟨trivial,rfl⟩
end
end Pur
end
section
namespace Rf
theorem MonOk.of {s:Sy} (h:sysOk s=true):MonOk s s.box.length∧boxOk s.box=true∧(∀r∈s.rows,rowOk s.box.length r=true):=by
 simp only[sysOk,ivOk,Bool.and_eq_true,decide_eq_true_eq]at h;obtain⟨⟨⟨⟨⟨⟨⟨h1,h1'⟩,h2⟩,h3⟩,h4⟩,h5⟩,h6⟩,h7⟩:=h;refine⟨⟨fun q hq=>List.all_eq_true.mp h6 q hq,fun l hl r hr=>?_⟩,h1,fun r hr=>List.all_eq_true.mp h1' r hr⟩;have:=List.all_eq_true.mp h7 l hl;simp only[caseOk,ivOk,Bool.and_eq_true]at this;exact List.all_eq_true.mp this.2.2 r hr
theorem check_mono {s x:Sy} {t:Tree} (hg:x.graphs=s.graphs) (hc:x.cases=s.cases) (hb:BoxLe x.box s.box) (hr:RowsLe x.rows s.rows) (h:checkN s t=true) (hx:sysOk x=true):checkN x t=true:=by
 simp only[checkN,Bool.and_eq_true]at h ⊢;obtain⟨⟨h1,h2⟩,h3⟩:=h;obtain⟨m1,m2,m3⟩:=MonOk.of h1;obtain⟨n1,n2,n3⟩:=MonOk.of hx;simp only[validB,Bool.and_eq_true]at h2;refine⟨⟨hx,by simp only[validB,Bool.and_eq_true];exact h2⟩,?_⟩;rw[←hb.len]at m3;exact accept_mono hg hc n1 t h2.2 x.rows s.rows hr n3 m3 x.box s.box false hb rfl (.inr n2) (.inr m2) h3
def lessR (l:List Rw) (i:Nat) (d:Int):List Rw:=l.set i ⟨(l.getD i zw).terms,(l.getD i zw).bound-d⟩
theorem lessR_le (l:List Rw) (i:Nat) (d:Int) (hd:0≤d) (hi:i<l.length):RowsLe (lessR l i d) l:=by
 refine⟨by simp[lessR],fun k hk=>?_⟩;unfold lessR;rw[List.getD,List.getD];by_cases h:i=k
 ·subst h;rw[List.getElem?_set_self hi];exact⟨by simp[List.getD],by simp[List.getD];omega⟩
 ·rw[List.getElem?_set_ne h];exact⟨rfl,Int.le_refl _⟩
theorem meet_le (b:List Rg) (c:Nat) (p:Rg) (hc:c<b.length):BoxLe (b.set c ⟨max (b.getD c zr).lo p.lo,min (b.getD c zr).hi p.hi⟩) b:=by
 refine⟨by simp,fun k hk=>?_⟩;rw[getD_setR hc];split
 ·rename_i h;subst h;exact⟨by show _≤max _ _;omega,by show min _ _≤_;omega⟩
 ·exact RgLe.refl _
end Rf
namespace Pur
open Go.RowKit
attribute [local go_sem] evOps evOp evOpV evRun evK argF List.map hintAt stripped get put tmpsOf tmpOf tmpO tmpL tmpP conds ev cond_true cond_false Nat.beq Nat.ble Nat.add quiet After thenR blockR IfD List.append_eq List.nil_append List.cons_append evInt exactI_a exactI_b exactI_c exactI_d exactI_e exactI_f evBin evStr evBool evUn guardC calm quiet.isCallK evPick List.getElem?_cons_zero List.getElem?_cons_succ fromCells fromPVs cellsOf List.all oneCell List.length_cons List.length_nil mkAgg plains List.drop List.take List.getD Option.getD_some bo1 bo2 ba1 ba2 bn1 bn2 kk_i64 kk_u8 kk_i32 kk_u64 setAt List.set Nat.reduceAdd Nat.reduceMul evCall safeCall refsOf refsIn scalarA scalar scalarL thawL mapAll thawArg thawRef after freeze RetD RetE evResult evRess evRes1 thaw_pv mkTup nilOf_a nilOf_b nilOf_bb nilOf_c nilOf_d nilOf_e nilOf_f nilOf_g nilOf_h nilOf_i nilOf_j nilOf_k nilOf_l nilOf_m eqLeaf_a eqLeaf_b eqLeaf_c eqOffs evMM bytesOf evOpsF AfterF footOf footRefs notIn indepF footAt freeOk still evParts fillA zeros intOfA boundA srcOf List.isEmpty appNil_0 appNil_1 appNil_2 Int.reduceToNat Nat.mul_one Nat.reduceSub evC evOpsT evOpsTF autoH tabHint look hintD strip guarded RetPD RetRD mpLen keysOk leafKA leafK bitI nilOf_n nilOf_o Bool.or_false Bool.or_true Bool.and_true Bool.and_false Nat.blt renF renM renB renV idxOf solF solM solA solV thawRef ev1
open Rf
def own10:Nat→Bool:=fun d=>Nat.beq d 79
def c10:ACode:=(⟨_,by conv=>(lhs;reduce;try simp only[lt1,Int.cast_ofNat_Int,Int.reduceNegSucc,UInt8.reduceOfNat])⟩:{x // codeOf Tryz.prog 10 own10=some x}).1
theorem fn10:fnOf Tryz.prog 10 own10=some (c10,[.t 12],102,true):=by kernel_rfl
def c10t:ACode:=(⟨_,by conv=>(lhs;reduce;try simp only[lt1,Int.cast_ofNat_Int,Int.reduceNegSucc,UInt8.reduceOfNat])⟩:{x // (codeOf Tryz.prog 10 own10).map (fun y=>y.sub [1,1,1,1])=some x}).1
theorem rw_set (l:List Rw) (i:Nat) (d:Int) (hi:i<l.length):((l.flatMap rwC).map AV.pv).set (i*2+1) (.pv (.int .i64 ((l.getD i zw).bound-d)))=((lessR l i d).flatMap rwC).map AV.pv:=by
 unfold lessR;induction l generalizing i with
 |nil=>simp at hi
 |cons x r ih =>
  cases i with
  |zero=>rfl
  |succ i =>
   have:=ih i (by simpa using hi);rw[show(i+1)*2+1=i*2+1+1+1 by omega];simp only[List.flatMap_cons,rwC,List.cons_append,List.nil_append,List.map_cons,List.set_cons_succ,List.getD_cons_succ]at this ⊢;rw[this]
theorem rw_bound (l:List Rw) (i:Nat) (hi:i<l.length):((l.flatMap rwC).map AV.pv)[i*2+1]?.getD .any= .pv (.int .i64 (l.getD i zw).bound):=by
 have:=flatMap_get rwC_len l i zw 1 hi (by omega);rw[List.getElem?_map,this];rfl
theorem rws_thaw (l:List Rw):(0+l.length*2).ble ((l.flatMap rwC).map AV.pv).length=true∧plains (((l.flatMap rwC).map AV.pv).take (l.length*2))=some (l.flatMap rwC):=by
 have f:=rws_len l;refine⟨by simp[f],?_⟩;rw[List.take_of_length_le (by simp[f]),plains_map]
set_option maxHeartbeats 8000000 in
theorem smaller_tail (s:Sy) (hs:SyS s) (t:Tree) (ht:wt t≤1000000000) (hck:checkN s t=true) (row less:Int) (p:Rg) :
  Aw ctx own10 102 0 c10t (RetPD [.t 12] (.bool true)) [(4,.pv (.int .i64 row)),(5,.pv (.int .i64 less)),(6,.ptr 0 0 0),(7,.ptr 1 0 0)]
   [⟨[.pv (boxP s.box),.pv (rwsP s.rows),.pv (grsP s.graphs),.pv (casP s.cases)],0,4,36,false⟩,treeB t,⟨[.pv (.int .i64 p.lo),.pv (.int .i64 p.hi)],0,2,57,false⟩]:=by
 have f1:=rws_len s.rows;have hsr:=hs.r;by_cases hr:0≤row∧row<s.rows.length
 ·by_cases hl:0≤less∧less≤1000000000
  ·obtain⟨i,rfl⟩:∃i:Nat,row=i:=⟨row.toNat,by omega⟩
   have hi:i<s.rows.length:=by omega
   have e1:=rw_set s.rows i less hi;have e2:=rw_bound s.rows i hi;have hb: -1000000000≤(s.rows.getD i zw).bound∧(s.rows.getD i zw).bound≤1000000000:=by
    simp only[checkN,Bool.and_eq_true]at hck;have:=(MonOk.of hck.1.1).2.2 _ (getD_mem (d:=zw) hi);simp only[rowOk,insideB,Bool.and_eq_true,decide_eq_true_eq]at this;exact this.2
   have hx:sysOk ⟨s.box,lessR s.rows i less,s.graphs,s.cases⟩=true→checkN ⟨s.box,lessR s.rows i less,s.graphs,s.cases⟩ t=true:=fun h=>check_mono (s:=s) rfl rfl (BoxLe.refl _) (lessR_le _ _ _ hl.1 hi) hck h
   have hss:SyS ⟨s.box,lessR s.rows i less,s.graphs,s.cases⟩:=⟨hs.b,by simpa [lessR]using hs.r,hs.g,hs.c,fun x hx=>by
    rcases List.mem_or_eq_of_mem_set hx with h|h
    ·exact hs.rt x h
    ·rw[h];exact(hs.rt _ (getD_mem (d:=zw) hi):(s.rows.getD i zw).terms.length≤_),hs.gl,hs.cl,hs.ct⟩
   have hv:=refSysValid_ok _ hss;have hc:=check_ok _ hss t ht;simp only at hv hc;have hl2:(lessR s.rows i less).length=s.rows.length:=by simp[lessR]
   obtain⟨z1,z2⟩:=rws_thaw (lessR s.rows i less);generalize sysOk ⟨s.box,lessR s.rows i less,s.graphs,s.cases⟩=v at *;generalize checkN ⟨s.box,lessR s.rows i less,s.graphs,s.cases⟩ t=q at *;generalize lessR s.rows i less=rows2 at *;generalize (s.rows.getD i zw).bound=bd at *;rw[hl2]at z1 z2;obtain⟨k,st,c,a,l⟩:=t;unfold c10t;simp only[treeP,Tree.kind,Tree.steps,Tree.cell,Tree.pos,Tree.kids]at hc;refine evH [(69,{val:=some (.pv (.bool false))}),(73,{val:=some (.pv (.bool false))}),(76,{val:=some (.pv (.bool false))}),(82,{mode:=1}),(89,{val:=some (.pv (.int .i64 bd))})] ?_
   dsimp only[treeB,rwsP,Tree.kind,Tree.steps,Tree.cell,Tree.pos,Tree.kids,go_sem];try dsimp only[treeB,rwsP,Tree.kind,Tree.steps,Tree.cell,Tree.pos,Tree.kids,go_sem]
   refine⟨(by first|exact True.intro|(simp only[vb,lb];omega)|(simp only[vb,lb,hr,hl,hi,f1,e2];and_intros<;>first|omega|(simp<;>omega))|(simp[vb,hr,hl,hi,f1,e2]<;>omega)),(by first|exact True.intro|((try dsimp only[go_sem]);first|(simp[vb,hr,hl,hi,f1,e2]<;>omega)|(simp only[vb,and_true,true_implies];(repeat' (first|(with_reducible assumption)|(with_reducible apply And.intro)|intro _|((fail_if_success (with_reducible show(_:Int)≤_));assumption)))<;>first|omega|rfl|(simp only[ab,hr,hl,hi,f1,e2];done)|(simp[Nat.mul_one,hr,hl,hi,f1,e2]<;>omega)|(simp_all;done)))),?_⟩;iterate 5 first
    |refine⟨fun h=>by simp at h<;>omega,fun _=>?_⟩
    |refine⟨by simp[vb,hr,hl,hi,f1,e2]<;>omega,by simp[vb,hr,hl,hi,f1,e2]<;>omega,?_⟩
    |(refine evH [(69,{val:=some (.pv (.bool false))}),(73,{val:=some (.pv (.bool false))}),(76,{val:=some (.pv (.bool false))}),(82,{mode:=1}),(89,{val:=some (.pv (.int .i64 bd))})] ?_;iterate 2 (try dsimp only[treeB,rwsP,Tree.kind,Tree.steps,Tree.cell,Tree.pos,Tree.kids,go_sem]))
   refine evH [(69,{val:=some (.pv (.bool false))}),(73,{val:=some (.pv (.bool false))}),(76,{val:=some (.pv (.bool false))}),(82,{mode:=1}),(89,{val:=some (.pv (.int .i64 bd))})] ?_;dsimp only[treeB,rwsP,Tree.kind,Tree.steps,Tree.cell,Tree.pos,Tree.kids,go_sem];try dsimp only[treeB,rwsP,Tree.kind,Tree.steps,Tree.cell,Tree.pos,Tree.kids,go_sem]
   refine⟨(by first|exact True.intro|(simp only[vb,lb];omega)|(simp only[vb,lb,hr,hl,hi,f1,e2];and_intros<;>first|omega|(simp<;>omega))|(simp[vb,hr,hl,hi,f1,e2]<;>omega)),(by first|exact True.intro|((try dsimp only[go_sem]);first|(simp[vb,hr,hl,hi,f1,e2]<;>omega)|(simp only[vb,and_true,true_implies];(repeat' (first|(with_reducible assumption)|(with_reducible apply And.intro)|intro _|((fail_if_success (with_reducible show(_:Int)≤_));assumption)))<;>first|omega|rfl|(simp only[ab,hr,hl,hi,f1,e2];done)|(simp[Nat.mul_one,hr,hl,hi,f1,e2]<;>omega)|(simp_all;done)))),?_⟩
   refine evH [(69,{val:=some (.pv (.bool false))}),(73,{val:=some (.pv (.bool false))}),(76,{val:=some (.pv (.bool false))}),(82,{mode:=1}),(89,{val:=some (.pv (.int .i64 bd))})] ?_;dsimp only[treeB,rwsP,Tree.kind,Tree.steps,Tree.cell,Tree.pos,Tree.kids,go_sem];try dsimp only[treeB,rwsP,Tree.kind,Tree.steps,Tree.cell,Tree.pos,Tree.kids,go_sem]
   refine⟨(by first|exact True.intro|(simp only[vb,lb];omega)|(simp only[vb,lb,hr,hl,hi,f1,e2];and_intros<;>first|omega|(simp<;>omega))|(simp[vb,hr,hl,hi,f1,e2]<;>omega)),(by first|exact True.intro|((try dsimp only[go_sem]);first|(simp[vb,hr,hl,hi,f1,e2]<;>omega)|(simp only[vb,and_true,true_implies];(repeat' (first|(with_reducible assumption)|(with_reducible apply And.intro)|intro _|((fail_if_success (with_reducible show(_:Int)≤_));assumption)))<;>first|omega|rfl|(simp only[ab,hr,hl,hi,f1,e2];done)|(simp[Nat.mul_one,hr,hl,hi,f1,e2]<;>omega)|(simp_all;done)))),?_⟩
   rw[show(((s.rows.flatMap rwC).map AV.pv).set (0+(i:Int).toNat*2+1) (.pv (.int .i64 (bd-less))))=(rows2.flatMap rwC).map AV.pv from by rw[←e1];simp];refine aw_frame [(7,.ptr 1 0 0),(14,.ptr 3 0 0)] (by (repeat' (first|exact trivial|refine And.intro (by first|rfl|(simp[get,Nat.beq];done)|(simp[get,Nat.beq];omega)|(dsimp only[get];congr 1<;>first|rfl|omega|(simp;done)|(simp;omega))) ?_))) ?_;have hq:v=true→q=true:=hx;cases v with
   |false =>
    refine evH [(95,{val:=some (.pv (.bool false)),args:=some [.agg [boxP s.box,rwsP rows2,grsP s.graphs,casP s.cases]]}),(100,{val:=some (.pv (.bool q)),args:=some [.agg [boxP s.box,rwsP rows2,grsP s.graphs,casP s.cases],.agg [.int .i64 k,rstepsP st,.int .i64 c,.int .i64 a,kidsP l]]})] ?_;dsimp only[go_sem];try dsimp only[go_sem]
    refine⟨(by simp[vb]<;>omega),?_,?_⟩
    ·rw[Nat.zero_add s.rows.length];simp only[z1,z2,cond_true];simp only[rwsP,hl2]at hv hc ⊢;simp[vb,hv,hc]
    repeat' (first
     |((with_reducible show VCs _);first|exact True.intro|(simp only[vb,lb];omega)|(simp[vb]<;>omega))
     |((with_reducible show All _);first|exact True.intro|((try dsimp only[go_sem]);first|(simp[vb]<;>omega)|(simp only[vb,and_true,true_implies];(repeat' (first|(with_reducible assumption)|(with_reducible apply And.intro)|intro _|((fail_if_success (with_reducible show(_:Int)≤_));assumption)))<;>first|omega|rfl|(simp only[ab];done)|(simp[Nat.mul_one]<;>omega)|(simp_all;done))))
     |exact(rfl:some _=_)
     |(
      fail_if_success refine awL ?_
      refine evA ?_;repeat1' dsimp only[c10,go_sem]
      first
      |refine aw4 ?_ ?_ rfl ?_
      |apply aw3
      |apply aw2
      |(refine awB (fun hc=>?_) fun hc=>?_<;>first|(cases hc;done)|(exfalso;first|(simp at hc<;>omega))|(try simp only[bn]at hc;try contradiction))
      |skip))
   |true =>
    have hq:=hq rfl;subst hq;refine evH [(95,{val:=some (.pv (.bool true)),args:=some [.agg [boxP s.box,rwsP rows2,grsP s.graphs,casP s.cases]]}),(100,{val:=some (.pv (.bool true)),args:=some [.agg [boxP s.box,rwsP rows2,grsP s.graphs,casP s.cases],.agg [.int .i64 k,rstepsP st,.int .i64 c,.int .i64 a,kidsP l]]})] ?_;dsimp only[go_sem];try dsimp only[go_sem]
    refine⟨(by simp[vb]<;>omega),?_,?_⟩
    ·rw[Nat.zero_add s.rows.length];simp only[z1,z2,cond_true];simp only[rwsP,hl2]at hv hc ⊢;simp[vb,hv,hc]
    repeat' (first
     |((with_reducible show VCs _);first|exact True.intro|(simp only[vb,lb];omega)|(simp[vb]<;>omega))
     |((with_reducible show All _);first|exact True.intro|((try dsimp only[go_sem]);first|(simp[vb]<;>omega)|(simp only[vb,and_true,true_implies];(repeat' (first|(with_reducible assumption)|(with_reducible apply And.intro)|intro _|((fail_if_success (with_reducible show(_:Int)≤_));assumption)))<;>first|omega|rfl|(simp only[ab];done)|(simp[Nat.mul_one]<;>omega)|(simp_all;done))))
     |exact(rfl:some _=_)
     |(
      fail_if_success refine awL ?_
      refine evA ?_;repeat1' dsimp only[c10,go_sem]
      first
      |refine aw4 ?_ ?_ rfl ?_
      |apply aw3
      |apply aw2
      |(refine awB (fun hc=>?_) fun hc=>?_<;>first|(cases hc;done)|(exfalso;first|(simp at hc<;>omega))|(try simp only[bn]at hc;try contradiction))
      |skip))
  ·have hl':less<0∨1000000000<less:=by omega
   unfold c10t;repeat' (first
    |((with_reducible show VCs _);first|exact True.intro|(simp only[vb,lb];omega)|(simp only[vb,lb,hr,hl'];and_intros<;>first|omega|(simp<;>omega))|(simp[vb,hr,hl']<;>omega))
    |((with_reducible show All _);first|exact True.intro|((try dsimp only[go_sem]);first|(simp[vb,hr,hl']<;>omega)|(simp only[vb,and_true,true_implies];(repeat' (first|(with_reducible assumption)|(with_reducible apply And.intro)|intro _|((fail_if_success (with_reducible show(_:Int)≤_));assumption)))<;>first|omega|rfl|(simp only[ab,hr,hl'];done)|(simp[Nat.mul_one,hr,hl']<;>omega)|(simp_all;done))))
    |exact(rfl:some _=_)
    |(
     fail_if_success refine awL ?_
     refine evH [(69,{val:=some (.pv (.bool false))})] ?_;repeat1' dsimp only[c10,rwsP,go_sem]
     first
     |refine aw4 ?_ ?_ rfl ?_
     |apply aw3
     |apply aw2
     |(refine awB (fun hc=>?_) fun hc=>?_<;>first|(cases hc;done)|(exfalso;first|(simp at hc<;>omega)|(simp[hr,hl']at hc;done))|(try simp only[bn]at hc;try contradiction))
     |skip))
 ·have hr':row<0∨(s.rows.length:Int)≤row:=by omega
  unfold c10t;repeat' (first
   |((with_reducible show VCs _);first|exact True.intro|(simp only[vb,lb];omega)|(simp only[vb,lb,hr'];and_intros<;>first|omega|(simp<;>omega))|(simp[vb,hr']<;>omega))
   |((with_reducible show All _);first|exact True.intro|((try dsimp only[go_sem]);first|(simp[vb,hr']<;>omega)|(simp only[vb,and_true,true_implies];(repeat' (first|(with_reducible assumption)|(with_reducible apply And.intro)|intro _|((fail_if_success (with_reducible show(_:Int)≤_));assumption)))<;>first|omega|rfl|(simp only[ab,hr'];done)|(simp[Nat.mul_one,hr']<;>omega)|(simp_all;done))))
   |exact(rfl:some _=_)
   |(
    fail_if_success refine awL ?_
    refine evH [(69,{val:=some (.pv (.bool true))})] ?_;repeat1' dsimp only[c10,rwsP,go_sem]
    first
    |refine aw4 ?_ ?_ rfl ?_
    |apply aw3
    |apply aw2
    |(refine awB (fun hc=>?_) fun hc=>?_<;>first|(cases hc;done)|(exfalso;first|(simp at hc<;>omega)|(simp[hr']at hc;done))|(try simp only[bn]at hc;try contradiction))
    |skip))
set_option maxHeartbeats 8000000 in
theorem smaller_ok (s:Sy) (hs:SyS s) (t:Tree) (hw:Wide 1048576 t) (cell:Int) (p:Rg) (row less:Int) :
  PureOK ctx 10 [.agg [boxP s.box,rwsP s.rows,grsP s.graphs,casP s.cases],treeP t,.int .i64 cell,.agg [.int .i64 p.lo,.int .i64 p.hi],.int .i64 row,.int .i64 less] (.bool true):=by
 have h0:=awake_ok;have h1:=few_ok s hs 2000;have h2:=smallW_ok t hw 300 (by omega) (by omega);generalize hfb:fewL s 2000=fb at *;have e1:∀x:Tree,treeP x= .agg [.int .i64 x.kind,rstepsP x.steps,.int .i64 x.cell,.int .i64 x.pos,kidsP x.kids]:=fun _=>rfl
 by_cases hwt:(wt t:Int)≤300
 ·have h3:=check_ok s hs t (by omega);rw[decide_eq_true hwt]at h2;cases fb with
  |false =>
   rw[e1 t]at *;refine pure_body' (C:=ctx) (Fn.of fn10 rfl) rfl ?_;unfold c10;repeat' (first
    |((with_reducible show VCs _);first|exact True.intro|(simp only[vb,lb];omega)|(simp only[vb,lb,h0,h1,h2,h3];and_intros<;>first|omega|(simp<;>omega))|(simp[vb,h0,h1,h2,h3]<;>omega))
    |((with_reducible show All _);first|exact True.intro|((try dsimp only[go_sem]);first|(simp[vb,h0,h1,h2,h3]<;>omega)|(simp only[vb,and_true,true_implies];(repeat' (first|(with_reducible assumption)|(with_reducible apply And.intro)|intro _|((fail_if_success (with_reducible show(_:Int)≤_));assumption)))<;>first|omega|rfl|(simp only[ab,h0,h1,h2,h3];done)|(simp[Nat.mul_one,h0,h1,h2,h3]<;>omega)|(simp_all;done))))
    |exact(rfl:some _=_)
    |(
     fail_if_success refine awL ?_
     refine evTH [(11,fun _=>some (.bool true)),(21,fun _=>some (.bool false)),(12,fun _=>some (.bool true))] [(28,{val:=some (.pv (.bool (checkN s t)))})] ?_;repeat1' dsimp only[c10,go_sem]
     first
     |refine aw4 ?_ ?_ rfl ?_
     |apply aw3
     |apply aw2
     |(refine awB (fun hc=>?_) fun hc=>?_<;>first|(cases hc;done)|(exfalso;first|(simp at hc<;>omega)|(simp[h0,h1,h2,h3]at hc;done))|(try simp only[bn]at hc;try contradiction))
     |skip))
  |true =>
   by_cases hck:checkN s t=true
   ·rw[hck]at h3;have htl:=fun r l=>smaller_tail s hs t (by omega) hck r l p
    have hck':=hck;simp only[checkN,Bool.and_eq_true]at hck';have hmon:=MonOk.of hck'.1.1;rw[e1 t]at *;refine pure_body' (C:=ctx) (Fn.of fn10 rfl) rfl ?_;unfold c10;refine evTH [(11,fun _=>some (.bool true)),(21,fun _=>some (.bool true)),(12,fun _=>some (.bool true))] [(28,{val:=some (.pv (.bool true))})] ?_;dsimp only[go_sem];try dsimp only[go_sem]
    refine⟨(by simp[vb,h0,h1,h2,h3]<;>omega),(by simp[vb,h0,h1,h2,h3]<;>omega),?_⟩;refine evTH [(11,fun _=>some (.bool true)),(21,fun _=>some (.bool true)),(12,fun _=>some (.bool true))] [(28,{val:=some (.pv (.bool true))})] ?_;dsimp only[go_sem];try dsimp only[go_sem]
    refine⟨(by first|exact True.intro|(simp only[vb,lb];omega)|(simp only[vb,lb,h0,h1,h2,h3];and_intros<;>first|omega|(simp<;>omega))|(simp[vb,h0,h1,h2,h3]<;>omega)),(by first|exact True.intro|((try dsimp only[go_sem]);first|(simp[vb,h0,h1,h2,h3]<;>omega)|(simp only[vb,and_true,true_implies];(repeat' (first|(with_reducible assumption)|(with_reducible apply And.intro)|intro _|((fail_if_success (with_reducible show(_:Int)≤_));assumption)))<;>first|omega|rfl|(simp only[ab,h0,h1,h2,h3];done)|(simp[Nat.mul_one,h0,h1,h2,h3]<;>omega)|(simp_all;done)))),?_⟩
    refine evTH [(11,fun _=>some (.bool true)),(21,fun _=>some (.bool true)),(12,fun _=>some (.bool true))] [(28,{val:=some (.pv (.bool true))})] ?_;dsimp only[go_sem];refine⟨fun h=>by simp at h<;>omega,fun _=>?_⟩;refine evTH [(11,fun _=>some (.bool true)),(21,fun _=>some (.bool true)),(12,fun _=>some (.bool true))] [(28,{val:=some (.pv (.bool true))})] ?_;dsimp only[go_sem];refine evTH [(11,fun _=>some (.bool true)),(21,fun _=>some (.bool true)),(12,fun _=>some (.bool true))] [(28,{val:=some (.pv (.bool true))})] ?_;dsimp only[go_sem];try dsimp only[go_sem]
    refine⟨(by first|exact True.intro|(simp only[vb,lb];omega)|(simp only[vb,lb,h0,h1,h2,h3];and_intros<;>first|omega|(simp<;>omega))|(simp[vb,h0,h1,h2,h3]<;>omega)),(by first|exact True.intro|((try dsimp only[go_sem]);first|(simp[vb,h0,h1,h2,h3]<;>omega)|(simp only[vb,and_true,true_implies];(repeat' (first|(with_reducible assumption)|(with_reducible apply And.intro)|intro _|((fail_if_success (with_reducible show(_:Int)≤_));assumption)))<;>first|omega|rfl|(simp only[ab,h0,h1,h2,h3];done)|(simp[Nat.mul_one,h0,h1,h2,h3]<;>omega)|(simp_all;done)))),?_⟩
    refine evTH [(11,fun _=>some (.bool true)),(21,fun _=>some (.bool true)),(12,fun _=>some (.bool true))] [(28,{val:=some (.pv (.bool true))})] ?_;dsimp only[go_sem];refine⟨fun h=>by simp at h<;>omega,fun _=>?_⟩;refine evTH [(11,fun _=>some (.bool true)),(21,fun _=>some (.bool true)),(12,fun _=>some (.bool true))] [(28,{val:=some (.pv (.bool true))})] ?_;dsimp only[go_sem];by_cases hc:0≤cell∧cell<s.box.length
    ·obtain⟨c,rfl⟩:∃c:Nat,cell=c:=⟨cell.toNat,by omega⟩
     have hcb:c<s.box.length:=by omega
     have hsb:=hs.b;have e:=box_take s.box c (by omega) hc.2;rw[Int.toNat_natCast]at e;have hle:=meet_le s.box c p hcb;have hm:=meet17_ok (s.box.getD c zr) p;have hwi:=with_ok s.box c ⟨max (s.box.getD c zr).lo p.lo,min (s.box.getD c zr).hi p.hi⟩ hs.b;rw[show ∀r,withN s.box c r=s.box.set c r from fun r=>by simp[withN]]at hwi;generalize s.box.getD c zr=y at *;have hbl:(s.box.set c ⟨max y.lo p.lo,min y.hi p.hi⟩).length=s.box.length:=by simp
     generalize s.box.set c ⟨max y.lo p.lo,min y.hi p.hi⟩=b2 at *;have hx:sysOk ⟨b2,s.rows,s.graphs,s.cases⟩=true→checkN ⟨b2,s.rows,s.graphs,s.cases⟩ t=true:=fun h=>check_mono (s:=s) rfl rfl hle (RowsLe.refl _) hck h
     have hss:SyS ⟨b2,s.rows,s.graphs,s.cases⟩:=⟨by rw[hbl];exact hs.b,hs.r,hs.g,hs.c,hs.rt,hs.gl,hs.cl,hs.ct⟩
     have hv:=refSysValid_ok _ hss;have hcc:=check_ok _ hss t (by omega);rw[e1 t]at hcc;simp only at hv hcc;generalize sysOk ⟨b2,s.rows,s.graphs,s.cases⟩=v at *;generalize checkN ⟨b2,s.rows,s.graphs,s.cases⟩ t=q at *;unfold boxP at hwi hv hcc;have f1:=box_len s.box
     refine evTH [(35,fun ps=>match ps with|[.agg [.int _ a,.int _ b],.agg [.int _ c,.int _ d]]=>some (.agg [.int .i64 (max a c),.int .i64 (min b d)])|_=>none),(34,fun _=>some (.sl b2.length (b2.flatMap rgC)))] [(32,{val:=some (.pv (.bool true))}),(38,{val:=some (.pv (.bool true))}),(48,{val:=some (.pv (.agg [.int .i64 y.lo,.int .i64 y.hi]))})] ?_;dsimp only[boxP,go_sem];try dsimp only[boxP,go_sem]
     refine⟨(by first|exact True.intro|(simp only[vb,lb];omega)|(simp only[vb,lb,hc,hcb,e,f1,hm,hwi];and_intros<;>first|omega|(simp<;>omega))|(simp[vb,hc,hcb,e,f1,hm,hwi]<;>omega)),(by first|exact True.intro|((try dsimp only[go_sem]);first|(simp[vb,hc,hcb,e,f1,hm,hwi]<;>omega)|(simp only[vb,and_true,true_implies];(repeat' (first|(with_reducible assumption)|(with_reducible apply And.intro)|intro _|((fail_if_success (with_reducible show(_:Int)≤_));assumption)))<;>first|omega|rfl|(simp only[ab,hc,hcb,e,f1,hm,hwi];done)|(simp[Nat.mul_one,hc,hcb,e,f1,hm,hwi]<;>omega)|(simp_all;done)))),?_⟩
     refine evTH [(35,fun ps=>match ps with|[.agg [.int _ a,.int _ b],.agg [.int _ c,.int _ d]]=>some (.agg [.int .i64 (max a c),.int .i64 (min b d)])|_=>none),(34,fun _=>some (.sl b2.length (b2.flatMap rgC)))] [(32,{val:=some (.pv (.bool true))}),(38,{val:=some (.pv (.bool true))}),(48,{val:=some (.pv (.agg [.int .i64 y.lo,.int .i64 y.hi]))})] ?_;dsimp only[boxP,go_sem];refine⟨fun _=>?_,fun h=>by simp at h<;>omega⟩
     refine evTH [(35,fun ps=>match ps with|[.agg [.int _ a,.int _ b],.agg [.int _ c,.int _ d]]=>some (.agg [.int .i64 (max a c),.int .i64 (min b d)])|_=>none),(34,fun _=>some (.sl b2.length (b2.flatMap rgC)))] [(32,{val:=some (.pv (.bool true))}),(38,{val:=some (.pv (.bool true))}),(48,{val:=some (.pv (.agg [.int .i64 y.lo,.int .i64 y.hi]))})] ?_;dsimp only[boxP,go_sem];try dsimp only[boxP,go_sem]
     refine⟨(by simp[vb,hc,hcb,e,f1,hm,hwi]<;>omega),(by simp[vb,hc,hcb,e,f1,hm,hwi]<;>omega),?_⟩;refine aw_seq (aw_regT (T:=[(35,fun ps=>match ps with|[.agg [.int _ a,.int _ b],.agg [.int _ c,.int _ d]]=>some (.agg [.int .i64 (max a c),.int .i64 (min b d)])|_=>none),(34,fun _=>some (.sl b2.length (b2.flatMap rgC)))]) (H:=[(32,{val:=some (.pv (.bool true))}),(38,{val:=some (.pv (.bool true))}),(48,{val:=some (.pv (.agg [.int .i64 y.lo,.int .i64 y.hi]))})]) (by rfl) ?_);dsimp only[evOpsTail,boxP,go_sem];try dsimp only[boxP,go_sem]
     refine⟨(by simp[vb,hc,hcb,e,f1,hm,hwi]<;>omega),(by simp[vb,hc,hcb,e,f1,hm,hwi]<;>omega),?_⟩;iterate 2 (try dsimp only[go_sem])
     refine aw_frame [(4,.pv (.int .i64 row)),(5,.pv (.int .i64 less)),(6,.ptr 0 0 0),(7,.ptr 1 0 0),(13,.ptr 3 0 0)] (by (repeat' (first|exact trivial|refine And.intro (by first|rfl|(simp[get,Nat.beq];done)|(simp[get,Nat.beq];omega)|(dsimp only[get];congr 1<;>first|rfl|omega|(simp;done)|(simp;omega))) ?_))) ?_;cases v with
     |false =>
      refine evTH [(30,fun _=>some (.bool false))] [(58,{val:=some (.pv (.bool q))})] ?_;dsimp only[go_sem];try dsimp only[go_sem]
      refine⟨(by first|exact True.intro|(simp only[vb,lb];omega)|(simp only[vb,lb,hv,hcc];and_intros<;>first|omega|(simp<;>omega))|(simp[vb,hv,hcc]<;>omega)),(by first|exact True.intro|((try dsimp only[go_sem]);first|(simp[vb,hv,hcc]<;>omega)|(simp only[vb,and_true,true_implies];(repeat' (first|(with_reducible assumption)|(with_reducible apply And.intro)|intro _|((fail_if_success (with_reducible show(_:Int)≤_));assumption)))<;>first|omega|rfl|(simp only[ab,hv,hcc];done)|(simp[Nat.mul_one,hv,hcc]<;>omega)|(simp_all;done)))),?_⟩
      refine evTH [(30,fun _=>some (.bool false))] [(58,{val:=some (.pv (.bool q))})] ?_;dsimp only[go_sem];refine⟨fun h=>by simp at h<;>omega,fun _=>?_⟩;refine evTH [(30,fun _=>some (.bool false))] [(58,{val:=some (.pv (.bool q))})] ?_;dsimp only[go_sem];refine aw_keep [0,1,2] rfl ?_;dsimp only[go_sem];refine aw_frame [(4,.pv (.int .i64 row)),(5,.pv (.int .i64 less)),(6,.ptr 0 0 0),(7,.ptr 1 0 0)] (by (repeat' (first|exact trivial|refine And.intro (by first|rfl|(simp[get,Nat.beq];done)|(simp[get,Nat.beq];omega)|(dsimp only[get];congr 1<;>first|rfl|omega|(simp;done)|(simp;omega))) ?_))) ?_
      exact htl row less
     |true =>
      have hq:=hx rfl;subst hq;refine evTH [(30,fun _=>some (.bool true))] [(58,{val:=some (.pv (.bool true))})] ?_;dsimp only[go_sem];try dsimp only[go_sem]
      refine⟨(by first|exact True.intro|(simp only[vb,lb];omega)|(simp only[vb,lb,hv,hcc];and_intros<;>first|omega|(simp<;>omega))|(simp[vb,hv,hcc]<;>omega)),(by first|exact True.intro|((try dsimp only[go_sem]);first|(simp[vb,hv,hcc]<;>omega)|(simp only[vb,and_true,true_implies];(repeat' (first|(with_reducible assumption)|(with_reducible apply And.intro)|intro _|((fail_if_success (with_reducible show(_:Int)≤_));assumption)))<;>first|omega|rfl|(simp only[ab,hv,hcc];done)|(simp[Nat.mul_one,hv,hcc]<;>omega)|(simp_all;done)))),?_⟩
      refine evTH [(30,fun _=>some (.bool true))] [(58,{val:=some (.pv (.bool true))})] ?_;dsimp only[go_sem];refine⟨fun h=>by simp at h<;>omega,fun _=>?_⟩;refine evTH [(30,fun _=>some (.bool true))] [(58,{val:=some (.pv (.bool true))})] ?_;dsimp only[go_sem];refine aw_keep [0,1,2] rfl ?_;dsimp only[go_sem];refine aw_frame [(4,.pv (.int .i64 row)),(5,.pv (.int .i64 less)),(6,.ptr 0 0 0),(7,.ptr 1 0 0)] (by (repeat' (first|exact trivial|refine And.intro (by first|rfl|(simp[get,Nat.beq];done)|(simp[get,Nat.beq];omega)|(dsimp only[get];congr 1<;>first|rfl|omega|(simp;done)|(simp;omega))) ?_))) ?_
      exact htl row less
    ·by_cases hc0:0≤cell
     ·have hc1:¬cell<s.box.length:=fun h=>hc ⟨hc0,h⟩
      refine evH [(32,{val:=some (.pv (.bool true))}),(38,{val:=some (.pv (.bool false))})] ?_;dsimp only[boxP,go_sem];try dsimp only[boxP,go_sem]
      refine⟨(by first|exact True.intro|(simp only[vb,lb];omega)|(simp only[vb,lb,hc0,hc1];and_intros<;>first|omega|(simp<;>omega))|(simp[vb,hc0,hc1]<;>omega)),(by first|exact True.intro|((try dsimp only[go_sem]);first|(simp[vb,hc0,hc1]<;>omega)|(simp only[vb,and_true,true_implies];(repeat' (first|(with_reducible assumption)|(with_reducible apply And.intro)|intro _|((fail_if_success (with_reducible show(_:Int)≤_));assumption)))<;>first|omega|rfl|(simp only[ab,hc0,hc1];done)|(simp[Nat.mul_one,hc0,hc1]<;>omega)|(simp_all;done)))),?_⟩
      refine evH [(32,{val:=some (.pv (.bool true))}),(38,{val:=some (.pv (.bool false))})] ?_;dsimp only[boxP,go_sem];refine⟨fun h=>by simp at h<;>omega,fun _=>?_⟩;refine evH [(32,{val:=some (.pv (.bool true))}),(38,{val:=some (.pv (.bool false))})] ?_;dsimp only[boxP,go_sem];refine aw_frame [(4,.pv (.int .i64 row)),(5,.pv (.int .i64 less)),(6,.ptr 0 0 0),(7,.ptr 1 0 0)] (by (repeat' (first|exact trivial|refine And.intro (by first|rfl|(simp[get,Nat.beq];done)|(simp[get,Nat.beq];omega)|(dsimp only[get];congr 1<;>first|rfl|omega|(simp;done)|(simp;omega))) ?_))) ?_;exact htl row less
     ·refine evH [(32,{val:=some (.pv (.bool false))})] ?_;dsimp only[boxP,go_sem];try dsimp only[boxP,go_sem]
      refine⟨(by first|exact True.intro|(simp only[vb,lb];omega)|(simp only[vb,lb,hc0];and_intros<;>first|omega|(simp<;>omega))|(simp[vb,hc0]<;>omega)),(by first|exact True.intro|((try dsimp only[go_sem]);first|(simp[vb,hc0]<;>omega)|(simp only[vb,and_true,true_implies];(repeat' (first|(with_reducible assumption)|(with_reducible apply And.intro)|intro _|((fail_if_success (with_reducible show(_:Int)≤_));assumption)))<;>first|omega|rfl|(simp only[ab,hc0];done)|(simp[Nat.mul_one,hc0]<;>omega)|(simp_all;done)))),?_⟩;refine evH [(32,{val:=some (.pv (.bool false))})] ?_;dsimp only[boxP,go_sem]
      refine⟨fun h=>by simp at h<;>omega,fun _=>?_⟩;refine evH [(32,{val:=some (.pv (.bool false))})] ?_;dsimp only[boxP,go_sem];refine aw_frame [(4,.pv (.int .i64 row)),(5,.pv (.int .i64 less)),(6,.ptr 0 0 0),(7,.ptr 1 0 0)] (by (repeat' (first|exact trivial|refine And.intro (by first|rfl|(simp[get,Nat.beq];done)|(simp[get,Nat.beq];omega)|(dsimp only[get];congr 1<;>first|rfl|omega|(simp;done)|(simp;omega))) ?_))) ?_;exact htl row less
   ·have hck:checkN s t=false:=by simpa using hck
    rw[hck]at h3;rw[e1 t]at *;refine pure_body' (C:=ctx) (Fn.of fn10 rfl) rfl ?_;unfold c10;repeat' (first
     |((with_reducible show VCs _);first|exact True.intro|(simp only[vb,lb];omega)|(simp only[vb,lb,h0,h1,h2,h3];and_intros<;>first|omega|(simp<;>omega))|(simp[vb,h0,h1,h2,h3]<;>omega))
     |((with_reducible show All _);first|exact True.intro|((try dsimp only[go_sem]);first|(simp[vb,h0,h1,h2,h3]<;>omega)|(simp only[vb,and_true,true_implies];(repeat' (first|(with_reducible assumption)|(with_reducible apply And.intro)|intro _|((fail_if_success (with_reducible show(_:Int)≤_));assumption)))<;>first|omega|rfl|(simp only[ab,h0,h1,h2,h3];done)|(simp[Nat.mul_one,h0,h1,h2,h3]<;>omega)|(simp_all;done))))
     |exact(rfl:some _=_)
     |(
      fail_if_success refine awL ?_
      refine evTH [(11,fun _=>some (.bool true)),(21,fun _=>some (.bool true)),(12,fun _=>some (.bool true))] [(28,{val:=some (.pv (.bool false))})] ?_;repeat1' dsimp only[c10,go_sem]
      first
      |refine aw4 ?_ ?_ rfl ?_
      |apply aw3
      |apply aw2
      |(refine awB (fun hc=>?_) fun hc=>?_<;>first|(cases hc;done)|(exfalso;first|(simp at hc<;>omega)|(simp[h0,h1,h2,h3]at hc;done))|(try simp only[bn]at hc;try contradiction))
      |skip))
 ·rw[decide_eq_false hwt]at h2;rw[e1 t]at *;refine pure_body' (C:=ctx) (Fn.of fn10 rfl) rfl ?_;unfold c10;cases fb with
  |false=>repeat' (first
   |((with_reducible show VCs _);first|exact True.intro|(simp only[vb,lb];omega)|(simp only[vb,lb,h0,h1,h2];and_intros<;>first|omega|(simp<;>omega))|(simp[vb,h0,h1,h2]<;>omega))
   |((with_reducible show All _);first|exact True.intro|((try dsimp only[go_sem]);first|(simp[vb,h0,h1,h2]<;>omega)|(simp only[vb,and_true,true_implies];(repeat' (first|(with_reducible assumption)|(with_reducible apply And.intro)|intro _|((fail_if_success (with_reducible show(_:Int)≤_));assumption)))<;>first|omega|rfl|(simp only[ab,h0,h1,h2];done)|(simp[Nat.mul_one,h0,h1,h2]<;>omega)|(simp_all;done))))
   |exact(rfl:some _=_)
   |(
    fail_if_success refine awL ?_
    refine evTH [(11,fun _=>some (.bool true)),(21,fun _=>some (.bool false)),(12,fun _=>some (.bool false))] [(28,{val:=some (.pv (.bool false))})] ?_;repeat1' dsimp only[c10,go_sem]
    first
    |refine aw4 ?_ ?_ rfl ?_
    |apply aw3
    |apply aw2
    |(refine awB (fun hc=>?_) fun hc=>?_<;>first|(cases hc;done)|(exfalso;first|(simp at hc<;>omega)|(simp[h0,h1,h2]at hc;done))|(try simp only[bn]at hc;try contradiction))
    |skip))
  |true=>repeat' (first
   |((with_reducible show VCs _);first|exact True.intro|(simp only[vb,lb];omega)|(simp only[vb,lb,h0,h1,h2];and_intros<;>first|omega|(simp<;>omega))|(simp[vb,h0,h1,h2]<;>omega))
   |((with_reducible show All _);first|exact True.intro|((try dsimp only[go_sem]);first|(simp[vb,h0,h1,h2]<;>omega)|(simp only[vb,and_true,true_implies];(repeat' (first|(with_reducible assumption)|(with_reducible apply And.intro)|intro _|((fail_if_success (with_reducible show(_:Int)≤_));assumption)))<;>first|omega|rfl|(simp only[ab,h0,h1,h2];done)|(simp[Nat.mul_one,h0,h1,h2]<;>omega)|(simp_all;done))))
   |exact(rfl:some _=_)
   |(
    fail_if_success refine awL ?_
    refine evTH [(11,fun _=>some (.bool true)),(21,fun _=>some (.bool true)),(12,fun _=>some (.bool false))] [(28,{val:=some (.pv (.bool false))})] ?_;repeat1' dsimp only[c10,go_sem]
    first
    |refine aw4 ?_ ?_ rfl ?_
    |apply aw3
    |apply aw2
    |(refine awB (fun hc=>?_) fun hc=>?_<;>first|(cases hc;done)|(exfalso;first|(simp at hc<;>omega)|(simp[h0,h1,h2]at hc;done))|(try simp only[bn]at hc;try contradiction))
    |skip))
end Pur
end
section
namespace Pur
open Go.RowKit
open Go.RowKit
section
open Rf
theorem cyR:Tryz.prog.cellsOf 57=2:=by kernel_rfl
theorem cyT:Tryz.prog.cellsOf 107=2:=by kernel_rfl
theorem cyW:Tryz.prog.cellsOf 62=2:=by kernel_rfl
theorem cyG:Tryz.prog.cellsOf 99=3:=by kernel_rfl
theorem cyS:Tryz.prog.cellsOf 36=4:=by kernel_rfl
theorem cy1:Tryz.prog.cellsOf 31=1:=by kernel_rfl
theorem cy2:Tryz.prog.cellsOf 32=1:=by kernel_rfl
theorem cy3:Tryz.prog.cellsOf 33=1:=by kernel_rfl
theorem cy4:Tryz.prog.cellsOf 34=1:=by kernel_rfl
theorem cy5:Tryz.prog.cellsOf 60=1:=by kernel_rfl
theorem cy6:Tryz.prog.cellsOf 49=1:=by kernel_rfl
theorem tRg {n B:Nat} {l:List PV} (h:Typed Tryz.prog B n 57 l):∃x,l=rgC x∧True:=by
 obtain⟨hl,m,rfl,hf⟩:=ty_struct h Tryz.underlying57;rw[cyR]at hl;match l,hl with
 |[a,b],_ =>
  obtain⟨x,hx⟩:=tInt (piece hf 0 0 3 cz1 rfl);obtain⟨y,hy⟩:=tInt (piece hf 1 1 3 cz1 rfl);simp at hx hy;subst hx hy;exact⟨⟨x,y⟩,rfl,trivial⟩
theorem tTm {n B:Nat} {l:List PV} (h:Typed Tryz.prog B n 107 l):∃x,l=tmC x∧True:=by
 obtain⟨hl,m,rfl,hf⟩:=ty_struct h Tryz.underlying107;rw[cyT]at hl;match l,hl with
 |[a,b],_ =>
  obtain⟨x,hx⟩:=tInt (piece hf 0 0 3 cz1 rfl);obtain⟨y,hy⟩:=tInt (piece hf 1 1 3 cz1 rfl);simp at hx hy;subst hx hy;exact⟨⟨x,y⟩,rfl,trivial⟩
theorem tRw {n B:Nat} {l:List PV} (h:Typed Tryz.prog B n 62 l):∃x,l=rwC x∧x.terms.length≤B:=by
 obtain⟨hl,m,rfl,hf⟩:=ty_struct h Tryz.underlying62;rw[cyW]at hl;match l,hl with
 |[a,b],_ =>
  obtain⟨x,hx,lx,-⟩:=ty_slice (piece hf 0 0 60 cy5 rfl) Tryz.underlying60 cyT tmC (fun _=>True) (fun _ _=>rfl) fun m c _ hc=>tTm hc
  obtain⟨y,hy⟩:=tInt (piece hf 1 1 3 cz1 rfl);simp at hx hy;subst hx hy;exact⟨⟨x,y⟩,rfl,lx⟩
theorem tGr {n B:Nat} {l:List PV} (h:Typed Tryz.prog B n 99 l):∃x,l=grC x∧x.least.length≤B:=by
 obtain⟨hl,m,rfl,hf⟩:=ty_struct h Tryz.underlying99;rw[cyG]at hl;match l,hl with
 |[a,b,c],_ =>
  obtain⟨x,hx⟩:=tInt (piece hf 0 0 3 cz1 rfl);obtain⟨y,hy⟩:=tInt (piece hf 1 1 3 cz1 rfl);obtain⟨z,hz,lz,-⟩:=ty_slice (piece hf 2 2 49 cy6 rfl) Tryz.underlying49 cz1 intC (fun _=>True) (fun _ _=>rfl) fun m c _ hc=>by
   obtain⟨x,hx⟩:=tInt hc;exact⟨x,hx,trivial⟩
  simp at hx hy hz;subst hx hy hz;exact⟨⟨x,y,z⟩,rfl,lz⟩
theorem tSy {B:Nat} (hB:B≤1000000000) {p:PV} (h:TypedV Tryz.prog B 36 p):∃s,p= .agg [boxP s.box,rwsP s.rows,grsP s.graphs,casP s.cases]∧SyS s:=by
 obtain⟨n,l,h',rfl⟩:=ty_agg h Tryz.underlying36;obtain⟨hl,m,rfl,hf⟩:=ty_struct h' Tryz.underlying36;rw[cyS]at hl;match l,hl with
 |[a,b,c,d],_ =>
  obtain⟨x0,e0,l0,-⟩:=ty_slice (piece hf 0 0 31 cy1 rfl) Tryz.underlying31 cyR rgC (fun _=>True) (fun _ _=>rfl) fun m c _ hc=>tRg hc
  obtain⟨x1,e1,l1,w1⟩:=ty_slice (piece hf 1 1 32 cy2 rfl) Tryz.underlying32 cyW rwC (fun x=>x.terms.length≤B) (fun _ _=>rfl) fun m c _ hc=>tRw hc
  obtain⟨x2,e2,l2,w2⟩:=ty_slice (piece hf 2 2 33 cy3 rfl) Tryz.underlying33 cyG grC (fun x=>x.least.length≤B) (fun _ _=>rfl) fun m c _ hc=>tGr hc
  obtain⟨x3,e3,l3,w3⟩:=ty_slice (piece hf 3 3 34 cy4 rfl) Tryz.underlying34 cy2 casC (fun x=>x.length≤B∧∀r∈x,r.terms.length≤B) (fun _ _=>rfl) fun m c _ hc=>by
   obtain⟨x,e,lx,wx⟩:=ty_slice hc Tryz.underlying32 cyW rwC (fun x=>x.terms.length≤B) (fun _ _=>rfl) fun m c _ hc=>tRw hc
   exact⟨x,e,lx,wx⟩
  simp at e0 e1 e2 e3;subst e0 e1 e2 e3;exact⟨⟨x0,x1,x2,x3⟩,rfl,by show x0.length≤_;omega,by show x1.length≤_;omega,by show x2.length≤_;omega,by show x3.length≤_;omega,fun x hx=>Nat.le_trans (w1 x hx) hB,fun x hx=>Nat.le_trans (w2 x hx) hB,fun x hx=>Nat.le_trans (w3 x hx).1 hB,fun x hx r hr=>Nat.le_trans ((w3 x hx).2 r hr) hB⟩
theorem tRgV {B:Nat} {p:PV} (h:TypedV Tryz.prog B 57 p):∃x:Rg,p= .agg [.int .i64 x.lo,.int .i64 x.hi]:=by
 obtain⟨n,l,h',rfl⟩:=ty_agg h Tryz.underlying57;obtain⟨x,rfl,-⟩:=tRg h';exact⟨x,rfl⟩
theorem tIntV {B:Nat} {p:PV} (h:TypedV Tryz.prog B 3 p):∃x,p= .int .i64 x:=by
 obtain⟨n,h'⟩:=ty_leaf h (fun fs h=>by rw[Tryz.underlying3]at h;cases h);obtain⟨x,hx⟩:=tInt h';simp at hx;exact⟨x,hx⟩
theorem smaller_typed (qs:List PV) (h:TypedAll Tryz.prog 1048576 [36,25,3,57,3,3] qs):PureOK ctx 10 qs (.bool true):=by
 match qs,h with
 |[p0,p1,p2,p3,p4,p5],h =>
  obtain⟨h0,h1,h2,h3,h4,h5,-⟩:=h;obtain⟨s,rfl,hs⟩:=tSy (by omega) h0;obtain⟨t,rfl,ht⟩:=tTree h1;obtain⟨c,rfl⟩:=tIntV h2;obtain⟨r,rfl⟩:=tRgV h3;obtain⟨a,rfl⟩:=tIntV h4;obtain⟨b,rfl⟩:=tIntV h5;exact smaller_ok s hs t ht c r a b
end
end Pur
end
end Go.Proofs.YtaleoeblooeglaaGreatDoor
namespace Go.Proofs.YtaleoeblooeglaaGreatDoor.lawSmaller
open Go.ChangeShapes Go.WideShapes Go.ChangeAt Go.RowKit
theorem contract (H:Type) (enc:TypeId×Value→H) (W:World) (base:Nat) (args:Array Value) (ds gs:List (DataW H)) (before:List MemPlace)
  (hval:∀(j:Nat) t v,Tryz.f10.params[j]?=some t→args[j]?=some v→Value.okWide Tryz.prog W .any base t v)
  (hW:DataW.Whole enc Tryz.prog Tryz.f10.params.toList Rows.refutationSmallerSpec.vars false W args.toList ds gs before) (hk:Rows.uptoSmall H (ds++gs)=true) (hL:laidMetH Tryz.prog Rows.refutationSmallerUptoRow.laid W) (hsh:W.ShapedOpen Tryz.prog) :
  Calls Tryz.prog 10 args W fun e W'=>∃v,e= .returned v∧Rows.refutationSmallerSpec.post enc Tryz.prog Tryz.f10 false true false false W args v W':=by
 have hW':=hW;obtain⟨p,q,hA0,hV,rfl,hfz,hnd⟩:=hW;have hA:DataW.TrodAll enc Tryz.prog W 0 (fun _=>true) true [36,25,3,57,3,3] args.toList ds p:=hA0;obtain⟨rfl,rfl⟩:=trodVars_none hV;obtain⟨qs,hty,hps⟩:=Pur.open_all (B:=1048576) (Sm:=(fun d:DataW H=>Rows.uptoBulk d≤1048576)) Pur.Meas.upto (L:=[36,25,3,57,31,32,33,34,62,99,107,60,49,22,66,23]) (r:=.any) (b:=base) (by kernel_rfl) [36,25,3,57,3,3] args.toList ds p (of_decide_eq_true rfl) (fun j t v h1 h2=>hval j t v (by
  rw[Tryz.params10,List.getElem?_toArray];exact h1) (by rw[Array.getElem?_toList]at h2;exact h2)) hA (fun d hd=>Pur.upto_all hk d (List.mem_append_left _ hd))
 have hst:∀(W':World) (sp:Nat→Bool),Below W.heap.size W W'→(∀x∈p++[],sp x.block=true)→DataW.TrodAll enc Tryz.prog W' 0 sp true [36,25,3,57,3,3] args.toList ds p:=fun W' sp hb hsp =>
  Pur.stay_all (by kernel_rfl) _ _ _ _ (of_decide_eq_true (by kernel_rfl)) (fun x hx=>Pur.same_below hb (hW'.lt x (List.mem_append_left _ hx))) (fun x hx=>hsp x (List.mem_append_left _ hx)) hA
 have hE:=Cd.env_of hL hsh;obtain⟨v0,vs0,d0,ds0,p0,q0,hargs,rfl,hp0,h0,r0⟩:=trodAll_cons hA;obtain⟨v1,vs1,d1,ds1,p1,q1,rfl,rfl,hp1,h1,r1⟩:=trodAll_cons r0;obtain⟨v2,vs2,d2,ds2,p2,q2,rfl,rfl,hp2,h2,r2⟩:=trodAll_cons r1;obtain⟨v3,vs3,d3,ds3,p3,q3,rfl,rfl,hp3,h3,r3⟩:=trodAll_cons r2;obtain⟨v4,vs4,d4,ds4,p4,q4,rfl,rfl,hp4,h4,r4⟩:=trodAll_cons r3;obtain⟨v5,vs5,d5,ds5,p5,q5,rfl,rfl,hp5,h5,r5⟩:=trodAll_cons r4;obtain⟨rfl,rfl,rfl⟩:=trodAll_nil r5;obtain rfl:args=#[v0,v1,v2,v3,v4,v5]:=by cases args;simp_all
 refine((Pur.smaller_typed qs hty).2 W (Pur.Here W) [v0,v1,v2,v3,v4,v5] hE (fun g h=>h) hps).mono fun e W' hh=>?_
 obtain⟨v,he,hb,hv⟩:=hh;have:=Pur.is_bool_inv hv;subst this;subst he;exact⟨_,rfl,post_below (pa:=p) (pv:=[]) hW' (fun _ _ _=>trodAll_cons_mk (shut_bool Tryz.underlying4 _) trodAll_mk0)
  (fun sp hsp=>hst W' sp hb hsp) (fun _ _=>rfl) rfl
  hb (ok_one (by kernel_rfl) rfl (okWide_bool_mk Tryz.underlying4 _))⟩
def start:Array Value:=#[.agg #[.slice none 0 0,.slice none 0 0,.slice none 0 0,.slice none 0 0],.agg #[.int .i64 0,.slice none 0 0,.int .i64 0,.int .i64 0,.slice none 0 0],.int .i64 0,.agg #[.int .i64 0,.int .i64 0],.int .i64 0,.int .i64 0]
theorem met (os:Os):laidMet Tryz.prog Rows.refutationSmallerUptoRow.laid ((World.laidAll Tryz.prog os Rows.refutationSmallerUptoRow.laid).forCall (fun _ _=>0) ⟨#[],start,[]⟩).memory :=
 laidMet_laidAll _ (by kernel_rfl) (by kernel_rfl)
theorem reads (os:Os) {H:Type} (enc:TypeId×Value→H):∃places,DataW.whole enc Tryz.prog ((World.laidAll Tryz.prog os Rows.refutationSmallerUptoRow.laid).forCall (fun _ _=>0) ⟨#[],start,[]⟩).memory Tryz.f10.params.toList Rows.refutationSmallerSpec.vars false start.toList 8=some ([.agg [.nil,.nil,.nil,.nil],.agg [.lit (.int .i64 0),.nil,.lit (.int .i64 0),.lit (.int .i64 0),.nil],.lit (.int .i64 0),.agg [.lit (.int .i64 0),.lit (.int .i64 0)],.lit (.int .i64 0),.lit (.int .i64 0)],[],places) :=
 ⟨[],by kernel_rfl⟩
set_option maxRecDepth 100000 in
theorem lifted (os:Os) (started:os.Started) (H:Type) (enc:TypeId×Value→H) (F:Stop.Interp) :
  ReturnsInHanded {} Tryz.checked os 10 .any ((Rows.OpenSpec.upto Rows.refutationSmallerSpec).preRow enc Tryz.prog Tryz.f10 Rows.refutationSmallerUptoRow.domain false Rows.refutationSmallerUptoRow.laid) (((Rows.OpenSpec.upto Rows.refutationSmallerSpec).at F).post enc Tryz.prog Tryz.f10 false true false false):=by
 obtain⟨places,hx⟩:=reads os enc;refine returnsInHanded_of_row (C:=Tryz.checked) (s:=(Rows.OpenSpec.upto Rows.refutationSmallerSpec)) Cd.own started (by kernel_rfl) Tryz.func10
  (witness_row_atRef (enc:=enc) (C:=Tryz.checked) false (World.laidAll Tryz.prog os Rows.refutationSmallerUptoRow.laid) start (World.laidAll_os _ _ _) (by kernel_rfl) (by kernel_rfl) (by kernel_rfl)
   (OpenSpec.preRow_of_cond 8 hx (by kernel_rfl) (fun k hk=>by cases hk;kernel_rfl) (by kernel_rfl) (met os))) ?_
 intro W base args ds gs before hval hW _ hk _ hL hsh _;exact contract H enc W base args ds gs before hval hW (hk _ rfl) hL hsh
theorem said:Rows.RefutationSmallerUptoSaid :=
 OpenClaim.holds_of_cond 10 Tryz.f10 rfl rfl rfl rfl rfl rfl rfl ⟨rfl,rfl,rfl,rfl,rfl⟩ rfl rfl rfl rfl rfl (by kernel_rfl) Tryz.func10 (by kernel_rfl)
  (of_decide_eq_true (by kernel_rfl)) (by unfold Func.isWrapper;rw[if_neg (of_decide_eq_false (by kernel_rfl))];exact⟨rfl,rfl⟩)
  (fun os started H enc _ F=>by rw[OpenClaim.pre_eq_preRow];exact lifted os started H enc F)
theorem plain (f : FuncId) (fn : Func) (hf : Tryz.pinned.checked.prog.funcNamed "confluent/confluentlaw21.RefutationSmaller" = some f) (hfn : Tryz.pinned.checked.prog.funcs[f]? = some fn) :
  true=Tryz.pinned.checked.prog.looks []∧∀(j:Nat) t,fn.params[j]?=some t→Tryz.pinned.checked.prog.wantsStandIn t=false:=by
 obtain rfl : f = 10 := Option.some.inj ((show Tryz.prog.funcNamed "confluent/confluentlaw21.RefutationSmaller" = some 10 by kernel_rfl).symm.trans hf) |>.symm
 obtain rfl:fn=Tryz.f10:=(Option.some.inj (Tryz.func10.symm.trans hfn)).symm;refine⟨by kernel_rfl,fun j t ht=>?_⟩;rw[Tryz.params10]at ht;have hm:=Array.mem_of_getElem? ht;simp only[List.mem_toArray,List.mem_cons,List.not_mem_nil,or_false]at hm;rcases hm with rfl|rfl|rfl|rfl|rfl|rfl
 ·exact(by kernel_rfl:Tryz.prog.wantsStandIn 36=false)
 ·exact(by kernel_rfl:Tryz.prog.wantsStandIn 25=false)
 ·exact(by kernel_rfl:Tryz.prog.wantsStandIn 3=false)
 ·exact(by kernel_rfl:Tryz.prog.wantsStandIn 57=false)
 ·exact(by kernel_rfl:Tryz.prog.wantsStandIn 3=false)
 ·exact(by kernel_rfl:Tryz.prog.wantsStandIn 3=false)
theorem proved:Rows.RefutationSmallerUptoCardSaid :=
 Claim7.holds_tied_plain_at .later [] _ _ _ _ said (fun _ h=>by cases h) (by kernel_rfl) (fun _ h=>by cases h) refutationSmallerUpto_row_tie rfl ⟨rfl,rfl⟩ (by kernel_rfl) rfl plain (by kernel_rfl)
end Go.Proofs.YtaleoeblooeglaaGreatDoor.lawSmaller
