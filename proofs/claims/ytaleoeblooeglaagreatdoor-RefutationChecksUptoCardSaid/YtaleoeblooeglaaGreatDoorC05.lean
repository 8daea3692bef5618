/-
  RefutationChecks: both libraries check alike, for any system and tree whose bulk is at most 1048576 (the tables laid); names shortened by a program (Grow RfMo RfT1 RfT2 RfT3 RfTa RfQ1 RfQ2 RfQ3 RfN RfN2 RfO RfO2 RfP2 RfU1 RfU2 RfU3 RfU4 RfU6 RfU7)
-/
import Derived.Test.YtaleoeblooeglaaGreatDoorC04
import Derived.Shelf.Spec.SlicesGrow
set_option maxRecDepth 10000
set_option linter.unusedSimpArgs false
set_option linter.unusedVariables false
namespace Go.Proofs.YtaleoeblooeglaaGreatDoor
section
open Go.Shelf
def zM:Go.Shelf.Ren:=⟨fun|4=>108|n=>n,fun|0=>0|3=>3|4=>4|9=>9|20=>20|22=>32|25=>62|n=>n,fun|n=>n⟩
theorem xd:Go.Proofs.Lays8.n4 Tryz.prog zM:={
 mixed:=by kernel_rfl
 f4 := ⟨"slices.Grow[[]confluent/api.Row,confluent/api.Row]", by rfl, Tryz.func108.trans (congrArg some (by kernel_rfl))⟩
 t0:=Tryz.underlying0
 a0:=Tryz.isAgg0
 z0:=Tryz.sizeOf0
 v0:=Tryz.zeroValue0
 t3:=Tryz.underlying3
 a3:=Tryz.isAgg3
 z3:=Tryz.sizeOf3
 v3:=Tryz.zeroValue3
 t4:=Tryz.underlying4
 a4:=Tryz.isAgg4
 z4:=Tryz.sizeOf4
 v4:=Tryz.zeroValue4
 t9:=Tryz.underlying9
 a9:=Tryz.isAgg9
 z9:=Tryz.sizeOf9
 v9:=Tryz.zeroValue9
 t20:=Tryz.underlying20
 a20:=Tryz.isAgg20
 z20:=Tryz.sizeOf20
 v20:=Tryz.zeroValue20
 t22:=Tryz.underlying32
 a22:=Tryz.isAgg32
 z22:=Tryz.sizeOf32
 v22:=Tryz.zeroValue32}
namespace Pur
open Go.RowKit
attribute [local go_sem] bG eW bN bu dt fP List.map a8 aH get put tmpsOf dD iL gy im conds ev cond_true cond_false Nat.beq Nat.ble Nat.add quiet dE cB cC ox List.append_eq List.nil_append List.cons_append dC cf cg cj ck cp cu eV eQ di iN dB calm quiet.isCallK cF List.getElem?_cons_zero List.getElem?_cons_succ bk bW cellsOf List.all bA List.length_cons List.length_nil eI bc List.drop List.take List.getD Option.getD_some qc qd pz qe qf qg ef fZ eg eh setAt List.set Nat.reduceAdd Nat.reduceMul cx bq refsOf bD bJ scalar cw dZ bT cv aM after freeze gV gF aS dm dK dd ew cR cS bZ cT cU cX cY cZ c6 c7 c8 da db dc b6 b7 b8 dj iO bytesOf bE cM aR bB dP bw bO cG still bM dY du dR bL ey List.isEmpty b9 ca cd Int.reduceToNat Nat.mul_one Nat.reduceSub nY cN bY dL cE look dM strip guarded fC eA eH cL dQ dk gP cV cW Bool.or_false Bool.or_true Bool.and_true Bool.and_false Nat.blt fQ fq fU dG idxOf gG gH iM eT aM my
open Rf
theorem C7:∃i0 z,Tryz.prog.info? 62=some i0∧i0.zero=some z∧i0.size=2∧i0.bytes=32∧z.cells.size=2:=by
 have h:(Tryz.prog.info? 62).map (fun i=>(i.size,i.bytes,i.zero.map fun z=>z.cells.size))=some (2,32,some 2):=by kernel_rfl
 cases hi:Tryz.prog.info? 62 with
 |none=>rw[hi]at h;cases h
 |some i0 =>
  rw[hi]at h;simp only[Option.map_some,Option.some.injEq,Prod.mk.injEq]at h;obtain⟨h1,h2,h3⟩:=h;cases hz:i0.zero with
  |none=>rw[hz]at h3;cases h3
  |some z =>
   rw[hz]at h3;exact⟨i0,z,rfl,hz,h1,h2,by simpa using h3⟩
theorem C8:ai ctx 108 [.nilsl,.int .i64 0] .nilsl:=by
 refine ai.r5 (by kernel_rfl) fun w S vs hE hl hp=>?_
 obtain⟨v,u,rfl,h1,h2⟩:=It hp;cases h1;obtain rfl:=r6 h2;refine(Any8.slices_Grow_room xd none 0 0 0 w (by omega) (by omega) (by omega) (by omega)).mono fun e w' hh=>?_
 obtain⟨rfl,rfl⟩:=hh;exact⟨_,rfl,Below.refl _ _,fun _ _=>.nilsl⟩
theorem EE (n:Nat) (h0:0<n) (hn:n≤1000000000) (μ:AM):aL ctx 108 [.pv .nilsl,.pv (.int .i64 n)] μ (.ref μ.length 0 0 0) (μ++[⟨[],0,2,62,false⟩]):=by
 refine⟨by kernel_rfl,fun w0 S γ w vs hW hp=>?_⟩;obtain⟨i0,z,hi,hz,hs,hb,hzc⟩:=C7;have hvs:vs=[.slice none 0 0,.int .i64 n]:=by
  have hl:=hp.len;match vs,hl with
  |[v,u],_ =>
   have h1:=jl (hp.at_ 0 _ _ rfl rfl);have h2:=gB (hp.at_ 1 _ _ rfl rfl);rw[h1,h2]
 subst hvs;refine(Any8.slices_Grow_grow xd i0 z hi hz (by omega) none 0 0 n [] w (by omega) (by omega) (by rw[hb];omega) (by omega) (by simp) (fun _=>rfl) (fun a h=>by cases h)).mono fun e w' hh=>?_
 obtain⟨he,hw⟩:=hh;rw[show zM.t 25=62 from rfl]at he hw;obtain⟨hW1,hE1⟩:=hW.drew;have hge:=grownCap_ge w (0+n) 0 62;have hgm:=grownCap_le_maxLen w (0+n) 0 62 (by simp only[maxLen];omega);generalize hG:grownCap w (0+n) 0 62=G at *;obtain⟨hW2,hE2⟩:=hW1.DD (avs:=[]) (cs:=(Builtin.zeroCells z.cells (0+n-0)++Builtin.zeroCells z.cells (G-(0+n))).toList) (elem:=62) 2 (by omega) (Nat.zero_le _) fun i x hx=>by simp at hx
 have hco:(Builtin.zeroCells z.cells (0+n-0)++Builtin.zeroCells z.cells (G-(0+n))).toList.toArray=[].toArray++Builtin.zeroCells z.cells (0+n-0)++Builtin.zeroCells z.cells (G-(0+n)):=by simp
 have hcl:(Builtin.zeroCells z.cells (0+n-0)++Builtin.zeroCells z.cells (G-(0+n))).toList.length=G*2:=by
  rw[Array.length_toList,Array.size_append,size_zeroCells,size_zeroCells,hzc];omega
 rw[hco,hcl]at hW2 hE2;subst he hw;exact⟨_,S,_,rfl,hE1.trans hE2,hW2,.ref _ _ _ _ _ _ ⟨w.heap.size,0,none⟩ G (gf _ _ _) (Nat.le_refl _) ⟨rfl,Nat.zero_le _⟩ fun _=>.inl ⟨G,rfl,Nat.zero_add _,Nat.zero_le _,hgm⟩⟩
def c80:az:=(⟨_,by conv=>(lhs;reduce;try simp only[ei,Int.cast_ofNat_Int,Int.reduceNegSucc,UInt8.reduceOfNat])⟩:{x // codeOf Tryz.prog 80 (fun _=>false)=some x}).1
theorem Hd:bF Tryz.prog 80 (fun _=>false)=some (c80,[.t 2],36,true):=by kernel_rfl
def kf (L:List (List Rw)):Nat:=(L.map List.length).sum
theorem nI (L:List (List Rw)) (k:Nat) (h:k<L.length):kf (L.take (k+1))=kf (L.take k)+(L.getD k []).length:=by
 rw[kf,aU L k [] h];simp[kf]
theorem EF (L:List (List Rw)) (k:Nat):kf (L.take k)≤kf L:=by
 have:=congrArg kf (List.take_append_drop k L);simp only[kf,List.map_append,List.sum_append]at this ⊢;omega
theorem Bj (L:List (List Rw)) (k:Nat) (h:k<L.length):(L.take (k+1)).flatten=(L.take k).flatten++L.getD k []:=by
 rw[aU L k [] h];simp
theorem xe (L:List (List Rw)):L.flatten.length=kf L:=by
 rw[List.length_flatten];rfl
theorem mh (L:List (List Rw)) (k:Nat) (hk:k<L.length) (h:k<(L.flatMap sf).length):(L.flatMap sf)[k]'h= .sl (L.getD k []).length ((L.getD k []).flatMap ff):=by
 have:=eo wK L k [] 0 hk (by omega);rw[Nat.mul_one,Nat.add_zero,List.getElem?_eq_getElem h]at this;exact Option.some.inj this
set_option maxHeartbeats 4000000 in
theorem ug (L:List (List Rw)) (hL:L.length≤1000000) (hS:kf L≤1000000000):ai ctx 80 [aA L] (ay L.flatten):=by
 have f1:=l9 L;have hle:=EF L;have hfl:=xe L;have loop1:∀{R:Exit→AF→AM→Prop} {x:az} {f:AF},Sub [(0,.pv (aA L)),(3,.pv (.int .i64 0)),(9,.pv (aA L)),(10,.pv (.int .i64 L.length)),(11,.pv (.int .i64 0))] f →
   (∀k,k≤L.length→Aw ctx (fun _=>false) 36 0 x (cB (fun f' μ'=>k<L.length∧True∧Sub [(0,.pv (aA L)),(3,.pv (.int .i64 (kf (L.take (k+1))))),(9,.pv (aA L)),(10,.pv (.int .i64 L.length)),(11,.pv (.int .i64 (k+1:Nat)))] f'∧∃junk,μ'=[]++junk) R) [(0,.pv (aA L)),(3,.pv (.int .i64 (kf (L.take k)))),(9,.pv (aA L)),(10,.pv (.int .i64 L.length)),(11,.pv (.int .i64 k))] [])→Aw ctx (fun _=>false) 36 0 (.loop x) R f []:=fun hs st =>
  bK L.length (fun _=>True) (fun k=>[(0,.pv (aA L)),(3,.pv (.int .i64 (kf (L.take k)))),(9,.pv (aA L)),(10,.pv (.int .i64 L.length)),(11,.pv (.int .i64 k))]) (fun _=>[]) trivial hs ⟨[],rfl⟩ (fun _=>⟨Nat.zero_le _,rfl,rfl⟩) fun k hk _=>st k hk
 by_cases h0:kf L=0
 ·have:ai ctx 80 [aA L] .nilsl:=by
   have hg:=C8;have hz:∀k,kf (L.take k)=0:=fun k=>by have:=hle k;omega
   refine af (C:=ctx) (Fn.of Hd rfl) rfl ?_;unfold c80;repeat' (first
    |((with_reducible first|show aF _|show aO _);simp[vb]<;>omega)
    |exact(rfl:some _=_)
    |(
     fail_if_success refine aV ?_
     refine a7 ?_;repeat1' dsimp only[c80,aA,go_sem]
     first
     |refine aW ?_ ?_ rfl ?_
     |apply aX
     |apply aY
     |(refine aZ (fun hc=>?_) fun hc=>?_<;>first|(cases hc;done)|(exfalso;simp at hc<;>omega)|(try simp only[bn]at hc;try contradiction))
     |skip))
   refine loop1 (by (repeat' (first|exact trivial|refine And.intro (by first|rfl|(simp[get,Nat.beq];done)|(simp[get,Nat.beq];omega)|(dsimp only[get];congr 1<;>first|rfl|omega|(simp;done)|(simp;omega))) ?_))) fun k hk=>?_
   by_cases hlt:k<L.length
   ·have e:=mh L k hlt;clear loop1;have hl:=nI L k hlt;rw[hz,hz]at hl;rw[hz,hz];generalize L.getD k []=l at *;obtain rfl:l=[]:=List.eq_nil_of_length_eq_zero (by omega);repeat' (first
     |((with_reducible show aF _);first|exact True.intro|(simp only[vb,lb,e,f1,hlt];and_intros<;>first|omega|(simp<;>omega)))
     |((with_reducible show aO _);first|exact True.intro|((try dsimp only[go_sem]);(simp[vb,e,f1,hlt]<;>omega)))
     |exact(rfl:some _=_)
     |(
      fail_if_success refine aV ?_
      refine bI [(14,{val:=some (.pv (.sl 0 []))})] ?_;repeat1' dsimp only[c80,aA,go_sem]
      first
      |refine aW ?_ ?_ rfl ?_
      |apply aX
      |apply aY
      |(refine aZ (fun hc=>?_) fun hc=>?_<;>first|(cases hc;done)|(exfalso;(simp at hc<;>omega))|(try simp only[bn]at hc;try contradiction))
      |skip))
    exact⟨hlt,trivial,by (repeat' (first|exact trivial|refine And.intro (by first|rfl|(simp[get,Nat.beq];done)|(simp[get,Nat.beq];omega)|(dsimp only[get];congr 1<;>first|rfl|omega|(simp;done)|(simp;omega))) ?_)),_,rfl⟩
   ·obtain rfl:k=L.length:=by omega
    rw[hz];repeat' (first
     |((with_reducible show aF _);exact True.intro)
     |((with_reducible show aO _);first|exact True.intro|((try dsimp only[go_sem]);(simp only[vb,and_true,true_implies];(repeat' (first|(with_reducible assumption)|(with_reducible apply And.intro)|intro _|((fail_if_success (with_reducible show(_:Int)≤_));assumption)))<;>(simp_all;done))))
     |exact(rfl:some _=_)
     |(
      fail_if_success refine aV ?_
      refine iu [(108,fun _=>some .nilsl)] ?_;repeat1' dsimp only[c80,aA,go_sem]
      first
      |refine aW ?_ ?_ rfl ?_
      |apply aX
      |apply aY
      |(refine aZ (fun hc=>?_) fun hc=>?_<;>first|(cases hc;done)|(exfalso;(simp at hc<;>omega))|(try simp only[bn]at hc;try contradiction))
      |skip))
    refine bK L.length (fun _=>True) (fun k=>[(6,.pv .nilsl),(25,.pv (aA L)),(26,.pv (.int .i64 L.length)),(27,.pv (.int .i64 k))]) (fun _=>[]) trivial (by (repeat' (first|exact trivial|refine And.intro (by first|rfl|(simp[get,Nat.beq];done)|(simp[get,Nat.beq];omega)|(dsimp only[get];congr 1<;>first|rfl|omega|(simp;done)|(simp;omega))) ?_))) ⟨[],rfl⟩ (fun _=>⟨Nat.zero_le _,rfl,rfl⟩) fun k hk _=>?_
    by_cases hlt:k<L.length
    ·have e:=mh L k hlt;clear loop1;have hl:=nI L k hlt;rw[hz,hz]at hl;generalize L.getD k []=l at *;obtain rfl:l=[]:=List.eq_nil_of_length_eq_zero (by omega);repeat' (first
      |((with_reducible show aF _);first|exact True.intro|(simp only[vb,lb,e,f1,hlt];and_intros<;>first|omega|(simp<;>omega)))
      |((with_reducible show aO _);first|exact True.intro|((try dsimp only[go_sem]);(simp[vb,e,f1,hlt]<;>omega)))
      |exact(rfl:some _=_)
      |(
       fail_if_success refine aV ?_
       refine bI [(30,{val:=some (.pv (.sl 0 []))}),(33,{mode:=2})] ?_;repeat1' dsimp only[c80,aA,go_sem]
       first
       |refine aW ?_ ?_ rfl ?_
       |apply aX
       |apply aY
       |(refine aZ (fun hc=>?_) fun hc=>?_<;>first|(cases hc;done)|(exfalso;(simp at hc<;>omega))|(try simp only[bn]at hc;try contradiction))
       |skip))
     exact⟨hlt,trivial,by (repeat' (first|exact trivial|refine And.intro (by first|rfl|(simp[get,Nat.beq];done)|(simp[get,Nat.beq];omega)|(dsimp only[get];congr 1<;>first|rfl|omega|(simp;done)|(simp;omega))) ?_)),_,rfl⟩
    ·obtain rfl:k=L.length:=by omega
     repeat' (first
      |((with_reducible show aF _);exact True.intro)
      |((with_reducible show aO _);exact True.intro)
      |exact(rfl:some _=_)
      |(
       fail_if_success refine aV ?_
       refine a7 ?_;repeat1' dsimp only[c80,aA,go_sem]
       first
       |refine aW ?_ ?_ rfl ?_
       |apply aX
       |apply aY
       |(refine aZ (fun hc=>?_) fun hc=>?_<;>first|(cases hc;done)|(exfalso;(simp at hc<;>omega))|(try simp only[bn]at hc;try contradiction))
       |skip))
  have hc:=this.Az 1;have hn:L.flatten=[]:=List.eq_nil_of_length_eq_zero (by omega);rw[hn];exact hc
 ·have hg:=EE (kf L) (by omega) hS [];refine af (C:=ctx) (Fn.of Hd rfl) rfl ?_;unfold c80;repeat' (first
   |((with_reducible first|show aF _|show aO _);simp[vb]<;>omega)
   |exact(rfl:some _=_)
   |(
    fail_if_success refine aV ?_
    refine a7 ?_;repeat1' dsimp only[c80,aA,go_sem]
    first
    |refine aW ?_ ?_ rfl ?_
    |apply aX
    |apply aY
    |(refine aZ (fun hc=>?_) fun hc=>?_<;>first|(cases hc;done)|(exfalso;simp at hc<;>omega)|(try simp only[bn]at hc;try contradiction))
    |skip))
  refine loop1 (by (repeat' (first|exact trivial|refine And.intro (by first|rfl|(simp[get,Nat.beq];done)|(simp[get,Nat.beq];omega)|(dsimp only[get];congr 1<;>first|rfl|omega|(simp;done)|(simp;omega))) ?_))) fun k hk=>?_
  by_cases hlt:k<L.length
  ·have e:=mh L k hlt;clear loop1;have hl:=nI L k hlt;have hl2:=hle (k+1);rw[hl]at hl2 ⊢;clear hl hle hfl;generalize L.getD k []=l at *;generalize kf (L.take k)=sm at *;repeat' (first
    |((with_reducible show aF _);first|exact True.intro|(simp only[vb,lb,e,f1,hlt];and_intros<;>first|omega|(simp<;>omega)))
    |((with_reducible show aO _);first|exact True.intro|((try dsimp only[go_sem]);(simp[vb,e,f1,hlt]<;>omega)))
    |exact(rfl:some _=_)
    |(
     fail_if_success refine aV ?_
     refine bI [(14,{val:=some (.pv (.sl l.length (l.flatMap ff)))})] ?_;repeat1' dsimp only[c80,aA,go_sem]
     first
     |refine aW ?_ ?_ rfl ?_
     |apply aX
     |apply aY
     |(refine aZ (fun hc=>?_) fun hc=>?_<;>first|(cases hc;done)|(exfalso;(simp at hc<;>omega))|(try simp only[bn]at hc;try contradiction))
     |skip))
   exact⟨hlt,trivial,by (repeat' (first|exact trivial|refine And.intro (by first|rfl|(simp[get,Nat.beq];done)|(simp[get,Nat.beq];omega)|(dsimp only[get];congr 1<;>first|rfl|omega|(simp;done)|(simp;omega))) ?_)),_,rfl⟩
  ·obtain rfl:k=L.length:=by omega
   rw[List.take_length];repeat' (first
    |((with_reducible show aF _);exact True.intro)
    |((with_reducible show aO _);first|exact True.intro|((try dsimp only[go_sem]);(simp only[vb,and_true,true_implies];(repeat' (first|(with_reducible assumption)|(with_reducible apply And.intro)|intro _|((fail_if_success (with_reducible show(_:Int)≤_));assumption))))))
    |exact(rfl:some _=_)
    |(
     fail_if_success refine aV ?_
     refine bI [(24,{val:=some (.ref 0 0 0 0),mem:=some [⟨[],0,2,62,false⟩]})] ?_;repeat1' dsimp only[c80,aA,go_sem]
     first
     |refine aW ?_ ?_ rfl ?_
     |apply aX
     |apply aY
     |(refine aZ (fun hc=>?_) fun hc=>?_<;>first|(cases hc;done)|(exfalso;(simp at hc<;>omega))|(try simp only[bn]at hc;try contradiction))
     |skip))
   refine bK L.length (fun _=>True) (fun k=>[(6,.ref 0 k 0 (L.take k).flatten.length),(25,.pv (aA L)),(26,.pv (.int .i64 L.length)),(27,.pv (.int .i64 k))]) (fun k=>[⟨((L.take k).flatten.flatMap ff).map .pv,k,2,62,false⟩]) trivial (by (repeat' (first|exact trivial|refine And.intro (by first|rfl|(simp[get,Nat.beq];done)|(simp[get,Nat.beq];omega)|(dsimp only[get];congr 1<;>first|rfl|omega|(simp;done)|(simp;omega))) ?_))) ⟨[],rfl⟩ (fun _=>⟨Nat.zero_le _,rfl,by simp[aP,dJ]⟩) fun k hk _=>?_
   by_cases hlt:k<L.length
   ·have e:=mh L k hlt;clear loop1;have hl:=nI L k hlt;have hl2:=hle (k+1);have hf:=Bj L k hlt;have f2:=gT (L.take k).flatten;have f3:=xe (L.take k);generalize L.getD k []=l at *;have f4:=gT l;rw[hf];generalize (L.take k).flatten=m at *;repeat' (first
     |((with_reducible show aF _);first|exact True.intro|(simp only[vb,lb,e,f1,f2,f4,hlt];and_intros<;>first|omega|(simp<;>omega)))
     |((with_reducible show aO _);first|exact True.intro|((try dsimp only[go_sem]);(simp[vb,e,f1,f2,f4,hlt]<;>omega)))
     |exact(rfl:some _=_)
     |(
      fail_if_success refine aV ?_
      refine bI [(30,{val:=some (.pv (.sl l.length (l.flatMap ff)))}),(33,{mode:=1})] ?_;repeat1' dsimp only[c80,aA,go_sem]
      first
      |refine aW ?_ ?_ rfl ?_
      |apply aX
      |apply aY
      |(refine aZ (fun hc=>?_) fun hc=>?_<;>first|(cases hc;done)|(exfalso;(simp at hc<;>omega))|(try simp only[bn]at hc;try contradiction))
      |skip))
    exact⟨hlt,trivial,by simp only[List.length_append];(repeat' (first|exact trivial|refine And.intro (by first|rfl|(simp[get,Nat.beq];done)|(simp[get,Nat.beq];omega)|(dsimp only[get];congr 1<;>first|rfl|omega|(simp;done)|(simp;omega))) ?_)),[],by simp[List.flatMap_append]⟩
   ·obtain rfl:k=L.length:=by omega
    rw[List.take_length];repeat' (first
     |((with_reducible show aF _);exact True.intro)
     |((with_reducible show aO _);exact True.intro)
     |exact(rfl:some _=_)
     |(
      fail_if_success refine aV ?_
      refine a7 ?_;repeat1' dsimp only[c80,aA,go_sem]
      first
      |refine aW ?_ ?_ rfl ?_
      |apply aX
      |apply aY
      |(refine aZ (fun hc=>?_) fun hc=>?_<;>first|(cases hc;done)|(exfalso;(simp at hc<;>omega))|(try simp only[bn]at hc;try contradiction))
      |skip))
    have f2:=gT L.flatten;exact oO rfl rfl rfl (by rw[List.drop_zero,List.take_of_length_le (by simp only[List.length_map];omega)]) (by simp only[List.length_map];omega)
end Pur
end
section
namespace Rf
open Pur (aK)
def nx (x y:Rg):Prop:=y.lo≤x.lo∧x.hi≤y.hi
structure ny (b b':List Rg):Prop where
 len:b.length=b'.length
 at_:∀k,k<b.length→nx (b.getD k zr) (b'.getD k zr)
structure He (r r':Rw):Prop where
 t:r.terms=r'.terms
 b:r.bound≤r'.bound
structure sJ (l l':List Rw):Prop where
 len:l.length=l'.length
 at_:∀k,k<l.length→He (l.getD k zw) (l'.getD k zw)
theorem nx.refl (x:Rg):nx x x:=⟨Int.le_refl _,Int.le_refl _⟩
theorem ny.refl (b:List Rg):ny b b:=⟨rfl,fun _ _=>nx.refl _⟩
theorem sJ.refl (l:List Rw):sJ l l:=⟨rfl,fun _ _=>⟨rfl,Int.le_refl _⟩⟩
theorem xf {α:Type} (l:List α) (k:Nat) (d:α) (h:¬k<l.length):l.getD k d=d:=by
 rw[List.getD,List.getElem?_eq_none (by omega)];rfl
theorem ny.all {b b':List Rg} (h:ny b b') (k:Nat):nx (b.getD k zr) (b'.getD k zr):=by
 by_cases hk:k<b.length
 ·exact h.at_ k hk
 ·rw[xf b k zr hk,xf b' k zr (by rw[←h.len];exact hk)];exact nx.refl _
theorem lB {b:List Rg} {c k:Nat} {x:Rg} (hc:c<b.length):(b.set c x).getD k zr=if k=c then x else b.getD k zr:=by
 rw[List.getD,List.getD];by_cases h:c=k
 ·subst h;simp[hc]
 ·rw[List.getElem?_set_ne h,if_neg (Ne.symm h)]
theorem ny.set {b b':List Rg} (h:ny b b') {c:Nat} {x y:Rg} (hc:c<b.length) (hxy:nx x y):ny (b.set c x) (b'.set c y):=by
 refine⟨by simp[h.len],fun k hk=>?_⟩;rw[lB hc,lB (by rw[←h.len];exact hc)];split
 ·exact hxy
 ·exact h.all k
theorem sJ.app {l l':List Rw} (h:sJ l l') (m:List Rw):sJ (l++m) (l'++m):=by
 refine⟨by simp[h.len],fun k hk=>?_⟩;by_cases h1:k<l.length
 ·have h2:=h.at_ k h1;rw[List.getD,List.getD,List.getElem?_append_left h1,List.getElem?_append_left (by rw[←h.len];exact h1)];exact h2
 ·rw[List.getD,List.getD,List.getElem?_append_right (by omega),List.getElem?_append_right (by rw[←h.len];omega),h.len];exact⟨rfl,Int.le_refl _⟩
theorem sK (b:List Rg):eP b=true↔∃k,k<b.length∧(b.getD k zr).hi<(b.getD k zr).lo:=by
 unfold eP;rw[List.any_eq_true];constructor
 ·rintro⟨x,hx,h⟩;obtain⟨k,hk,rfl⟩:=List.mem_iff_getElem.mp hx;exact⟨k,hk,by rw[List.getD,List.getElem?_eq_getElem hk];simpa [fw]using h⟩
 ·rintro⟨k,hk,h⟩;exact⟨_,Pur.aQ hk,by simpa [fw]using h⟩
theorem ny.empty {b b':List Rg} (h:ny b b') (he:eP b'=true):eP b=true:=by
 rw[sK]at he ⊢;obtain⟨k,hk,h1⟩:=he;have:=h.all k;exact⟨k,by rw[h.len];exact hk,by obtain⟨a,c⟩:=this;omega⟩
theorem uh {b:List Rg} {r:Rw} (c:Int) (h:¬(gL r b c).hi<(gL r b c).lo):nx (gL r b c) (b.getD c.toNat zr):=by
 unfold gL at h ⊢;dsimp only at h ⊢;generalize b.getD c.toNat zr=x at *;generalize (r.bound-fD b c r.terms)=rest at *;generalize kS c r.terms=f at *;by_cases hf:f=0
 ·rw[if_pos hf];exact nx.refl _
 ·rw[if_neg hf]at h ⊢;by_cases hp:0<f
  ·simp only[hp,if_true]at h ⊢;by_cases he:min x.hi (rest / f)<x.lo
   ·rw[if_pos he]at h;exact absurd (by decide) h
   ·rw[if_neg he];exact⟨Int.le_refl _,by show min _ _≤_;omega⟩
  ·simp only[hp,if_false]at h ⊢;by_cases he:x.hi<max x.lo (-(rest / -f))
   ·rw[if_pos he]at h;exact absurd (by decide) h
   ·rw[if_neg he];exact⟨by show _≤max _ _;omega,Int.le_refl _⟩
theorem EG (g:Gr) (b:List Rg) (k:Nat):nx (tc g b k) (b.getD (g.first.toNat+k) zr):=by
 unfold tc;dsimp only;split
 ·exact⟨Int.le_refl _,by show min _ _≤_;omega⟩
 ·exact nx.refl _
theorem sL {x y:Rg} (hy:l7 y=true) (h:nx x y) (he:¬x.hi<x.lo):l7 x=true:=by
 obtain⟨h1,h2⟩:=h;have:=kY hy;simp only[l7,aK,Bool.and_eq_true,decide_eq_true_eq];omega
theorem p7 {b:List Rg} {c:Nat} {x:Rg} (hb:dF b=true) (hx:l7 x=true):dF (b.set c x)=true:=by
 simp only[dF,Bool.and_eq_true,List.all_eq_true,decide_eq_true_eq,List.length_set]at hb ⊢;refine⟨fun y hy=>?_,hb.2⟩;rcases List.mem_or_eq_of_mem_set hy with h|h
 ·exact hb.1 y h
 ·rw[h];exact hx
theorem C9 (s:Sy) (rows:List Rw) (b:List Rg) (x:bj):(de s rows b x).2.2=true→(de s rows b x).2.1=true:=by
 unfold de;dsimp only;(repeat' split)<;>simp
structure zN (s:Sy) (n:Nat):Prop where
 g:∀q∈s.graphs,bS n q=true
 c:∀l∈s.cases,∀r∈l,ic n r=true
theorem ui {b:List Rg} {c:Nat} {x:Rg} (hc:c<b.length) (hok:dF b=true) (hx:nx x (b.getD c zr)):eP (b.set c x)=true∨dF (b.set c x)=true:=by
 by_cases he:x.hi<x.lo
 ·exact .inl ((sK _).mpr ⟨c,by simpa using hc,by rw[lB hc,if_pos rfl];exact he⟩)
 ·exact .inr (p7 hok (sL (ig hok c) hx he))
end Rf
end
section
namespace Rf
end Rf
end
section
namespace Rf
open Pur (aK)
structure Da (b:List Rg) (v:List Int):Prop where
 len:v.length=b.length
 at_:∀k,k<b.length→(b.getD k zr).lo≤v.getD k 0∧v.getD k 0≤(b.getD k zr).hi
theorem Da.set {b:List Rg} {v:List Int} (h:Da b v) {c:Nat} {x:Rg} (hc:c<b.length) (h1:x.lo≤v.getD c 0) (h2:v.getD c 0≤x.hi):Da (b.set c x) v:=by
 refine⟨by simp[h.len],fun k hk=>?_⟩;rw[lB hc];split
 ·rename_i e;subst e;exact⟨h1,h2⟩
 ·exact h.at_ k (by simpa using hk)
end Rf
end
section
namespace Rf
open Pur (aK)
theorem Db {b:List Rg} {c:Nat} {x:Rg} (hc:c<b.length) (h:nx x (b.getD c zr)):ny (b.set c x) b:=by
 refine⟨by simp,fun k _=>?_⟩;rw[lB hc];split
 ·rename_i e;subst e;exact h
 ·exact nx.refl _
theorem Dc {s:Sy} {rows:List Rw} {b:List Rg} (hok:dF b=true) (hrow:∀r∈rows,ic b.length r=true) (hgo:∀q∈s.graphs,bS b.length q=true) (x:bj) (hx:0≤x.index) (hp:(de s rows b x).2.1=true) :
  (de s rows b x).2.2=true∨(ny (de s rows b x).1 b∧dF (de s rows b x).1=true):=by
 unfold de at hp ⊢;by_cases hk:x.kind=1
 ·simp only[if_pos hk]at hp ⊢;by_cases h1:x.index<s.graphs.length
  ·simp only[if_pos h1]at hp ⊢;have hq:=hgo _ (Pur.aQ (d:=zg) (show x.index.toNat<s.graphs.length by omega));generalize s.graphs.getD x.index.toNat zg=g at *;by_cases h2:g.first≤x.cell∧x.cell<g.first+g.least.length
   ·simp only[if_pos h2];have hsub:=EG g b (x.cell-g.first).toNat;simp only[bS,aK,Bool.and_eq_true,decide_eq_true_eq]at hq;obtain⟨⟨⟨⟨⟨g1,g2⟩,g3⟩,g4⟩,g5⟩,g6⟩:=hq;have hc:x.cell.toNat<b.length:=by omega
    rw[show g.first.toNat+(x.cell-g.first).toNat=x.cell.toNat by omega]at hsub;by_cases he:(tc g b (x.cell-g.first).toNat).hi<(tc g b (x.cell-g.first).toNat).lo
    ·exact .inl (by simp[fw,he])
    ·exact .inr ⟨Db hc hsub,p7 hok (sL (ig hok _) hsub he)⟩
   ·rw[if_neg h2]at hp;cases hp
  ·rw[if_neg h1]at hp;cases hp
 ·rw[if_neg hk]at hp ⊢;by_cases h1:x.index<rows.length∧x.cell<b.length
  ·rw[if_pos h1]at hp ⊢;have hro:=hrow _ (Pur.aQ (d:=zw) (show x.index.toNat<rows.length by omega));generalize rows.getD x.index.toNat zw=r at *;dsimp only at hp ⊢;by_cases h3:x.cell<0
   ·rw[if_pos h3]at hp ⊢;exact .inl hp
   ·rw[if_neg h3];have hc:x.cell.toNat<b.length:=by omega
    have t1:fu r b x.cell=gL r b x.cell:=by
     unfold fu;rw[if_pos ⟨by simp[fV,hok,hro],by omega,by omega⟩]
    rw[t1];by_cases he:(gL r b x.cell).hi<(gL r b x.cell).lo
    ·exact .inl (by simp[fw,he])
    ·exact .inr ⟨Db hc (uh x.cell he),p7 hok (sL (ig hok _) (uh x.cell he) he)⟩
  ·rw[if_neg h1]at hp;cases hp
theorem zN.sys {s:Sy} (h:ja s=true):zN s s.box.length∧dF s.box=true∧(∀r∈s.rows,ic s.box.length r=true):=by
 simp only[ja,fV,Bool.and_eq_true,decide_eq_true_eq]at h;obtain⟨⟨⟨⟨⟨⟨⟨h1,h1'⟩,h2⟩,h3⟩,h4⟩,h5⟩,h6⟩,h7⟩:=h;refine⟨⟨fun q hq=>List.all_eq_true.mp h6 q hq,fun l hl r hr=>?_⟩,h1,fun r hr=>List.all_eq_true.mp h1' r hr⟩;have:=List.all_eq_true.mp h7 l hl;simp only[gK,fV,Bool.and_eq_true]at this;exact List.all_eq_true.mp this.2.2 r hr
end Rf
end
section
namespace Pur
open Go.RowKit
attribute [local go_sem] bG eW bN bu dt fP List.map a8 aH get put tmpsOf dD iL gy im conds ev cond_true cond_false Nat.beq Nat.ble Nat.add quiet dE cB cC ox List.append_eq List.nil_append List.cons_append dC cf cg cj ck cp cu eV eQ di iN dB calm quiet.isCallK cF List.getElem?_cons_zero List.getElem?_cons_succ bk bW cellsOf List.all bA List.length_cons List.length_nil eI bc List.drop List.take List.getD Option.getD_some qc qd pz qe qf qg ef fZ eg eh setAt List.set Nat.reduceAdd Nat.reduceMul cx bq refsOf bD bJ scalar cw dZ bT cv aM after freeze gV gF aS dm dK dd ew cR cS bZ cT cU cX cY cZ c6 c7 c8 da db dc b6 b7 b8 dj iO bytesOf bE cM aR bB dP bw bO cG still bM dY du dR bL ey List.isEmpty b9 ca cd Int.reduceToNat Nat.mul_one Nat.reduceSub nY cN bY dL cE look dM strip guarded fC eA eH cL dQ dk gP cV cW Bool.or_false Bool.or_true Bool.and_true Bool.and_false Nat.blt fQ fq fU dG idxOf gG gH iM eT aM my
section
open Rf
theorem IC:Tryz.prog.cellsOf 57=2:=by kernel_rfl
theorem ID:Tryz.prog.cellsOf 107=2:=by kernel_rfl
theorem Ig:Tryz.prog.cellsOf 62=2:=by kernel_rfl
theorem IE:Tryz.prog.cellsOf 99=3:=by kernel_rfl
theorem IL:Tryz.prog.cellsOf 36=4:=by kernel_rfl
theorem IM:Tryz.prog.cellsOf 31=1:=by kernel_rfl
theorem IF:Tryz.prog.cellsOf 32=1:=by kernel_rfl
theorem IN:Tryz.prog.cellsOf 33=1:=by kernel_rfl
theorem IP:Tryz.prog.cellsOf 34=1:=by kernel_rfl
theorem IQ:Tryz.prog.cellsOf 60=1:=by kernel_rfl
theorem IS:Tryz.prog.cellsOf 49=1:=by kernel_rfl
theorem IT {n B:Nat} {l:List PV} (h:Typed Tryz.prog B n 57 l):∃x,l=gZ x∧True:=by
 obtain⟨hl,m,rfl,hf⟩:=js h Tryz.underlying57;rw[IC]at hl;match l,hl with
 |[a,b],_ =>
  obtain⟨x,hx⟩:=o5 (piece hf 0 0 3 zx rfl);obtain⟨y,hy⟩:=o5 (piece hf 1 1 3 zx rfl);simp at hx hy;subst hx hy;exact⟨⟨x,y⟩,rfl,trivial⟩
theorem IU {n B:Nat} {l:List PV} (h:Typed Tryz.prog B n 107 l):∃x,l=ke x∧True:=by
 obtain⟨hl,m,rfl,hf⟩:=js h Tryz.underlying107;rw[ID]at hl;match l,hl with
 |[a,b],_ =>
  obtain⟨x,hx⟩:=o5 (piece hf 0 0 3 zx rfl);obtain⟨y,hy⟩:=o5 (piece hf 1 1 3 zx rfl);simp at hx hy;subst hx hy;exact⟨⟨x,y⟩,rfl,trivial⟩
theorem IG {n B:Nat} {l:List PV} (h:Typed Tryz.prog B n 62 l):∃x,l=ff x∧x.terms.length≤B:=by
 obtain⟨hl,m,rfl,hf⟩:=js h Tryz.underlying62;rw[Ig]at hl;match l,hl with
 |[a,b],_ =>
  obtain⟨x,hx,lx,-⟩:=iY (piece hf 0 0 60 IQ rfl) Tryz.underlying60 ID ke (fun _=>True) (fun _ _=>rfl) fun m c _ hc=>IU hc
  obtain⟨y,hy⟩:=o5 (piece hf 1 1 3 zx rfl);simp at hx hy;subst hx hy;exact⟨⟨x,y⟩,rfl,lx⟩
theorem IV {n B:Nat} {l:List PV} (h:Typed Tryz.prog B n 99 l):∃x,l=eU x∧x.least.length≤B:=by
 obtain⟨hl,m,rfl,hf⟩:=js h Tryz.underlying99;rw[IE]at hl;match l,hl with
 |[a,b,c],_ =>
  obtain⟨x,hx⟩:=o5 (piece hf 0 0 3 zx rfl);obtain⟨y,hy⟩:=o5 (piece hf 1 1 3 zx rfl);obtain⟨z,hz,lz,-⟩:=iY (piece hf 2 2 49 IS rfl) Tryz.underlying49 zx cA (fun _=>True) (fun _ _=>rfl) fun m c _ hc=>by
   obtain⟨x,hx⟩:=o5 hc;exact⟨x,hx,trivial⟩
  simp at hx hy hz;subst hx hy hz;exact⟨⟨x,y,z⟩,rfl,lz⟩
theorem IW {B:Nat} (hB:B≤1000000000) {p:PV} (h:pK Tryz.prog B 36 p):∃s,p= .agg [ah s.box,ay s.rows,aI s.graphs,aA s.cases]∧Dv s:=by
 obtain⟨n,l,h',rfl⟩:=Cj h Tryz.underlying36;obtain⟨hl,m,rfl,hf⟩:=js h' Tryz.underlying36;rw[IL]at hl;match l,hl with
 |[a,b,c,d],_ =>
  obtain⟨x0,e0,l0,-⟩:=iY (piece hf 0 0 31 IM rfl) Tryz.underlying31 IC gZ (fun _=>True) (fun _ _=>rfl) fun m c _ hc=>IT hc
  obtain⟨x1,e1,l1,w1⟩:=iY (piece hf 1 1 32 IF rfl) Tryz.underlying32 Ig ff (fun x=>x.terms.length≤B) (fun _ _=>rfl) fun m c _ hc=>IG hc
  obtain⟨x2,e2,l2,w2⟩:=iY (piece hf 2 2 33 IN rfl) Tryz.underlying33 IE eU (fun x=>x.least.length≤B) (fun _ _=>rfl) fun m c _ hc=>IV hc
  obtain⟨x3,e3,l3,w3⟩:=iY (piece hf 3 3 34 IP rfl) Tryz.underlying34 IF sf (fun x=>x.length≤B∧∀r∈x,r.terms.length≤B) (fun _ _=>rfl) fun m c _ hc=>by
   obtain⟨x,e,lx,wx⟩:=iY hc Tryz.underlying32 Ig ff (fun x=>x.terms.length≤B) (fun _ _=>rfl) fun m c _ hc=>IG hc
   exact⟨x,e,lx,wx⟩
  simp at e0 e1 e2 e3;subst e0 e1 e2 e3;exact⟨⟨x0,x1,x2,x3⟩,rfl,by show x0.length≤_;omega,by show x1.length≤_;omega,by show x2.length≤_;omega,by show x3.length≤_;omega,fun x hx=>Nat.le_trans (w1 x hx) hB,fun x hx=>Nat.le_trans (w2 x hx) hB,fun x hx=>Nat.le_trans (w3 x hx).1 hB,fun x hx r hr=>Nat.le_trans ((w3 x hx).2 r hr) hB⟩
end
section
open Rf
def Ih:az:=(⟨_,by conv=>(lhs;reduce;try simp only[ei,Int.cast_ofNat_Int,Int.reduceNegSucc,UInt8.reduceOfNat])⟩:{x // codeOf Tryz.prog 90 (fun _=>false)=some x}).1
theorem Ii:bF Tryz.prog 90 (fun _=>false)=some (Ih,[.t 6],15,true):=by kernel_rfl
def c91:az:=(⟨_,by conv=>(lhs;reduce;try simp only[ei,Int.cast_ofNat_Int,Int.reduceNegSucc,UInt8.reduceOfNat])⟩:{x // codeOf Tryz.prog 91 (fun _=>false)=some x}).1
theorem Ij:bF Tryz.prog 91 (fun _=>false)=some (c91,[.t 4],46,true):=by kernel_rfl
def EH:az:=(⟨_,by conv=>(lhs;reduce;try simp only[ei,Int.cast_ofNat_Int,Int.reduceNegSucc,UInt8.reduceOfNat])⟩:{x // codeOf Tryz.prog 60 (fun _=>false)=some x}).1
theorem Hf:bF Tryz.prog 60 (fun _=>false)=some (EH,[.t 4],46,true):=by kernel_rfl
def Hg:az:=(⟨_,by conv=>(lhs;reduce;try simp only[ei,Int.cast_ofNat_Int,Int.reduceNegSucc,UInt8.reduceOfNat])⟩:{x // codeOf Tryz.prog 61 (fun _=>false)=some x}).1
theorem Ik:bF Tryz.prog 61 (fun _=>false)=some (Hg,[.t 2],21,true):=by kernel_rfl
theorem qR (n lo hi:Int):ai ctx 90 [.int .i64 n,.int .i64 lo,.int .i64 hi] (.bool (aK n lo hi)):=by
 refine af (C:=ctx) (Fn.of Ii rfl) rfl ?_;unfold Ih;repeat' (first
  |((with_reducible first|show aF _|show aO _);simp[vb]<;>omega)
  |exact(rfl:some _=_)
  |(
   fail_if_success refine aV ?_
   refine a7 ?_;repeat1' dsimp only[Ih,go_sem]
   first
   |refine aW ?_ ?_ rfl ?_
   |apply aX
   |apply aY
   |(refine aZ (fun hc=>?_) fun hc=>?_<;>first|(cases hc;done)|(exfalso;simp at hc<;>omega)|(try simp only[bn]at hc;try contradiction))
   |skip))
 rw[iW];rfl
set_option maxHeartbeats 4000000 in
theorem Bk (n : Int) (r : Rw) (hr : r.terms.length ≤ 1000000000) : ai ctx 91 [.agg [av r.terms, .int .i64 r.bound], .int .i64 n] (.bool (ic n r)) := by
  obtain ⟨ts, bd⟩ := r
  unfold ic
  simp only at hr ⊢
  generalize hq : fc n (-1) ts = q
  have f1 := iK ts
  refine af (C := ctx) (Fn.of Ij rfl) rfl ?_
  unfold c91
  repeat' (first
    | ((with_reducible first | show aF _ | show aO _); simp [vb] <;> omega)
    | exact (rfl : some _ = _)
    | (
      fail_if_success refine aV ?_
      refine a7 ?_
      repeat1' dsimp only [c91, av, go_sem]
      first
      | refine aW ?_ ?_ rfl ?_
      | apply aX
      | apply aY
      | (refine aZ (fun hc => ?_) fun hc => ?_ <;> first | (cases hc; done) | (exfalso; simp at hc <;> omega) | (try simp only [bn] at hc; try contradiction))
      | skip))
  refine ek (σ := Nat × Int) (fun s => s.1 ≤ ts.length ∧ fc n s.2 (ts.drop s.1) = q) (fun s => [(1, .pv (.int .i64 n)), (2, .ptr 0 0 0), (5, .pv (.int .i64 s.2)), (6, .pv (.int .i64 s.1))]) (fun _ => [⟨[.pv (av ts), .pv (.int .i64 bd)], 0, 2, 62, false⟩]) (fun s => ts.length - s.1) (0, -1) ⟨Nat.zero_le _, hq⟩ (by (repeat' (first | exact trivial | refine And.intro (by first | rfl | (simp [get, Nat.beq]; done) | (simp [get, Nat.beq]; omega) | (dsimp only [get]; congr 1 <;> first | rfl | omega | (simp; done) | (simp; omega))) ?_))) ⟨[], rfl⟩ (fun _ _ => ⟨Nat.zero_le _, rfl, rfl⟩) fun s hP => ?_
  obtain ⟨k, last⟩ := s
  obtain ⟨p1, p2⟩ := hP
  simp only at p1 p2
  by_cases hlt : k < ts.length
  · have e := cK l8 ts k zm hlt
    rw [eD ts k zm hlt, fc] at p2
    generalize ts.getD k zm = x at *
    have hin := qR x.fac (-1000) 1000
    generalize hq2 : fc n x.cell (ts.drop (k + 1)) = q2 at *
    generalize aK x.fac (-1000) 1000 = qi at *
    repeat' (first
      | ((with_reducible show aF _); first | exact True.intro | (simp only [vb, lb, e, f1, hlt, ke, hin]; and_intros <;> first | omega | (simp <;> omega)))
      | ((with_reducible show aO _); first | exact True.intro | ((try dsimp only [go_sem]); (simp [vb, e, f1, hlt, ke, hin] <;> omega)))
      | exact (rfl : some _ = _)
      | (
        fail_if_success refine aV ?_
        refine dH [(90, fun _ => some (.bool qi))] [(19, { val := some (.pv (.agg [.int .i64 x.cell, .int .i64 x.fac])) })] ?_
        repeat1' dsimp only [c91, av, go_sem]
        first
        | refine aW ?_ ?_ rfl ?_
        | apply aX
        | apply aY
        | (refine aZ (fun hc => ?_) fun hc => ?_ <;> first | (cases hc; done) | (exfalso; (simp at hc <;> omega)) | (try simp only [bn] at hc; try contradiction))
        | skip))
    all_goals first
      | (rw [← p2, show (decide (last < x.cell) && decide (x.cell < n) && decide (x.fac ≠ 0) && qi) = false from by
          rw [Bool.eq_false_iff]
          simp only [ne_eq, Bool.and_eq_true, decide_eq_true_eq]
          rintro ⟨⟨⟨a1, a2⟩, a3⟩, a4⟩
          subst a4
          simp at hc
          omega]; rfl)
      | (
        refine ⟨(k + 1, x.cell), by show ts.length - (k + 1) < ts.length - k; omega, ⟨by show k + 1 ≤ _; omega, ?_⟩, by (repeat' (first | exact trivial | refine And.intro (by first | rfl | (simp [get, Nat.beq]; done) | (simp [get, Nat.beq]; omega) | (dsimp only [get]; congr 1 <;> first | rfl | omega | (simp; done) | (simp; omega))) ?_)), _, rfl⟩
        show fc n x.cell (ts.drop (k + 1)) = q
        obtain ⟨⟨⟨a1, a2⟩, a3⟩, a4⟩ := hc
        rw [hq2, ← p2, show (decide (last < x.cell) && decide (x.cell < n) && decide (x.fac ≠ 0) && qi) = true from by
         simp only [ne_eq, Bool.and_eq_true, decide_eq_true_eq]
         exact ⟨⟨⟨by omega, by omega⟩, a3⟩, a4⟩, Bool.true_and])
  · obtain rfl : k = ts.length := by omega
    rw [List.drop_length, fc] at p2
    subst p2
    have hin := qR bd (-1000000000) 1000000000
    generalize aK bd (-1000000000) 1000000000 = qi at *
    repeat' (first
      | ((with_reducible show aF _); first | exact True.intro | (simp only [vb, lb, hlt, hin]; and_intros <;> first | omega | (simp <;> omega)))
      | ((with_reducible show aO _); first | exact True.intro | ((try dsimp only [go_sem]); (simp [vb, hlt, hin] <;> omega)))
      | exact (rfl : some _ = _)
      | (
        fail_if_success refine aV ?_
        refine iu [(90, fun _ => some (.bool qi))] ?_
        repeat1' dsimp only [c91, av, go_sem]
        first
        | refine aW ?_ ?_ rfl ?_
        | apply aX
        | apply aY
        | (refine aZ (fun hc => ?_) fun hc => ?_ <;> first | (cases hc; done) | (exfalso; (simp at hc <;> omega)) | (try simp only [bn] at hc; try contradiction))
        | skip))
set_option maxHeartbeats 4000000 in
theorem jC (b:List Rg) (l:List Rw) (hb:b.length≤1000000000) (hl:l.length≤1000000000) (ht:∀r∈l,r.terms.length≤1000000000):ai ctx 60 [ah b,ay l] (.bool (fV b l)):=by
 have f1:=cz b;have f2:=gT l;unfold fV dF;by_cases h0:b.length≤128
 ·rw[decide_eq_true h0,Bool.and_true];refine af (C:=ctx) (Fn.of Hf rfl) rfl ?_;unfold EH;repeat' (first
   |((with_reducible first|show aF _|show aO _);simp[vb,h0]<;>omega)
   |exact(rfl:some _=_)
   |(
    fail_if_success refine aV ?_
    refine a7 ?_;repeat1' dsimp only[EH,ah,ay,go_sem]
    first
    |refine aW ?_ ?_ rfl ?_
    |apply aX
    |apply aY
    |(refine aZ (fun hc=>?_) fun hc=>?_<;>first|(cases hc;done)|(exfalso;simp[h0]at hc<;>omega)|(try simp only[bn]at hc;try contradiction))
    |skip))
  refine bK b.length (fun k=>(b.take k).all l7=true) (fun k=>[(0,.pv (ah b)),(1,.pv (ay l)),(5,.pv (.int .i64 k))]) (fun _=>[]) rfl (by (repeat' (first|exact trivial|refine And.intro (by first|rfl|(simp[get,Nat.beq];done)|(simp[get,Nat.beq];omega)|(dsimp only[get];congr 1<;>first|rfl|omega|(simp;done)|(simp;omega))) ?_))) ⟨[],rfl⟩ (fun _=>⟨Nat.zero_le _,rfl,rfl⟩) fun k hk hP=>?_
  by_cases hlt:k<b.length
  ·have e1:=sI b k hlt;have e2:(b.flatMap gZ)[k*2+1]?.getD default= .int .i64 (b.getD k zr).hi:=by rw[eo jb b k zr 1 hlt (by omega)];rfl
   have i1:=eK l7 b k zr hlt;have i2:=ky l7 b k zr hlt;rw[i1,hP,Bool.true_and];clear i1;unfold l7 at i2 ⊢;generalize b.getD k zr=x at *;have h1:=qR x.lo (-1000000) 1000000;have h2:=qR x.hi (-1000000) 1000000;generalize aK x.lo (-1000000) 1000000=q1 at *;generalize aK x.hi (-1000000) 1000000=q2 at *;repeat' (first
    |((with_reducible show aF _);first|exact True.intro|(simp only[vb,lb,e1,e2,f1,hlt,h1,h2];and_intros<;>first|omega|(simp<;>omega)))
    |((with_reducible show aO _);first|exact True.intro|((try dsimp only[go_sem]);(simp only[vb,and_true,true_implies];(repeat' (first|(with_reducible assumption)|(with_reducible apply And.intro)|intro _|((fail_if_success (with_reducible show(_:Int)≤_));assumption)))<;>first|omega|(simp only[ab,e1,e2,f1,hlt,h1,h2];done)|(simp_all;done))))
    |exact(rfl:some _=_)
    |(
     fail_if_success refine aV ?_
     refine bI [(20,{val:=some (.pv (.int .i64 x.lo))}),(21,{val:=some (.pv (.bool q1))}),(28,{val:=some (.pv (.int .i64 x.hi))}),(29,{val:=some (.pv (.bool q2))})] ?_;repeat1' dsimp only[EH,ah,ay,go_sem]
     first
     |refine aW ?_ ?_ rfl ?_
     |apply aX
     |apply aY
     |(refine aZ (fun hc=>?_) fun hc=>?_<;>first|(cases hc;done)|(exfalso;(simp at hc<;>omega))|(try simp only[bn]at hc;try contradiction))
     |skip))
   ·rw[i2 (by rcases hc with h|h<;>rw[h]<;>simp)];rfl
   ·exact⟨hlt,by rw[hc.1,hc.2];rfl,by (repeat' (first|exact trivial|refine And.intro (by first|rfl|(simp[get,Nat.beq];done)|(simp[get,Nat.beq];omega)|(dsimp only[get];congr 1<;>first|rfl|omega|(simp;done)|(simp;omega))) ?_)),_,rfl⟩
  ·obtain rfl:k=b.length:=by omega
   rw[List.take_length]at hP;rw[hP,Bool.true_and];repeat' (first
    |((with_reducible show aF _);exact True.intro)
    |((with_reducible show aO _);exact True.intro)
    |exact(rfl:some _=_)
    |(
     fail_if_success refine aV ?_
     refine a7 ?_;repeat1' dsimp only[EH,ah,ay,go_sem]
     first
     |refine aW ?_ ?_ rfl ?_
     |apply aX
     |apply aY
     |(refine aZ (fun hc=>?_) fun hc=>?_<;>first|(cases hc;done)|(exfalso;(simp at hc<;>omega))|(try simp only[bn]at hc;try contradiction))
     |skip))
   refine bK l.length (fun k=>(l.take k).all (ic b.length)=true) (fun k=>[(0,.pv (ah b)),(1,.pv (ay l)),(6,.pv (.int .i64 k))]) (fun _=>[]) rfl (by (repeat' (first|exact trivial|refine And.intro (by first|rfl|(simp[get,Nat.beq];done)|(simp[get,Nat.beq];omega)|(dsimp only[get];congr 1<;>first|rfl|omega|(simp;done)|(simp;omega))) ?_))) ⟨[],rfl⟩ (fun _=>⟨Nat.zero_le _,rfl,rfl⟩) fun k hk hP=>?_
   by_cases hlt:k<l.length
   ·have e:=cK kT l k zw hlt;have i1:=eK (ic b.length) l k zw hlt;have i2:=ky (ic b.length) l k zw hlt;have hx:=Bk b.length (l.getD k zw) (ht _ (aQ hlt));rw[i1,hP,Bool.true_and];clear i1;generalize l.getD k zw=x at *;generalize ic b.length x=qx at *;unfold av at hx;repeat' (first
     |((with_reducible show aF _);first|exact True.intro|(simp only[vb,lb,e,f2,hlt,hx,ff,av];and_intros<;>first|omega|(simp<;>omega)))
     |((with_reducible show aO _);first|exact True.intro|((try dsimp only[go_sem]);(simp[vb,e,f2,hlt,hx,ff,av]<;>omega)))
     |exact(rfl:some _=_)
     |(
      fail_if_success refine aV ?_
      refine dH [(91,fun _=>some (.bool qx))] [(41,{val:=some (.pv (.agg [.sl x.terms.length (x.terms.flatMap ke),.int .i64 x.bound]))})] ?_;repeat1' dsimp only[EH,ah,ay,go_sem]
      first
      |refine aW ?_ ?_ rfl ?_
      |apply aX
      |apply aY
      |(refine aZ (fun hc=>?_) fun hc=>?_<;>first|(cases hc;done)|(exfalso;(simp at hc<;>omega))|(try simp only[bn]at hc;try contradiction))
      |skip))
    ·rw[i2 hc]
    ·exact⟨hlt,hc,by (repeat' (first|exact trivial|refine And.intro (by first|rfl|(simp[get,Nat.beq];done)|(simp[get,Nat.beq];omega)|(dsimp only[get];congr 1<;>first|rfl|omega|(simp;done)|(simp;omega))) ?_)),_,rfl⟩
   ·obtain rfl:k=l.length:=by omega
    rw[List.take_length]at hP;repeat' (first
     |((with_reducible show aF _);exact True.intro)
     |((with_reducible show aO _);exact True.intro)
     |exact(rfl:some _=_)
     |(
      fail_if_success refine aV ?_
      refine a7 ?_;repeat1' dsimp only[EH,ah,ay,go_sem]
      first
      |refine aW ?_ ?_ rfl ?_
      |apply aX
      |apply aY
      |(refine aZ (fun hc=>?_) fun hc=>?_<;>first|(cases hc;done)|(exfalso;(simp at hc<;>omega))|(try simp only[bn]at hc;try contradiction))
      |skip))
    rw[hP]
 ·rw[decide_eq_false h0];refine af (C:=ctx) (Fn.of Hf rfl) rfl ?_;unfold EH;repeat' (first
   |((with_reducible first|show aF _|show aO _);simp[vb,h0]<;>omega)
   |exact(rfl:some _=_)
   |(
    fail_if_success refine aV ?_
    refine a7 ?_;repeat1' dsimp only[EH,ah,ay,go_sem]
    first
    |refine aW ?_ ?_ rfl ?_
    |apply aX
    |apply aY
    |(refine aZ (fun hc=>?_) fun hc=>?_<;>first|(cases hc;done)|(exfalso;simp[h0]at hc<;>omega)|(try simp only[bn]at hc;try contradiction))
    |skip))
  simp
theorem nz (b:List Rg) (hb:b.length≤1000000000):ai ctx 61 [ah b] (.bool (eP b)):=by
 have f1:=cz b;unfold eP;refine af (C:=ctx) (Fn.of Ik rfl) rfl ?_;unfold Hg;repeat' (first
  |((with_reducible first|show aF _|show aO _);simp[vb]<;>omega)
  |exact(rfl:some _=_)
  |(
   fail_if_success refine aV ?_
   refine a7 ?_;repeat1' dsimp only[Hg,ah,go_sem]
   first
   |refine aW ?_ ?_ rfl ?_
   |apply aX
   |apply aY
   |(refine aZ (fun hc=>?_) fun hc=>?_<;>first|(cases hc;done)|(exfalso;simp at hc<;>omega)|(try simp only[bn]at hc;try contradiction))
   |skip))
 refine bK b.length (fun k=>(b.take k).any fw=false) (fun k=>[(0,.pv (ah b)),(3,.pv (.int .i64 k))]) (fun _=>[]) rfl (by (repeat' (first|exact trivial|refine And.intro (by first|rfl|(simp[get,Nat.beq];done)|(simp[get,Nat.beq];omega)|(dsimp only[get];congr 1<;>first|rfl|omega|(simp;done)|(simp;omega))) ?_))) ⟨[],rfl⟩ (fun _=>⟨Nat.zero_le _,rfl,rfl⟩) fun k hk hP=>?_
 by_cases hlt:k<b.length
 ·have e1:=sI b k hlt;have e2:(b.flatMap gZ)[k*2+1]?.getD default= .int .i64 (b.getD k zr).hi:=by rw[eo jb b k zr 1 hlt (by omega)];rfl
  have hm:=aQ (d:=zr) hlt;have i1:=aU b k zr hlt;generalize b.getD k zr=x at *;repeat' (first
   |((with_reducible show aF _);first|exact True.intro|(simp only[vb,lb,e1,e2,f1,hlt];and_intros<;>first|omega|(simp<;>omega)))
   |((with_reducible show aO _);first|exact True.intro|((try dsimp only[go_sem]);(simp only[vb,and_true,true_implies];(repeat' (first|(with_reducible assumption)|(with_reducible apply And.intro)|intro _|((fail_if_success (with_reducible show(_:Int)≤_));assumption)))<;>(simp only[ab,e1,e2,f1,hlt];done))))
   |exact(rfl:some _=_)
   |(
    fail_if_success refine aV ?_
    refine bI [(14,{val:=some (.pv (.int .i64 x.lo))}),(19,{val:=some (.pv (.int .i64 x.hi))})] ?_;repeat1' dsimp only[Hg,ah,go_sem]
    first
    |refine aW ?_ ?_ rfl ?_
    |apply aX
    |apply aY
    |(refine aZ (fun hc=>?_) fun hc=>?_<;>first|(cases hc;done)|(exfalso;(simp at hc<;>omega))|(try simp only[bn]at hc;try contradiction))
    |skip))
  ·rw[List.any_eq_true.mpr ⟨x,hm,by simpa [fw]using hc⟩]
  ·exact⟨hlt,by rw[i1,List.any_append,hP];simpa [fw]using hc,by (repeat' (first|exact trivial|refine And.intro (by first|rfl|(simp[get,Nat.beq];done)|(simp[get,Nat.beq];omega)|(dsimp only[get];congr 1<;>first|rfl|omega|(simp;done)|(simp;omega))) ?_)),_,rfl⟩
 ·obtain rfl:k=b.length:=by omega
  rw[List.take_length]at hP;repeat' (first
   |((with_reducible show aF _);exact True.intro)
   |((with_reducible show aO _);exact True.intro)
   |exact(rfl:some _=_)
   |(
    fail_if_success refine aV ?_
    refine a7 ?_;repeat1' dsimp only[Hg,ah,go_sem]
    first
    |refine aW ?_ ?_ rfl ?_
    |apply aX
    |apply aY
    |(refine aZ (fun hc=>?_) fun hc=>?_<;>first|(cases hc;done)|(exfalso;(simp at hc<;>omega))|(try simp only[bn]at hc;try contradiction))
    |skip))
  rw[hP]
end
section
open Rf
def Bu:az:=(⟨_,by conv=>(lhs;reduce;try simp only[ei,Int.cast_ofNat_Int,Int.reduceNegSucc,UInt8.reduceOfNat])⟩:{x // codeOf Tryz.prog 30 (fun _=>false)=some x}).1
theorem Il:bF Tryz.prog 30 (fun _=>false)=some (Bu,[.t 2],132,true):=by kernel_rfl
def c70:az:=(⟨_,by conv=>(lhs;reduce;try simp only[ei,Int.cast_ofNat_Int,Int.reduceNegSucc,UInt8.reduceOfNat])⟩:{x // codeOf Tryz.prog 70 (fun _=>false)=some x}).1
theorem Gm:bF Tryz.prog 70 (fun _=>false)=some (c70,[.t 2],34,true):=by kernel_rfl
set_option maxHeartbeats 8000000 in
theorem kG (s:Sy) (hs:Dv s):ai ctx 30 [.agg [ah s.box,ay s.rows,aI s.graphs,aA s.cases]] (.bool (ja s)):=by
 have h1:=jC s.box s.rows hs.b hs.r hs.rt;have h2:=nz s.box hs.b;have hcv:=fun l hl=>jC s.box l hs.b (hs.cl l hl) (hs.ct l hl)
 have hgl:=hs.gl;have f1:=qM s.graphs;have f2:=l9 s.cases;have hsg:=hs.g;have hsc:=hs.c;have hsb:=hs.b;have hsr:=hs.r;have e2:ja s=(decide (s.rows.length≤1024)&&decide (s.graphs.length≤64)&&decide (s.cases.length≤1024)&&fV s.box s.rows&& !eP s.box&&s.cases.all (gK s.box)&&s.graphs.all (bS s.box.length)):=by
  rw[ja];cases fV s.box s.rows<;>cases eP s.box<;>cases decide (s.rows.length≤1024)<;>cases decide (s.graphs.length≤64)<;>cases decide (s.cases.length≤1024)<;>cases s.cases.all (gK s.box)<;>cases s.graphs.all (bS s.box.length)<;>rfl
 rw[e2];clear e2;obtain⟨b,rs,gs,cs⟩:=s;simp only at *;clear hs;generalize eP b=q2 at *;generalize fV b rs=q1 at *;unfold ah at h1 h2 hcv;unfold ay at h1 hcv;refine af (C:=ctx) (Fn.of Il rfl) rfl ?_;unfold Bu;repeat' (first
  |((with_reducible show aF _);first|exact True.intro|(simp only[vb,lb,h1,h2];and_intros<;>first|omega|(simp<;>omega)))
  |((with_reducible show aO _);first|exact True.intro|((try dsimp only[go_sem]);(simp[vb,h1,h2]<;>omega)))
  |exact(rfl:some _=_)
  |(
   fail_if_success refine aV ?_
   refine iu [(60,fun _=>some (.bool q1)),(61,fun _=>some (.bool q2))] ?_;repeat1' dsimp only[Bu,ah,ay,aI,aA,go_sem]
   first
   |refine aW ?_ ?_ rfl ?_
   |apply aX
   |apply aY
   |(refine aZ (fun hc=>?_) fun hc=>?_<;>first|(cases hc;done)|(try simp only[bn]at hc;try contradiction))
   |skip))
 ·have hr:(decide (rs.length≤1024)&&decide (gs.length≤64)&&decide (cs.length≤1024)&&q1&& !q2)=false:=by
   rw[Bool.eq_false_iff];simp only[ne_eq,Bool.and_eq_true,decide_eq_true_eq,Bool.not_eq_true'];rintro⟨⟨⟨⟨a,b⟩,c⟩,d⟩,e⟩;subst d e;simp at hc;omega
  rw[hr];rfl
 ·have hr:(decide (rs.length≤1024)&&decide (gs.length≤64)&&decide (cs.length≤1024)&&q1&& !q2)=true:=by
   simp only[Bool.and_eq_true,decide_eq_true_eq,Bool.not_eq_true'];obtain⟨⟨⟨⟨a,b⟩,c⟩,d⟩,e⟩:=hc;exact⟨⟨⟨⟨by omega,by omega⟩,by omega⟩,d⟩,e⟩
  rw[hr,Bool.true_and];clear h1 h2 hc hr;refine bK cs.length (fun k=>(cs.take k).all (gK b)=true) (fun k=>[(1,.ptr 0 0 0),(3,.pv (.int .i64 k))]) (fun _=>[⟨[.pv (ah b),.pv (ay rs),.pv (aI gs),.pv (aA cs)],0,4,36,false⟩]) rfl (by (repeat' (first|exact trivial|refine And.intro (by first|rfl|(simp[get,Nat.beq];done)|(simp[get,Nat.beq];omega)|(dsimp only[get];congr 1<;>first|rfl|omega|(simp;done)|(simp;omega))) ?_))) ⟨_,rfl⟩ (fun _=>⟨Nat.zero_le _,rfl,rfl⟩) fun k hk hP=>?_
  by_cases hlt:k<cs.length
  ·have e:=mh cs k hlt;have i1:=eK (gK b) cs k [] hlt;have i2:=ky (gK b) cs k [] hlt;have hx:=hcv _ (aQ (d:=([]:List Rw)) hlt);rw[i1,hP,Bool.true_and];clear i1 hcv;unfold gK at i2 ⊢;generalize cs.getD k []=x at *;generalize fV b x=qx at *;by_cases hl:x.length≤64
   ·have hl':¬64<(x.length:Int):=by omega
    rw[decide_eq_true hl,Bool.true_and]at i2 ⊢;repeat' (first
     |((with_reducible show aF _);first|exact True.intro|(simp only[vb,lb,e,f2,hlt,hl',hx];and_intros<;>first|omega|(simp<;>omega)))
     |((with_reducible show aO _);first|exact True.intro|((try dsimp only[go_sem]);(simp[vb,e,f2,hlt,hl',hx]<;>omega)))
     |exact(rfl:some _=_)
     |(
      fail_if_success refine aV ?_
      refine dH [(60,fun _=>some (.bool qx))] [(47,{val:=some (.pv (.sl x.length (x.flatMap ff)))}),(49,{val:=some (.pv (.bool false))}),(57,{val:=some (.pv (.sl x.length (x.flatMap ff)))})] ?_;repeat1' dsimp only[Bu,ah,ay,aI,aA,go_sem]
      first
      |refine aW ?_ ?_ rfl ?_
      |apply aX
      |apply aY
      |(refine aZ (fun hc=>?_) fun hc=>?_<;>first|(cases hc;done)|(exfalso;(simp at hc<;>omega))|(try simp only[bn]at hc;try contradiction))
      |skip))
    ·rw[i2 hc];rfl
    ·exact⟨hlt,hc,by (repeat' (first|exact trivial|refine And.intro (by first|rfl|(simp[get,Nat.beq];done)|(simp[get,Nat.beq];omega)|(dsimp only[get];congr 1<;>first|rfl|omega|(simp;done)|(simp;omega))) ?_)),_,rfl⟩
   ·have hl':64<(x.length:Int):=by omega
    rw[decide_eq_false hl,Bool.false_and]at i2 ⊢;repeat' (first
     |((with_reducible show aF _);first|exact True.intro|(simp only[vb,lb,e,f2,hlt,hl',hx];and_intros<;>first|omega|(simp<;>omega)))
     |((with_reducible show aO _);first|exact True.intro|((try dsimp only[go_sem]);(simp[vb,e,f2,hlt,hl',hx]<;>omega)))
     |exact(rfl:some _=_)
     |(
      fail_if_success refine aV ?_
      refine dH [(60,fun _=>some (.bool qx))] [(47,{val:=some (.pv (.sl x.length (x.flatMap ff)))}),(49,{val:=some (.pv (.bool true))}),(57,{val:=some (.pv (.sl x.length (x.flatMap ff)))})] ?_;repeat1' dsimp only[Bu,ah,ay,aI,aA,go_sem]
      first
      |refine aW ?_ ?_ rfl ?_
      |apply aX
      |apply aY
      |(refine aZ (fun hc=>?_) fun hc=>?_<;>first|(cases hc;done)|(exfalso;(simp at hc<;>omega))|(try simp only[bn]at hc;try contradiction))
      |skip))
    rw[i2 rfl];rfl
  ·obtain rfl:k=cs.length:=by omega
   rw[List.take_length]at hP;rw[hP,Bool.true_and];clear hcv hP;repeat' (first
    |((with_reducible show aF _);first|exact True.intro|(simp only[vb,lb,hlt];and_intros<;>first|omega|(simp<;>omega)))
    |((with_reducible show aO _);exact True.intro)
    |exact(rfl:some _=_)
    |(
     fail_if_success refine aV ?_
     refine a7 ?_;repeat1' dsimp only[Bu,ah,ay,aI,aA,go_sem]
     first
     |refine aW ?_ ?_ rfl ?_
     |apply aX
     |apply aY
     |(refine aZ (fun hc=>?_) fun hc=>?_<;>first|(cases hc;done)|(exfalso;(simp at hc<;>omega))|(try simp only[bn]at hc;try contradiction))
     |skip))
   refine bK gs.length (fun k=>(gs.take k).all (bS b.length)=true) (fun k=>[(1,.ptr 0 0 0),(4,.pv (.int .i64 k))]) (fun _=>[⟨[.pv (ah b),.pv (ay rs),.pv (aI gs),.pv (aA cs)],0,4,36,false⟩]) rfl (by (repeat' (first|exact trivial|refine And.intro (by first|rfl|(simp[get,Nat.beq];done)|(simp[get,Nat.beq];omega)|(dsimp only[get];congr 1<;>first|rfl|omega|(simp;done)|(simp;omega))) ?_))) ⟨_,rfl⟩ (fun _=>⟨Nat.zero_le _,rfl,rfl⟩) fun k hk hP=>?_
   by_cases hlt:k<gs.length
   ·have e:=cK oZ gs k zg hlt;have i1:=eK (bS b.length) gs k zg hlt;have i2:=ky (bS b.length) gs k zg hlt;have hle:=hgl _ (aQ (d:=zg) hlt);rw[i1,hP,Bool.true_and];clear i1 hgl;generalize gs.getD k zg=x at *;obtain⟨fi,sz,le⟩:=x;unfold bS at i2 ⊢;simp only at i2 hle ⊢;have f3:=eM le;have e':List.take 3 (List.drop (k*3) (gs.flatMap eU))=[.int .i64 fi,.int .i64 sz,.sl le.length (le.flatMap cA)]:=e;by_cases h:1≤sz∧sz≤6
    ·obtain⟨q1,q2⟩:=nP h.1 h.2;rw[show aK sz 1 6=true by simp[aK,h],Bool.true_and]at i2 ⊢;by_cases h2:0≤fi∧fi≤b.length-sz*sz∧(le.length:Int)=sz*sz
     ·rw[decide_eq_true h2.1,decide_eq_true h2.2.1,decide_eq_true h2.2.2,Bool.true_and,Bool.true_and,Bool.true_and]at i2 ⊢;repeat' (first
       |((with_reducible show aF _);first|exact True.intro|(simp only[vb,lb,e',f1,hlt,h,h2,q1,q2];and_intros<;>first|omega|(simp<;>omega)))
       |((with_reducible show aO _);first|exact True.intro|((try dsimp only[go_sem]);(simp[vb,e',f1,hlt,h,h2,q1,q2]<;>omega)))
       |exact(rfl:some _=_)
       |(
        fail_if_success refine aV ?_
        refine bI [(72,{val:=some (.pv (.agg [.int .i64 fi,.int .i64 sz,.sl le.length (le.flatMap cA)]))})] ?_;repeat1' dsimp only[Bu,ah,ay,aI,aA,go_sem]
        first
        |refine aW ?_ ?_ rfl ?_
        |apply aX
        |apply aY
        |(refine aZ (fun hc=>?_) fun hc=>?_<;>first|(cases hc;done)|(exfalso;(simp at hc<;>omega))|(try simp only[bn]at hc;try contradiction))
        |skip))
      refine bK le.length (fun j=>(le.take j).all gm=true) (fun j=>[(1,.ptr 0 0 0),(4,.pv (.int .i64 k)),(5,.ptr 1 0 0),(6,.pv (.int .i64 j))]) (fun _=>[⟨[.pv (ah b),.pv (ay rs),.pv (aI gs),.pv (aA cs)],0,4,36,false⟩,⟨[.pv (.int .i64 fi),.pv (.int .i64 sz),.pv (aj le)],0,3,99,false⟩]) rfl (by (repeat' (first|exact trivial|refine And.intro (by first|rfl|(simp[get,Nat.beq];done)|(simp[get,Nat.beq];omega)|(dsimp only[get];congr 1<;>first|rfl|omega|(simp;done)|(simp;omega))) ?_))) ⟨_,rfl⟩ (fun _=>⟨Nat.zero_le _,rfl,rfl⟩) fun j hj hP2=>?_
      by_cases hlj:j<le.length
      ·have e3:=je (g:=cA) (fun _=>rfl) le j 0 default hlj;have i3:=eK gm le j 0 hlj;have i4:=ky gm le j 0 hlj;rw[i3,hP2,Bool.true_and];clear i3;generalize le.getD j 0=y at *;repeat' (first
        |((with_reducible show aF _);first|exact True.intro|(simp only[vb,lb,e3,f3,hlj];and_intros<;>first|omega|(simp<;>omega)))
        |((with_reducible show aO _);first|exact True.intro|((try dsimp only[go_sem]);(simp only[vb,and_true,true_implies];(repeat' (first|(with_reducible assumption)|(with_reducible apply And.intro)|intro _|((fail_if_success (with_reducible show(_:Int)≤_));assumption)))<;>first|omega|(simp only[ab,e3,f3,hlj];done)|(simp_all;done))))
        |exact(rfl:some _=_)
        |(
         fail_if_success refine aV ?_
         refine bI [(122,{val:=some (.pv (.int .i64 y))}),(129,{val:=some (.pv (.int .i64 y))})] ?_;repeat1' dsimp only[Bu,ah,ay,aI,aA,aj,go_sem]
         first
         |refine aW ?_ ?_ rfl ?_
         |apply aX
         |apply aY
         |(refine aZ (fun hc=>?_) fun hc=>?_<;>first|(cases hc;done)|(exfalso;(simp at hc<;>omega))|(try simp only[bn]at hc;try contradiction))
         |skip))
       ·rw[i2 (i4 (by
         rw[Bool.eq_false_iff];simp only[gm,aK,ne_eq,Bool.and_eq_true,decide_eq_true_eq];omega))]
       ·exact⟨hlj,by simp only[gm,aK,Bool.and_eq_true,decide_eq_true_eq];omega,by (repeat' (first|exact trivial|refine And.intro (by first|rfl|(simp[get,Nat.beq];done)|(simp[get,Nat.beq];omega)|(dsimp only[get];congr 1<;>first|rfl|omega|(simp;done)|(simp;omega))) ?_)),_,rfl⟩
      ·obtain rfl:j=le.length:=by omega
       rw[List.take_length]at hP2;repeat' (first
        |((with_reducible show aF _);(simp only[vb,lb,hlj];and_intros<;>first|omega|(simp<;>omega)))
        |((with_reducible show aO _);exact True.intro)
        |exact(rfl:some _=_)
        |(
         fail_if_success refine aV ?_
         refine a7 ?_;repeat1' dsimp only[Bu,ah,ay,aI,aA,aj,go_sem]
         first
         |refine aW ?_ ?_ rfl ?_
         |apply aX
         |apply aY
         |(refine aZ (fun hc=>?_) fun hc=>?_<;>first|(cases hc;done)|(exfalso;(simp at hc<;>omega))|(try simp only[bn]at hc;try contradiction))
         |skip))
       exact⟨hlt,hP2,by (repeat' (first|exact trivial|refine And.intro (by first|rfl|(simp[get,Nat.beq];done)|(simp[get,Nat.beq];omega)|(dsimp only[get];congr 1<;>first|rfl|omega|(simp;done)|(simp;omega))) ?_)),_,rfl⟩
     ·have hr:(decide (0≤fi)&&decide (fi≤b.length-sz*sz)&&decide ((le.length:Int)=sz*sz))=false:=by
       rw[Bool.eq_false_iff];simp only[ne_eq,Bool.and_eq_true,decide_eq_true_eq];omega
      rw[hr,Bool.false_and]at i2 ⊢;repeat' (first
       |((with_reducible show aF _);first|exact True.intro|(simp only[vb,lb,e',f1,hlt,h,h2,q1,q2];and_intros<;>first|omega|(simp<;>omega)))
       |((with_reducible show aO _);first|exact True.intro|((try dsimp only[go_sem]);(simp[vb,e',f1,hlt,h,h2,q1,q2]<;>omega)))
       |exact(rfl:some _=_)
       |(
        fail_if_success refine aV ?_
        refine bI [(72,{val:=some (.pv (.agg [.int .i64 fi,.int .i64 sz,.sl le.length (le.flatMap cA)]))})] ?_;repeat1' dsimp only[Bu,ah,ay,aI,aA,go_sem]
        first
        |refine aW ?_ ?_ rfl ?_
        |apply aX
        |apply aY
        |(refine aZ (fun hc=>?_) fun hc=>?_<;>first|(cases hc;done)|(exfalso;(simp at hc<;>omega))|(try simp only[bn]at hc;try contradiction))
        |skip))
      all_goals rw[i2 rfl]
    ·rw[show aK sz 1 6=false by simp[aK];omega]at i2 ⊢;repeat' (first
      |((with_reducible show aF _);first|exact True.intro|(simp only[vb,lb,e',f1,hlt,h];and_intros<;>first|omega|(simp<;>omega)))
      |((with_reducible show aO _);first|exact True.intro|((try dsimp only[go_sem]);(simp[vb,e',f1,hlt,h]<;>omega)))
      |exact(rfl:some _=_)
      |(
       fail_if_success refine aV ?_
       refine bI [(72,{val:=some (.pv (.agg [.int .i64 fi,.int .i64 sz,.sl le.length (le.flatMap cA)]))})] ?_;repeat1' dsimp only[Bu,ah,ay,aI,aA,go_sem]
       first
       |refine aW ?_ ?_ rfl ?_
       |apply aX
       |apply aY
       |(refine aZ (fun hc=>?_) fun hc=>?_<;>first|(cases hc;done)|(exfalso;(simp at hc<;>omega))|(try simp only[bn]at hc;try contradiction))
       |skip))
     all_goals rw[i2 rfl]
   ·obtain rfl:k=gs.length:=by omega
    rw[List.take_length]at hP;rw[hP];repeat' (first
     |((with_reducible show aF _);first|exact True.intro|(simp only[vb,lb,hlt];and_intros<;>first|omega|(simp<;>omega)))
     |((with_reducible show aO _);exact True.intro)
     |exact(rfl:some _=_)
     |(
      fail_if_success refine aV ?_
      refine a7 ?_;repeat1' dsimp only[Bu,ah,ay,aI,aA,go_sem]
      first
      |refine aW ?_ ?_ rfl ?_
      |apply aX
      |apply aY
      |(refine aZ (fun hc=>?_) fun hc=>?_<;>first|(cases hc;done)|(exfalso;(simp at hc<;>omega))|(try simp only[bn]at hc;try contradiction))
      |skip))
def uj:List Rg→Int→Int
 |[],n=>n
 |r::l,n=>uj l (min (n*(r.hi-r.lo+1)) 1073741824)
def qS (b:List Rg):Int:=if dF b=true∧eP b=false then uj b 1 else 0
theorem sN (b:List Rg) (hb:b.length≤1000000000):ai ctx 60 [ah b,.nilsl] (.bool (dF b)):=by
 have h:=jC b [] hb (by simp) (by simp);rw[show fV b []=dF b by simp[fV]]at h;refine ai.og 1 ?_;have e:∀l:List PV,l.map (canon 0)=l:=fun l=>by rw[show canon 0=id from funext fun _=>by simp[canon]];simp
 simpa [canon,ah,ay,e]using h
set_option maxHeartbeats 4000000 in
theorem Bl (b:List Rg) (hb:b.length≤1000000000):ai ctx 70 [ah b] (.int .i64 (qS b)):=by
 have h1:=sN b hb;have h2:=nz b hb;have f1:=cz b;have hbx:=fun (h:dF b=true) k=>kY (ig h k)
 have hem:eP b=false→∀k,k<b.length→(b.getD k zr).lo≤(b.getD k zr).hi:=fun h k hk=>by
  have:=List.any_eq_false.mp h _ (aQ (d:=zr) hk);simpa [fw]using this
 unfold qS;unfold ah at h1 h2;generalize dF b=q1 at *;generalize eP b=q2 at *;by_cases hc:q1=true∧q2=false
 ·obtain⟨rfl,rfl⟩:=hc;rw[if_pos ⟨rfl,rfl⟩];generalize hr:uj b 1=r;refine af (C:=ctx) (Fn.of Gm rfl) rfl ?_;unfold c70;repeat' (first
   |((with_reducible show aF _);exact True.intro)
   |((with_reducible show aO _);first|exact True.intro|((try dsimp only[go_sem]);(simp[vb,h1,h2]<;>omega)))
   |exact(rfl:some _=_)
   |(
    fail_if_success refine aV ?_
    refine iu [(60,fun _=>some (.bool true)),(61,fun _=>some (.bool false))] ?_;repeat1' dsimp only[c70,ah,go_sem]
    first
    |refine aW ?_ ?_ rfl ?_
    |apply aX
    |apply aY
    |(refine aZ (fun hc=>?_) fun hc=>?_<;>first|(cases hc;done)|(try simp only[bn]at hc;try contradiction))
    |skip))
  refine ek (σ:=Nat×Int) (fun s=>s.1≤b.length∧uj (b.drop s.1) s.2=r∧0≤s.2∧s.2≤1073741824) (fun s=>[(0,.pv (ah b)),(3,.pv (.int .i64 s.2)),(4,.pv (.int .i64 s.1))]) (fun _=>[]) (fun s=>b.length-s.1) (0,1) ⟨Nat.zero_le _,hr,by decide,by decide⟩ (by (repeat' (first|exact trivial|refine And.intro (by first|rfl|(simp[get,Nat.beq];done)|(simp[get,Nat.beq];omega)|(dsimp only[get];congr 1<;>first|rfl|omega|(simp;done)|(simp;omega))) ?_))) ⟨[],rfl⟩ (fun _ _=>⟨Nat.zero_le _,rfl,rfl⟩) fun s hP=>?_
  obtain⟨k,n⟩:=s;obtain⟨p1,p2,p3,p4⟩:=hP;simp only at p1 p2 p3 p4;by_cases hlt:k<b.length
  ·have e1:=sI b k hlt;have e2:(b.flatMap gZ)[k*2+1]?.getD default= .int .i64 (b.getD k zr).hi:=by rw[eo jb b k zr 1 hlt (by omega)];rfl
   have g1:=hbx rfl k;have g2:=hem rfl k hlt;rw[eD b k zr hlt,uj]at p2;clear hbx hem;generalize b.getD k zr=x at *;obtain⟨d,hd⟩:∃d:Int,x.hi-x.lo+1=d:=⟨_,rfl⟩
   have hm:0≤n*d∧n*d≤1073741824*3000000:=⟨Int.mul_nonneg p3 (by omega),Int.mul_le_mul p4 (by omega) (by omega) (by omega)⟩
   rw[hd]at p2;repeat' (first
    |((with_reducible show aF _);first|exact True.intro|(simp only[vb,lb,e1,e2,f1,hlt,hd];and_intros<;>first|omega|(simp<;>omega)))
    |((with_reducible show aO _);first|exact True.intro|((try dsimp only[go_sem]);(simp only[vb,and_true,true_implies];(repeat' (first|(with_reducible assumption)|(with_reducible apply And.intro)|intro _|((fail_if_success (with_reducible show(_:Int)≤_));assumption)))<;>(simp only[ab,e1,e2,f1,hlt,hd];done))))
    |exact(rfl:some _=_)
    |(
     fail_if_success refine aV ?_
     refine bI [(23,{val:=some (.pv (.int .i64 x.hi))}),(28,{val:=some (.pv (.int .i64 x.lo))}),(30,{val:=some (.pv (.int .i64 d))})] ?_;repeat1' dsimp only[c70,ah,go_sem]
     first
     |refine aW ?_ ?_ rfl ?_
     |apply aX
     |apply aY
     |(refine aZ (fun hc=>?_) fun hc=>?_<;>first|(cases hc;done)|(exfalso;(simp at hc<;>omega))|(try simp only[bn]at hc;try contradiction))
     |skip))
   rw[fL];exact⟨(k+1,min (n*d) 1073741824),by show b.length-(k+1)<b.length-k;omega,⟨by show k+1≤_;omega,p2,by show 0≤min (n*d) 1073741824;omega,by show min (n*d) 1073741824≤_;omega⟩,by (repeat' (first|exact trivial|refine And.intro (by first|rfl|(simp[get,Nat.beq];done)|(simp[get,Nat.beq];omega)|(dsimp only[get];congr 1<;>first|rfl|omega|(simp;done)|(simp;omega))) ?_)),_,rfl⟩
  ·obtain rfl:k=b.length:=by omega
   rw[List.drop_length,uj]at p2;subst p2;repeat' (first
    |((with_reducible show aF _);exact True.intro)
    |((with_reducible show aO _);exact True.intro)
    |exact(rfl:some _=_)
    |(
     fail_if_success refine aV ?_
     refine a7 ?_;repeat1' dsimp only[c70,ah,go_sem]
     first
     |refine aW ?_ ?_ rfl ?_
     |apply aX
     |apply aY
     |(refine aZ (fun hc=>?_) fun hc=>?_<;>first|(cases hc;done)|(exfalso;(simp at hc<;>omega))|(try simp only[bn]at hc;try contradiction))
     |skip))
 ·rw[if_neg hc];cases q1 with
  |false =>
   refine af (C:=ctx) (Fn.of Gm rfl) rfl ?_;unfold c70;repeat' (first
    |((with_reducible show aF _);exact True.intro)
    |((with_reducible show aO _);first|exact True.intro|((try dsimp only[go_sem]);(simp[vb,h1,h2]<;>omega)))
    |exact(rfl:some _=_)
    |(
     fail_if_success refine aV ?_
     refine iu [(60,fun _=>some (.bool false)),(61,fun _=>some (.bool q2))] ?_;repeat1' dsimp only[c70,ah,go_sem]
     first
     |refine aW ?_ ?_ rfl ?_
     |apply aX
     |apply aY
     |(refine aZ (fun hc=>?_) fun hc=>?_<;>first|(cases hc;done)|(try simp only[bn]at hc;try contradiction))
     |skip))
  |true =>
   cases q2 with
   |false=>exact absurd ⟨rfl,rfl⟩ hc
   |true =>
    refine af (C:=ctx) (Fn.of Gm rfl) rfl ?_;unfold c70;repeat' (first
     |((with_reducible show aF _);exact True.intro)
     |((with_reducible show aO _);first|exact True.intro|((try dsimp only[go_sem]);(simp[vb,h1,h2]<;>omega)))
     |exact(rfl:some _=_)
     |(
      fail_if_success refine aV ?_
      refine iu [(60,fun _=>some (.bool true)),(61,fun _=>some (.bool true))] ?_;repeat1' dsimp only[c70,ah,go_sem]
      first
      |refine aW ?_ ?_ rfl ?_
      |apply aX
      |apply aY
      |(refine aZ (fun hc=>?_) fun hc=>?_<;>first|(cases hc;done)|(try simp only[bn]at hc;try contradiction))
      |skip))
end
section
open Rf
def Hh:az:=(⟨_,by conv=>(lhs;reduce;try simp only[ei,Int.cast_ofNat_Int,Int.reduceNegSucc,UInt8.reduceOfNat])⟩:{x // codeOf Tryz.prog 45 (fun _=>false)=some x}).1
theorem Im:bF Tryz.prog 45 (fun _=>false)=some (Hh,[.t 4],52,true):=by kernel_rfl
def c21:az:=(⟨_,by conv=>(lhs;reduce;try simp only[ei,Int.cast_ofNat_Int,Int.reduceNegSucc,UInt8.reduceOfNat])⟩:{x // codeOf Tryz.prog 21 (fun _=>false)=some x}).1
theorem Hi:bF Tryz.prog 21 (fun _=>false)=some (c21,[.t 4],32,true):=by kernel_rfl
def GB:az:=(⟨_,by conv=>(lhs;reduce;try simp only[ei,Int.cast_ofNat_Int,Int.reduceNegSucc,UInt8.reduceOfNat])⟩:{x // codeOf Tryz.prog 34 (fun d=>Nat.beq d 9)=some x}).1
theorem Io:bF Tryz.prog 34 (fun d=>Nat.beq d 9)=some (GB,[.t 6],31,true):=by kernel_rfl
def EI (s:Sy) (most:Int):Bool:=(((decide (s.box.length≤12)&&decide (s.rows.length≤30))&&decide (s.graphs.length≤6))&&decide (s.cases.length≤12))&&ja s&&s.cases.all (fun l=>decide (l.length≤8))&&decide (qS s.box≤most)
set_option maxHeartbeats 4000000 in
theorem Dd (s:Sy) (hs:Dv s) (most:Int):ai ctx 45 [.agg [ah s.box,ay s.rows,aI s.graphs,aA s.cases],.int .i64 most] (.bool (EI s most)):=by
 have h1:=kG s hs;have h2:=Bl s.box hs.b;have f2:=l9 s.cases;have hb:=hs.b;have hr:=hs.r;have hg:=hs.g;have hc':=hs.c;have hcl:=hs.cl;unfold EI;generalize ja s=q at *;generalize qS s.box=z at *;obtain⟨b,rs,gs,cs⟩:=s;simp only at *;clear hs;unfold ah at h2;unfold ah ay aI aA at h1;refine af (C:=ctx) (Fn.of Im rfl) rfl ?_;unfold Hh;repeat' (first
  |((with_reducible show aF _);first|exact True.intro|(simp only[vb,lb,h1];and_intros<;>first|omega|(simp<;>omega)))
  |((with_reducible show aO _);first|exact True.intro|((try dsimp only[go_sem]);(simp[vb,h1]<;>omega)))
  |exact(rfl:some _=_)
  |(
   fail_if_success refine aV ?_
   refine iu [(30,fun _=>some (.bool q))] ?_;repeat1' dsimp only[Hh,ah,ay,aI,aA,go_sem]
   first
   |refine aW ?_ ?_ rfl ?_
   |apply aX
   |apply aY
   |(refine aZ (fun hc=>?_) fun hc=>?_<;>first|(cases hc;done)|(try simp only[bn]at hc;try contradiction))
   |skip))
 ·have hr:((((decide (b.length≤12)&&decide (rs.length≤30))&&decide (gs.length≤6))&&decide (cs.length≤12))&&q)=false:=by
   rw[Bool.eq_false_iff];simp only[ne_eq,Bool.and_eq_true,decide_eq_true_eq];rintro⟨⟨⟨⟨a,b⟩,c⟩,d⟩,e⟩;subst e;simp at hc;omega
  rw[hr];rfl
 ·have hr:((((decide (b.length≤12)&&decide (rs.length≤30))&&decide (gs.length≤6))&&decide (cs.length≤12))&&q)=true:=by
   simp only[Bool.and_eq_true,decide_eq_true_eq];obtain⟨⟨⟨⟨a,b⟩,c⟩,d⟩,e⟩:=hc;exact⟨⟨⟨⟨by omega,by omega⟩,by omega⟩,by omega⟩,e⟩
  rw[hr,Bool.true_and];refine bK cs.length (fun k=>(cs.take k).all (fun l=>decide (l.length≤8))=true) (fun k=>[(1,.pv (.int .i64 most)),(2,.ptr 0 0 0),(5,.pv (.int .i64 k))]) (fun _=>[⟨[.pv (ah b),.pv (ay rs),.pv (aI gs),.pv (aA cs)],0,4,36,false⟩]) rfl (by (repeat' (first|exact trivial|refine And.intro (by first|rfl|(simp[get,Nat.beq];done)|(simp[get,Nat.beq];omega)|(dsimp only[get];congr 1<;>first|rfl|omega|(simp;done)|(simp;omega))) ?_))) ⟨_,rfl⟩ (fun _=>⟨Nat.zero_le _,rfl,rfl⟩) fun k hk hP=>?_
  by_cases hlt:k<cs.length
  ·have e:=mh cs k hlt;have i1:=eK (fun l:List Rw=>decide (l.length≤8)) cs k [] hlt;have i2:=ky (fun l:List Rw=>decide (l.length≤8)) cs k [] hlt;have hx:=hcl _ (aQ (d:=([]:List Rw)) hlt);rw[i1,hP,Bool.true_and];clear i1 hcl;generalize cs.getD k []=x at *;repeat' (first
    |((with_reducible show aF _);first|exact True.intro|(simp only[vb,lb,e,f2,hlt];and_intros<;>first|omega|(simp<;>omega)))
    |((with_reducible show aO _);first|exact True.intro|((try dsimp only[go_sem]);(simp[vb,e,f2,hlt]<;>omega)))
    |exact(rfl:some _=_)
    |(
     fail_if_success refine aV ?_
     refine bI [(44,{val:=some (.pv (.sl x.length (x.flatMap ff)))})] ?_;repeat1' dsimp only[Hh,ah,ay,aI,aA,go_sem]
     first
     |refine aW ?_ ?_ rfl ?_
     |apply aX
     |apply aY
     |(refine aZ (fun hc=>?_) fun hc=>?_<;>first|(cases hc;done)|(exfalso;(simp at hc<;>omega))|(try simp only[bn]at hc;try contradiction))
     |skip))
   ·rw[i2 (decide_eq_false (by omega))];rfl
   ·exact⟨hlt,decide_eq_true (by omega),by (repeat' (first|exact trivial|refine And.intro (by first|rfl|(simp[get,Nat.beq];done)|(simp[get,Nat.beq];omega)|(dsimp only[get];congr 1<;>first|rfl|omega|(simp;done)|(simp;omega))) ?_)),_,rfl⟩
  ·obtain rfl:k=cs.length:=by omega
   rw[List.take_length]at hP;rw[hP,Bool.true_and];repeat' (first
    |((with_reducible show aF _);first|exact True.intro|(simp only[vb,lb,hlt,h2];and_intros<;>first|omega|(simp<;>omega)))
    |((with_reducible show aO _);first|exact True.intro|((try dsimp only[go_sem]);(simp[vb,hlt,h2]<;>omega)))
    |exact(rfl:some _=_)
    |(
     fail_if_success refine aV ?_
     refine iu [(70,fun _=>some (.int .i64 z))] ?_;repeat1' dsimp only[Hh,ah,ay,aI,aA,go_sem]
     first
     |refine aW ?_ ?_ rfl ?_
     |apply aX
     |apply aY
     |(refine aZ (fun hc=>?_) fun hc=>?_<;>first|(cases hc;done)|(exfalso;(simp at hc<;>omega))|(try simp only[bn]at hc;try contradiction))
     |skip))
def Gn (s:Sy) (most:Int):Bool:=if ja s=true then EI s most else ((decide ((s.box.length:Int)≤20)&&decide ((s.rows.length:Int)≤30))&&decide ((s.graphs.length:Int)≤6))&&decide ((s.cases.length:Int)≤12)
theorem Gp (s:Sy) (hs:Dv s) (most:Int):ai ctx 21 [.agg [ah s.box,ay s.rows,aI s.graphs,aA s.cases],.int .i64 most] (.bool (Gn s most)):=by
 have h1:=kG s hs;have h2:=Dd s hs most;have hb:=hs.b;have hr:=hs.r;have hg:=hs.g;have hc':=hs.c;unfold Gn;generalize ja s=q at *;generalize EI s most=z at *;obtain⟨b,rs,gs,cs⟩:=s;simp only at *;clear hs;unfold ah ay aI aA at h1 h2;cases q with
 |true =>
  refine af (C:=ctx) (Fn.of Hi rfl) rfl ?_;unfold c21;repeat' (first
   |((with_reducible show aF _);first|exact True.intro|(simp only[vb,lb,h1,h2];and_intros<;>first|omega|(simp<;>omega)))
   |((with_reducible show aO _);first|exact True.intro|((try dsimp only[go_sem]);(simp[vb,h1,h2]<;>omega)))
   |exact(rfl:some _=_)
   |(
    fail_if_success refine aV ?_
    refine iu [(30,fun _=>some (.bool true)),(45,fun _=>some (.bool z))] ?_;repeat1' dsimp only[c21,ah,ay,aI,aA,go_sem]
    first
    |refine aW ?_ ?_ rfl ?_
    |apply aX
    |apply aY
    |(refine aZ (fun hc=>?_) fun hc=>?_<;>first|(cases hc;done)|(try simp only[bn]at hc;try contradiction))
    |skip))
 |false =>
  refine af (C:=ctx) (Fn.of Hi rfl) rfl ?_;unfold c21;repeat' (first
   |((with_reducible show aF _);first|exact True.intro|(simp only[vb,lb,h1];and_intros<;>first|omega|(simp<;>omega)))
   |((with_reducible show aO _);first|exact True.intro|((try dsimp only[go_sem]);(simp[vb,h1]<;>omega)))
   |exact(rfl:some _=_)
   |(
    fail_if_success refine aV ?_
    refine iu [(30,fun _=>some (.bool false))] ?_;repeat1' dsimp only[c21,ah,ay,aI,aA,go_sem]
    first
    |refine aW ?_ ?_ rfl ?_
    |apply aX
    |apply aY
    |(refine aZ (fun hc=>?_) fun hc=>?_<;>first|(cases hc;done)|(try simp only[bn]at hc;try contradiction))
    |skip))
  simp only[iW];rfl
def mu (b:List Rg) (c:Int) (r:Rg):List Rg:=if 0≤c then b.set c.toNat r else b
theorem yI (b:List Rg) (c:Int) (r:Rg) (k:Nat) (h:k<b.length):(mu b c r).take (k+1)=(mu b c r).take k++[if (k:Int)=c then r else b.getD k zr]:=by
 have hl:(mu b c r).length=b.length:=by unfold mu;split<;>simp
 rw[aU _ k zr (by omega)];congr 2;unfold mu;by_cases hc:(k:Int)=c
 ·rw[if_pos hc,if_pos (by omega),←hc,Int.toNat_natCast];simp[List.getD,h]
 ·rw[if_neg hc];split
  ·rw[List.getD,List.getD,List.getElem?_set_ne (by omega)]
  ·rfl
theorem Bm (b:List Rg) (c:Int) (r:Rg):(mu b c r).length=b.length:=by unfold mu;split<;>simp
set_option maxHeartbeats 4000000 in
theorem qT (b:List Rg) (c:Int) (r:Rg) (hb:b.length≤1000000000):ai ctx 34 [ah b,.int .i64 c,.agg [.int .i64 r.lo,.int .i64 r.hi]] (ah (mu b c r)):=by
 have f1:=cz b;have hst:=yI b c r;have hwl:=Bm b c r;generalize mu b c r=w at *;refine af (C:=ctx) (Fn.of Io rfl) rfl ?_;unfold GB;repeat' (first
  |((with_reducible first|show aF _|show aO _);simp[vb]<;>omega)
  |exact(rfl:some _=_)
  |(
   fail_if_success refine aV ?_
   refine a7 ?_;repeat1' dsimp only[GB,ah,go_sem]
   first
   |refine aW ?_ ?_ rfl ?_
   |apply aX
   |apply aY
   |(refine aZ (fun hc=>?_) fun hc=>?_<;>first|(cases hc;done)|(exfalso;simp at hc<;>omega)|(try simp only[bn]at hc;try contradiction))
   |skip))
 refine bK b.length (fun _=>True) (fun k=>[(0,.pv (ah b)),(1,.pv (.int .i64 c)),(5,.ptr 0 0 0),(7,.ref 1 k 0 k),(8,.pv (.int .i64 k))]) (fun k=>[⟨[.pv (.int .i64 r.lo),.pv (.int .i64 r.hi)],0,2,57,false⟩,⟨((w.take k).flatMap gZ).map .pv,k,2,57,false⟩]) trivial (by (repeat' (first|exact trivial|refine And.intro (by first|rfl|(simp[get,Nat.beq];done)|(simp[get,Nat.beq];omega)|(dsimp only[get];congr 1<;>first|rfl|omega|(simp;done)|(simp;omega))) ?_))) ⟨[],rfl⟩ (fun _=>⟨Nat.zero_le _,rfl,by simp[aP,dJ]⟩) fun k hk _=>?_
 by_cases hlt:k<b.length
 ·have e:=cK jb b k zr hlt;have f2:=cz (w.take k);have hl:(w.take k).length=k:=by rw[List.length_take];omega
  have hs:=hst k hlt;rw[hl]at f2;rw[hs];clear hst hs;generalize b.getD k zr=x at *;generalize w.take k=v at *;by_cases hc:(k:Int)=c
  ·rw[if_pos hc];repeat' (first
    |((with_reducible show aF _);first|exact True.intro|(simp only[vb,lb,f1,f2,hlt,hc];and_intros<;>first|omega|(simp<;>omega)))
    |((with_reducible show aO _);first|exact True.intro|((try dsimp only[go_sem]);(simp[vb,f1,f2,hlt,hc]<;>omega)))
    |exact(rfl:some _=_)
    |(
     fail_if_success refine aV ?_
     refine bI [(18,{val:=some (.pv (.bool true))}),(22,{mode:=1})] ?_;repeat1' dsimp only[GB,ah,go_sem]
     first
     |refine aW ?_ ?_ rfl ?_
     |apply aX
     |apply aY
     |(refine aZ (fun hc=>?_) fun hc=>?_<;>first|(cases hc;done)|(exfalso;(simp at hc<;>omega))|(try simp only[bn]at hc;try contradiction))
     |skip))
   exact⟨hlt,trivial,by (repeat' (first|exact trivial|refine And.intro (by first|rfl|(simp[get,Nat.beq];done)|(simp[get,Nat.beq];omega)|(dsimp only[get];congr 1<;>first|rfl|omega|(simp;done)|(simp;omega))) ?_)),[],by simp[List.flatMap_append,gZ]⟩
  ·rw[if_neg hc];repeat' (first
    |((with_reducible show aF _);first|exact True.intro|(simp only[vb,lb,e,f1,f2,hlt,hc,gZ];and_intros<;>first|omega|(simp<;>omega)))
    |((with_reducible show aO _);first|exact True.intro|((try dsimp only[go_sem]);(simp[vb,e,f1,f2,hlt,hc,gZ]<;>omega)))
    |exact(rfl:some _=_)
    |(
     fail_if_success refine aV ?_
     refine bI [(18,{val:=some (.pv (.bool false))}),(27,{val:=some (.pv (.agg [.int .i64 x.lo,.int .i64 x.hi]))}),(29,{mode:=1})] ?_;repeat1' dsimp only[GB,ah,go_sem]
     first
     |refine aW ?_ ?_ rfl ?_
     |apply aX
     |apply aY
     |(refine aZ (fun hc=>?_) fun hc=>?_<;>first|(cases hc;done)|(exfalso;(simp at hc<;>omega))|(try simp only[bn]at hc;try contradiction))
     |skip))
   exact⟨hlt,trivial,by (repeat' (first|exact trivial|refine And.intro (by first|rfl|(simp[get,Nat.beq];done)|(simp[get,Nat.beq];omega)|(dsimp only[get];congr 1<;>first|rfl|omega|(simp;done)|(simp;omega))) ?_)),[],by simp[List.flatMap_append,gZ]⟩
 ·obtain rfl:k=b.length:=by omega
  rw[List.take_of_length_le (by omega)];have f2:=cz w;repeat' (first
   |((with_reducible first|show aF _|show aO _);simp[vb,hlt]<;>omega)
   |exact(rfl:some _=_)
   |(
    fail_if_success refine aV ?_
    refine a7 ?_;repeat1' dsimp only[GB,ah,go_sem]
    first
    |refine aW ?_ ?_ rfl ?_
    |apply aX
    |apply aY
    |(refine aZ (fun hc=>?_) fun hc=>?_<;>first|(cases hc;done)|(exfalso;simp[hlt]at hc<;>omega)|(try simp only[bn]at hc;try contradiction))
    |skip))
  rw[List.take_of_length_le (show w.length≤b.length by omega),←hwl];exact oO rfl rfl rfl (by rw[List.drop_zero,List.take_of_length_le (by simp only[List.length_map];omega)]) (by simp only[List.length_map];omega)
end
section
open Rf
def bC (b:List Rg) (g:Nat):fF:=⟨(b.flatMap gZ).map .pv,g,2,57,false⟩
def eG (s:Sy) (rows:List Rw) (bx:AV) (ch:Bool):List AV:=[.pv (ah s.box),.pv (ay s.rows),.pv (aI s.graphs),.pv (aA s.cases),.pv (ay rows),bx,.pv (.bool ch)]
theorem sO:∀(b:List Rg) (c:Nat) (lo hi:Int),c<b.length→(((b.flatMap gZ).map AV.pv).set (c*2) (.pv (.int .i64 lo))).set (c*2+1) (.pv (.int .i64 hi))=((b.set c ⟨lo,hi⟩).flatMap gZ).map AV.pv
 |[],c,_,_,h=>by simp at h
 |x::r,0,lo,hi,_=>rfl
 |x::r,c+1,lo,hi,h=>by
  have:=sO r c lo hi (by simpa using h);rw[show(c+1)*2=c*2+1+1 by omega];simp only[List.flatMap_cons,gZ,List.cons_append,List.nil_append,List.map_cons,List.set_cons_succ];rw[this]
theorem xg:∀(b:List Rg) (c:Nat) (hi:Int),c<b.length→((b.flatMap gZ).map AV.pv).set (c*2+1) (.pv (.int .i64 hi))=((b.set c ⟨(b.getD c zr).lo,hi⟩).flatMap gZ).map AV.pv
 |[],c,_,h=>by simp at h
 |x::r,0,hi,_=>rfl
 |x::r,c+1,hi,h=>by
  have:=xg r c hi (by simpa using h);rw[show(c+1)*2+1=c*2+1+1+1 by omega];simp only[List.flatMap_cons,gZ,List.cons_append,List.nil_append,List.map_cons,List.set_cons_succ];rw[this];simp
theorem yJ (b:List Rg) (c:Nat) (h:c<b.length):((b.flatMap gZ).map AV.pv)[c*2]?.getD .any= .pv (.int .i64 (b.getD c zr).lo):=by
 have:=eo jb b c zr 0 h (by omega);rw[Nat.add_zero]at this;rw[List.getElem?_map,this];rfl
theorem yK (b:List Rg) (c:Nat) (h:c<b.length):((b.flatMap gZ).map AV.pv)[c*2+1]?.getD .any= .pv (.int .i64 (b.getD c zr).hi):=by
 have:=eo jb b c zr 1 h (by omega);rw[List.getElem?_map,this];rfl
theorem nQ (b:List Rg) (c:Nat) (y:Rg) (h:c<b.length):(b.set c y).getD c zr=y:=by
 simp[List.getD,h]
theorem sP:∀l:List PV,bc (l.map AV.pv)=some l
 |[]=>rfl
 |x::r=>by rw[List.map_cons,bc,sP r]
theorem nA (b:List Rg) (g:Nat):(Nat.beq g g&&(0+b.length*2).ble ((b.flatMap gZ).map AV.pv).length)=true∧bc (((b.flatMap gZ).map AV.pv).take (b.length*2))=some (b.flatMap gZ):=by
 have f:=cz b;refine⟨by simp[f],?_⟩;rw[List.take_of_length_le (by simp[f]),sP]
set_option maxHeartbeats 8000000 in
theorem yL (s:Sy) (rows:List Rw) (b:List Rg) (g:Nat) (ch:Bool) (x:bj) (hx:br x=true) (hk:x.kind=1) (hs:∀q∈s.graphs,bS b.length q=true) (hg:s.graphs.length≤1000000000) (hb:b.length≤1000000000) :
  aL ctx 78 [.agg (eG s rows (.ref 0 g 0 b.length) ch),.pv (dq x)] [bC b g] (.pv (.tup [.bool (de s rows b x).2.1,.bool (de s rows b x).2.2])) [bC (de s rows b x).1 g]:=by
 simp only[br,hk,aK,Bool.and_eq_true,decide_eq_true_eq,if_true]at hx;obtain⟨⟨-,x1,x2⟩,x3,x4⟩:=hx;obtain⟨i,hi⟩:∃i:Nat,x.index=i:=⟨x.index.toNat,by omega⟩
 obtain⟨c,hc⟩:∃c:Nat,x.cell=c:=⟨x.cell.toNat,by omega⟩
 obtain⟨kd,ix,cl⟩:=x;simp only at *;subst hk hi hc;unfold de;simp only[if_true];have f1:=qM s.graphs;have f2:=cz b;obtain⟨hth1,hth2⟩:=nA b g;by_cases h1:i<s.graphs.length
 ·have e1:=cK oZ s.graphs i zg h1;have hgo:=hs _ (aQ (d:=zg) h1);have hcl:=Bi s rows b ch (s.graphs.getD i zg);simp only[show(i:Int)<s.graphs.length from by omega,if_true,Int.toNat_natCast];generalize s.graphs.getD i zg=q at *;have hgo':=hgo;simp only[bS,aK,Bool.and_eq_true,decide_eq_true_eq]at hgo';obtain⟨⟨⟨⟨⟨g1,g2⟩,g3⟩,g4⟩,g5⟩,g6⟩:=hgo';have hsq:=nP g1 g2;by_cases h2:q.first≤c∧(c:Int)<q.first+q.least.length
  ·obtain⟨k,hk⟩:∃k:Nat,(c:Int)-q.first=k:=⟨((c:Int)-q.first).toNat,by omega⟩
   have hkl:k<q.least.length:=by omega
   have hcb:c<b.length:=by omega
   have hcl:=hcl k hgo hb hkl;simp only[h2,and_self,if_true,hk,Int.toNat_natCast];have e2:=je (g:=cA) (fun _=>rfl) q.least k 0 default hkl;have hlb:gm (q.least.getD k 0)=true:=List.all_eq_true.mp g6 _ (aQ hkl);simp only[gm,aK,Bool.and_eq_true,decide_eq_true_eq]at hlb;have hfc:q.first.toNat+k=c:=by omega
   unfold tc;simp only[hfc];have e3:=yK b c hcb;have e4:=yJ b c hcb;have e5:=fun h=>xg b c h hcb
   have e6:=nQ b c;generalize hy:b.getD c zr=y at *;generalize q.least.getD k 0=lk at *;have f3:=eM q.least;generalize jA q b k=cq at *;cases cq with
   |true =>
    simp only[if_true,eG,dq,aG,bC];refine bz (C:=ctx) (Fn.of sn rfl) rfl (by simp) rfl (by simp[aP,dJ]) ?_;unfold pU;refine bI [(26,{val:=some (.pv (.agg [.int .i64 q.first,.int .i64 q.size,.sl q.least.length (q.least.flatMap cA)]))}),(31,{val:=some (.pv (.int .i64 k))}),(33,{val:=some (.pv (.bool false))}),(39,{val:=some (.pv (.bool false))}),(44,{val:=some (.pv (.bool true)),args:=some [.agg (jQ s rows b ch),.agg [.int .i64 q.first,.int .i64 q.size,aj q.least],.int .i64 k]})] ?_;dsimp only[aI,ah,ay,aA,aj,go_sem]
    try dsimp only[aI,ah,ay,aA,aj,go_sem]
    refine⟨(by first|exact True.intro|(simp only[vb,lb];omega)|(simp only[vb,lb,e1,f1,h1,f3,hk,hkl,eU,aj];and_intros<;>first|omega|(simp<;>omega))|(simp[vb,e1,f1,h1,f3,hk,hkl,eU,aj]<;>omega)),(by first|exact True.intro|((try dsimp only[go_sem]);first|(simp[vb,e1,f1,h1,f3,hk,hkl,eU,aj]<;>omega)|(simp only[vb,and_true,true_implies];(repeat' (first|(with_reducible assumption)|(with_reducible apply And.intro)|intro _|((fail_if_success (with_reducible show(_:Int)≤_));assumption)))<;>first|omega|rfl|(simp only[ab,e1,f1,h1,f3,hk,hkl,eU,aj];done)|(simp[Nat.mul_one,e1,f1,h1,f3,hk,hkl,eU,aj]<;>omega)|(simp_all;done)))),?_⟩
    refine bI [(26,{val:=some (.pv (.agg [.int .i64 q.first,.int .i64 q.size,.sl q.least.length (q.least.flatMap cA)]))}),(31,{val:=some (.pv (.int .i64 k))}),(33,{val:=some (.pv (.bool false))}),(39,{val:=some (.pv (.bool false))}),(44,{val:=some (.pv (.bool true)),args:=some [.agg (jQ s rows b ch),.agg [.int .i64 q.first,.int .i64 q.size,aj q.least],.int .i64 k]})] ?_;dsimp only[aI,ah,ay,aA,aj,go_sem];try dsimp only[aI,ah,ay,aA,aj,go_sem]
    refine⟨(by simp[vb,e1,f1,h1,f3,hk,hkl,eU,aj]<;>omega),(by simp[vb,e1,f1,h1,f3,hk,hkl,eU,aj]<;>omega),?_⟩;refine bI [(26,{val:=some (.pv (.agg [.int .i64 q.first,.int .i64 q.size,.sl q.least.length (q.least.flatMap cA)]))}),(31,{val:=some (.pv (.int .i64 k))}),(33,{val:=some (.pv (.bool false))}),(39,{val:=some (.pv (.bool false))}),(44,{val:=some (.pv (.bool true)),args:=some [.agg (jQ s rows b ch),.agg [.int .i64 q.first,.int .i64 q.size,aj q.least],.int .i64 k]})] ?_;dsimp only[aI,ah,ay,aA,aj,go_sem];refine⟨fun _=>?_,fun h=>by simp at h<;>omega⟩
    refine bI [(26,{val:=some (.pv (.agg [.int .i64 q.first,.int .i64 q.size,.sl q.least.length (q.least.flatMap cA)]))}),(31,{val:=some (.pv (.int .i64 k))}),(33,{val:=some (.pv (.bool false))}),(39,{val:=some (.pv (.bool false))}),(44,{val:=some (.pv (.bool true)),args:=some [.agg (jQ s rows b ch),.agg [.int .i64 q.first,.int .i64 q.size,aj q.least],.int .i64 k]})] ?_;dsimp only[aI,ah,ay,aA,aj,go_sem];try dsimp only[aI,ah,ay,aA,aj,go_sem]
    refine⟨(by first|exact True.intro|(simp only[vb,lb];omega)|(simp only[vb,lb,e1,f1,h1,f3,hk,hkl,eU,aj];and_intros<;>first|omega|(simp<;>omega))|(simp[vb,e1,f1,h1,f3,hk,hkl,eU,aj]<;>omega)),(by first|exact True.intro|((try dsimp only[go_sem]);first|(simp[vb,e1,f1,h1,f3,hk,hkl,eU,aj]<;>omega)|(simp only[vb,and_true,true_implies];(repeat' (first|(with_reducible assumption)|(with_reducible apply And.intro)|intro _|((fail_if_success (with_reducible show(_:Int)≤_));assumption)))<;>first|omega|rfl|(simp only[ab,e1,f1,h1,f3,hk,hkl,eU,aj];done)|(simp[Nat.mul_one,e1,f1,h1,f3,hk,hkl,eU,aj]<;>omega)|(simp_all;done)))),?_⟩
    refine bI [(26,{val:=some (.pv (.agg [.int .i64 q.first,.int .i64 q.size,.sl q.least.length (q.least.flatMap cA)]))}),(31,{val:=some (.pv (.int .i64 k))}),(33,{val:=some (.pv (.bool false))}),(39,{val:=some (.pv (.bool false))}),(44,{val:=some (.pv (.bool true)),args:=some [.agg (jQ s rows b ch),.agg [.int .i64 q.first,.int .i64 q.size,aj q.least],.int .i64 k]})] ?_;dsimp only[aI,ah,ay,aA,aj,go_sem];refine⟨fun h=>by simp at h<;>omega,fun _=>?_⟩
    refine bI [(26,{val:=some (.pv (.agg [.int .i64 q.first,.int .i64 q.size,.sl q.least.length (q.least.flatMap cA)]))}),(31,{val:=some (.pv (.int .i64 k))}),(33,{val:=some (.pv (.bool false))}),(39,{val:=some (.pv (.bool false))}),(44,{val:=some (.pv (.bool true)),args:=some [.agg (jQ s rows b ch),.agg [.int .i64 q.first,.int .i64 q.size,aj q.least],.int .i64 k]})] ?_;dsimp only[aI,ah,ay,aA,aj,go_sem]
    refine bI [(26,{val:=some (.pv (.agg [.int .i64 q.first,.int .i64 q.size,.sl q.least.length (q.least.flatMap cA)]))}),(31,{val:=some (.pv (.int .i64 k))}),(33,{val:=some (.pv (.bool false))}),(39,{val:=some (.pv (.bool false))}),(44,{val:=some (.pv (.bool true)),args:=some [.agg (jQ s rows b ch),.agg [.int .i64 q.first,.int .i64 q.size,aj q.least],.int .i64 k]})] ?_;dsimp only[aI,ah,ay,aA,aj,go_sem];try dsimp only[aI,ah,ay,aA,aj,go_sem]
    refine⟨(by first|exact True.intro|(simp only[vb,lb];omega)|(simp only[vb,lb,e1,f1,h1,f3,hk,hkl,eU,aj];and_intros<;>first|omega|(simp<;>omega))|(simp[vb,e1,f1,h1,f3,hk,hkl,eU,aj]<;>omega)),(by first|exact True.intro|((try dsimp only[go_sem]);first|(simp[vb,e1,f1,h1,f3,hk,hkl,eU,aj]<;>omega)|(simp only[vb,and_true,true_implies];(repeat' (first|(with_reducible assumption)|(with_reducible apply And.intro)|intro _|((fail_if_success (with_reducible show(_:Int)≤_));assumption)))<;>first|omega|rfl|(simp only[ab,e1,f1,h1,f3,hk,hkl,eU,aj];done)|(simp[Nat.mul_one,e1,f1,h1,f3,hk,hkl,eU,aj]<;>omega)|(simp_all;done)))),?_⟩
    refine bI [(26,{val:=some (.pv (.agg [.int .i64 q.first,.int .i64 q.size,.sl q.least.length (q.least.flatMap cA)]))}),(31,{val:=some (.pv (.int .i64 k))}),(33,{val:=some (.pv (.bool false))}),(39,{val:=some (.pv (.bool false))}),(44,{val:=some (.pv (.bool true)),args:=some [.agg (jQ s rows b ch),.agg [.int .i64 q.first,.int .i64 q.size,aj q.least],.int .i64 k]})] ?_;dsimp only[aI,ah,ay,aA,aj,go_sem];try dsimp only[aI,ah,ay,aA,aj,go_sem]
    refine⟨(by first|exact True.intro|(simp only[vb,lb];omega)|(simp only[vb,lb,e1,f1,h1,f3,hk,hkl,eU,aj];and_intros<;>first|omega|(simp<;>omega))|(simp[vb,e1,f1,h1,f3,hk,hkl,eU,aj]<;>omega)),(by first|exact True.intro|((try dsimp only[go_sem]);first|(simp[vb,e1,f1,h1,f3,hk,hkl,eU,aj]<;>omega)|(simp only[vb,and_true,true_implies];(repeat' (first|(with_reducible assumption)|(with_reducible apply And.intro)|intro _|((fail_if_success (with_reducible show(_:Int)≤_));assumption)))<;>first|omega|rfl|(simp only[ab,e1,f1,h1,f3,hk,hkl,eU,aj];done)|(simp[Nat.mul_one,e1,f1,h1,f3,hk,hkl,eU,aj]<;>omega)|(simp_all;done)))),?_⟩
    refine bI [(26,{val:=some (.pv (.agg [.int .i64 q.first,.int .i64 q.size,.sl q.least.length (q.least.flatMap cA)]))}),(31,{val:=some (.pv (.int .i64 k))}),(33,{val:=some (.pv (.bool false))}),(39,{val:=some (.pv (.bool false))}),(44,{val:=some (.pv (.bool true)),args:=some [.agg (jQ s rows b ch),.agg [.int .i64 q.first,.int .i64 q.size,aj q.least],.int .i64 k]})] ?_;dsimp only[aI,ah,ay,aA,aj,go_sem];try dsimp only[aI,ah,ay,aA,aj,go_sem]
    refine⟨(by first|exact True.intro|(simp only[vb,lb];omega)|(simp only[vb,lb,e1,f1,h1,f3,hk,hkl,eU,aj];and_intros<;>first|omega|(simp<;>omega))|(simp[vb,e1,f1,h1,f3,hk,hkl,eU,aj]<;>omega)),(by first|exact True.intro|((try dsimp only[go_sem]);first|(simp[vb,e1,f1,h1,f3,hk,hkl,eU,aj]<;>omega)|(simp only[vb,and_true,true_implies];(repeat' (first|(with_reducible assumption)|(with_reducible apply And.intro)|intro _|((fail_if_success (with_reducible show(_:Int)≤_));assumption)))<;>first|omega|rfl|(simp only[ab,e1,f1,h1,f3,hk,hkl,eU,aj];done)|(simp[Nat.mul_one,e1,f1,h1,f3,hk,hkl,eU,aj]<;>omega)|(simp_all;done)))),?_⟩
    refine bI [(26,{val:=some (.pv (.agg [.int .i64 q.first,.int .i64 q.size,.sl q.least.length (q.least.flatMap cA)]))}),(31,{val:=some (.pv (.int .i64 k))}),(33,{val:=some (.pv (.bool false))}),(39,{val:=some (.pv (.bool false))}),(44,{val:=some (.pv (.bool true)),args:=some [.agg (jQ s rows b ch),.agg [.int .i64 q.first,.int .i64 q.size,aj q.least],.int .i64 k]})] ?_;dsimp only[aI,ah,ay,aA,aj,go_sem];refine⟨fun h=>by simp at h<;>omega,fun _=>?_⟩
    refine bI [(26,{val:=some (.pv (.agg [.int .i64 q.first,.int .i64 q.size,.sl q.least.length (q.least.flatMap cA)]))}),(31,{val:=some (.pv (.int .i64 k))}),(33,{val:=some (.pv (.bool false))}),(39,{val:=some (.pv (.bool false))}),(44,{val:=some (.pv (.bool true)),args:=some [.agg (jQ s rows b ch),.agg [.int .i64 q.first,.int .i64 q.size,aj q.least],.int .i64 k]})] ?_;dsimp only[aI,ah,ay,aA,aj,go_sem]
    refine bI [(26,{val:=some (.pv (.agg [.int .i64 q.first,.int .i64 q.size,.sl q.least.length (q.least.flatMap cA)]))}),(31,{val:=some (.pv (.int .i64 k))}),(33,{val:=some (.pv (.bool false))}),(39,{val:=some (.pv (.bool false))}),(44,{val:=some (.pv (.bool true)),args:=some [.agg (jQ s rows b ch),.agg [.int .i64 q.first,.int .i64 q.size,aj q.least],.int .i64 k]})] ?_;dsimp only[aI,ah,ay,aA,aj,go_sem];try dsimp only[aI,ah,ay,aA,aj,go_sem]
    refine⟨(by first|exact True.intro|(simp only[vb,lb];omega)|(simp only[vb,lb,e1,f1,h1,f3,hk,hkl,eU,aj];and_intros<;>first|omega|(simp<;>omega))|(simp[vb,e1,f1,h1,f3,hk,hkl,eU,aj]<;>omega)),?_,?_⟩
    ·rw[hth1,cond_true,hth2];exact⟨rfl,hcl,trivial⟩
    refine bI [(55,{val:=some (.pv (.int .i64 y.hi))}),(60,{val:=some (.pv (.int .i64 lk))})] ?_;dsimp only[aI,ah,ay,aA,aj,go_sem];refine⟨fun _=>?_,fun h=>by simp at h<;>omega⟩;refine kQ (T:=[]) (H:=[(55,{val:=some (.pv (.int .i64 y.hi))}),(60,{val:=some (.pv (.int .i64 lk))})]) (by rfl) ?_;dsimp only[eB,aI,ah,ay,aA,aj,go_sem];try dsimp only[aI,ah,ay,aA,aj,go_sem]
    refine⟨(by first|exact True.intro|(simp only[vb,lb];omega)|(simp only[vb,lb,e2,e3,f2,f3,hcb,hkl];and_intros<;>first|omega|(simp<;>omega))|(simp[vb,e2,e3,f2,f3,hcb,hkl]<;>omega)),(by first|exact True.intro|((try dsimp only[go_sem]);first|(simp[vb,e2,e3,f2,f3,hcb,hkl]<;>omega)|(simp only[vb,and_true,true_implies];(repeat' (first|(with_reducible assumption)|(with_reducible apply And.intro)|intro _|((fail_if_success (with_reducible show(_:Int)≤_));assumption)))<;>first|omega|rfl|(simp only[ab,e2,e3,f2,f3,hcb,hkl];done)|(simp[Nat.mul_one,e2,e3,f2,f3,hcb,hkl]<;>omega)|(simp_all;done)))),?_⟩
    rw[show(((b.flatMap gZ).map AV.pv).set (0+(c:Int).toNat*2+1) (.pv (.int .i64 (if lk-1<y.hi then lk-1 else y.hi))))=((b.set c ⟨y.lo,if lk-1<y.hi then lk-1 else y.hi⟩).flatMap gZ).map AV.pv from by rw[←e5];simp];rw[fL];have e7:=yK (b.set c ⟨y.lo,min y.hi (lk-1)⟩) c (by simpa using hcb);have e8:=yJ (b.set c ⟨y.lo,min y.hi (lk-1)⟩) c (by simpa using hcb);have e9:=cz (b.set c ⟨y.lo,min y.hi (lk-1)⟩);rw[e6 _ hcb]at e7 e8;rw[List.length_set]at e9;clear e5 e6;generalize b.set c ⟨y.lo,min y.hi (lk-1)⟩=b2 at *;repeat' (first
     |((with_reducible show aF _);(simp only[vb,lb,e7,e8,e9,hcb];and_intros<;>first|omega|(simp<;>omega)))
     |((with_reducible show aO _);((try dsimp only[go_sem]);(simp only[vb,and_true,true_implies];(repeat' (first|(with_reducible assumption)|(with_reducible apply And.intro)|intro _|((fail_if_success (with_reducible show(_:Int)≤_));assumption)))<;>(simp only[ab,e7,e8,e9,hcb];done))))
     |exact(rfl:some _=_)
     |(
      fail_if_success refine aV ?_
      refine bI [(71,{val:=some (.pv (.int .i64 y.lo))}),(78,{val:=some (.pv (.int .i64 (min y.hi (lk-1))))})] ?_;repeat1' dsimp only[pU,go_sem]
      first
      |refine aW ?_ ?_ rfl ?_
      |apply aX
      |apply aY
      |(refine aZ (fun hc=>?_) fun hc=>?_<;>first|(cases hc;done)|(try simp only[bn]at hc;try contradiction))
      |skip))
    exact⟨⟨trivial,rfl⟩,_,rfl⟩
   |false =>
    simp only[Bool.false_eq_true,if_false,eG,dq,aG,bC];have e7:b.set c y=b:=by
     refine List.ext_getElem? fun j=>?_
     by_cases hj:c=j
     ·subst hj;rw[List.getElem?_set_self hcb,←hy,List.getD,List.getElem?_eq_getElem hcb];rfl
     ·rw[List.getElem?_set_ne hj]
    rw[e7];clear e5 e6 e7;refine bz (C:=ctx) (Fn.of sn rfl) rfl (by simp) rfl (by simp[aP,dJ]) ?_;unfold pU;refine bI [(26,{val:=some (.pv (.agg [.int .i64 q.first,.int .i64 q.size,.sl q.least.length (q.least.flatMap cA)]))}),(31,{val:=some (.pv (.int .i64 k))}),(33,{val:=some (.pv (.bool false))}),(39,{val:=some (.pv (.bool false))}),(44,{val:=some (.pv (.bool false)),args:=some [.agg (jQ s rows b ch),.agg [.int .i64 q.first,.int .i64 q.size,aj q.least],.int .i64 k]})] ?_;dsimp only[aI,ah,ay,aA,aj,go_sem];try dsimp only[aI,ah,ay,aA,aj,go_sem]
    refine⟨(by first|exact True.intro|(simp only[vb,lb];omega)|(simp only[vb,lb,e1,f1,h1,f3,hk,hkl,eU,aj];and_intros<;>first|omega|(simp<;>omega))|(simp[vb,e1,f1,h1,f3,hk,hkl,eU,aj]<;>omega)),(by first|exact True.intro|((try dsimp only[go_sem]);first|(simp[vb,e1,f1,h1,f3,hk,hkl,eU,aj]<;>omega)|(simp only[vb,and_true,true_implies];(repeat' (first|(with_reducible assumption)|(with_reducible apply And.intro)|intro _|((fail_if_success (with_reducible show(_:Int)≤_));assumption)))<;>first|omega|rfl|(simp only[ab,e1,f1,h1,f3,hk,hkl,eU,aj];done)|(simp[Nat.mul_one,e1,f1,h1,f3,hk,hkl,eU,aj]<;>omega)|(simp_all;done)))),?_⟩
    refine bI [(26,{val:=some (.pv (.agg [.int .i64 q.first,.int .i64 q.size,.sl q.least.length (q.least.flatMap cA)]))}),(31,{val:=some (.pv (.int .i64 k))}),(33,{val:=some (.pv (.bool false))}),(39,{val:=some (.pv (.bool false))}),(44,{val:=some (.pv (.bool false)),args:=some [.agg (jQ s rows b ch),.agg [.int .i64 q.first,.int .i64 q.size,aj q.least],.int .i64 k]})] ?_;dsimp only[aI,ah,ay,aA,aj,go_sem];try dsimp only[aI,ah,ay,aA,aj,go_sem]
    refine⟨(by simp[vb,e1,f1,h1,f3,hk,hkl,eU,aj]<;>omega),(by simp[vb,e1,f1,h1,f3,hk,hkl,eU,aj]<;>omega),?_⟩;refine bI [(26,{val:=some (.pv (.agg [.int .i64 q.first,.int .i64 q.size,.sl q.least.length (q.least.flatMap cA)]))}),(31,{val:=some (.pv (.int .i64 k))}),(33,{val:=some (.pv (.bool false))}),(39,{val:=some (.pv (.bool false))}),(44,{val:=some (.pv (.bool false)),args:=some [.agg (jQ s rows b ch),.agg [.int .i64 q.first,.int .i64 q.size,aj q.least],.int .i64 k]})] ?_;dsimp only[aI,ah,ay,aA,aj,go_sem];refine⟨fun _=>?_,fun h=>by simp at h<;>omega⟩
    refine bI [(26,{val:=some (.pv (.agg [.int .i64 q.first,.int .i64 q.size,.sl q.least.length (q.least.flatMap cA)]))}),(31,{val:=some (.pv (.int .i64 k))}),(33,{val:=some (.pv (.bool false))}),(39,{val:=some (.pv (.bool false))}),(44,{val:=some (.pv (.bool false)),args:=some [.agg (jQ s rows b ch),.agg [.int .i64 q.first,.int .i64 q.size,aj q.least],.int .i64 k]})] ?_;dsimp only[aI,ah,ay,aA,aj,go_sem];try dsimp only[aI,ah,ay,aA,aj,go_sem]
    refine⟨(by first|exact True.intro|(simp only[vb,lb];omega)|(simp only[vb,lb,e1,f1,h1,f3,hk,hkl,eU,aj];and_intros<;>first|omega|(simp<;>omega))|(simp[vb,e1,f1,h1,f3,hk,hkl,eU,aj]<;>omega)),(by first|exact True.intro|((try dsimp only[go_sem]);first|(simp[vb,e1,f1,h1,f3,hk,hkl,eU,aj]<;>omega)|(simp only[vb,and_true,true_implies];(repeat' (first|(with_reducible assumption)|(with_reducible apply And.intro)|intro _|((fail_if_success (with_reducible show(_:Int)≤_));assumption)))<;>first|omega|rfl|(simp only[ab,e1,f1,h1,f3,hk,hkl,eU,aj];done)|(simp[Nat.mul_one,e1,f1,h1,f3,hk,hkl,eU,aj]<;>omega)|(simp_all;done)))),?_⟩
    refine bI [(26,{val:=some (.pv (.agg [.int .i64 q.first,.int .i64 q.size,.sl q.least.length (q.least.flatMap cA)]))}),(31,{val:=some (.pv (.int .i64 k))}),(33,{val:=some (.pv (.bool false))}),(39,{val:=some (.pv (.bool false))}),(44,{val:=some (.pv (.bool false)),args:=some [.agg (jQ s rows b ch),.agg [.int .i64 q.first,.int .i64 q.size,aj q.least],.int .i64 k]})] ?_;dsimp only[aI,ah,ay,aA,aj,go_sem];refine⟨fun h=>by simp at h<;>omega,fun _=>?_⟩
    refine bI [(26,{val:=some (.pv (.agg [.int .i64 q.first,.int .i64 q.size,.sl q.least.length (q.least.flatMap cA)]))}),(31,{val:=some (.pv (.int .i64 k))}),(33,{val:=some (.pv (.bool false))}),(39,{val:=some (.pv (.bool false))}),(44,{val:=some (.pv (.bool false)),args:=some [.agg (jQ s rows b ch),.agg [.int .i64 q.first,.int .i64 q.size,aj q.least],.int .i64 k]})] ?_;dsimp only[aI,ah,ay,aA,aj,go_sem]
    refine bI [(26,{val:=some (.pv (.agg [.int .i64 q.first,.int .i64 q.size,.sl q.least.length (q.least.flatMap cA)]))}),(31,{val:=some (.pv (.int .i64 k))}),(33,{val:=some (.pv (.bool false))}),(39,{val:=some (.pv (.bool false))}),(44,{val:=some (.pv (.bool false)),args:=some [.agg (jQ s rows b ch),.agg [.int .i64 q.first,.int .i64 q.size,aj q.least],.int .i64 k]})] ?_;dsimp only[aI,ah,ay,aA,aj,go_sem];try dsimp only[aI,ah,ay,aA,aj,go_sem]
    refine⟨(by first|exact True.intro|(simp only[vb,lb];omega)|(simp only[vb,lb,e1,f1,h1,f3,hk,hkl,eU,aj];and_intros<;>first|omega|(simp<;>omega))|(simp[vb,e1,f1,h1,f3,hk,hkl,eU,aj]<;>omega)),(by first|exact True.intro|((try dsimp only[go_sem]);first|(simp[vb,e1,f1,h1,f3,hk,hkl,eU,aj]<;>omega)|(simp only[vb,and_true,true_implies];(repeat' (first|(with_reducible assumption)|(with_reducible apply And.intro)|intro _|((fail_if_success (with_reducible show(_:Int)≤_));assumption)))<;>first|omega|rfl|(simp only[ab,e1,f1,h1,f3,hk,hkl,eU,aj];done)|(simp[Nat.mul_one,e1,f1,h1,f3,hk,hkl,eU,aj]<;>omega)|(simp_all;done)))),?_⟩
    refine bI [(26,{val:=some (.pv (.agg [.int .i64 q.first,.int .i64 q.size,.sl q.least.length (q.least.flatMap cA)]))}),(31,{val:=some (.pv (.int .i64 k))}),(33,{val:=some (.pv (.bool false))}),(39,{val:=some (.pv (.bool false))}),(44,{val:=some (.pv (.bool false)),args:=some [.agg (jQ s rows b ch),.agg [.int .i64 q.first,.int .i64 q.size,aj q.least],.int .i64 k]})] ?_;dsimp only[aI,ah,ay,aA,aj,go_sem];try dsimp only[aI,ah,ay,aA,aj,go_sem]
    refine⟨(by first|exact True.intro|(simp only[vb,lb];omega)|(simp only[vb,lb,e1,f1,h1,f3,hk,hkl,eU,aj];and_intros<;>first|omega|(simp<;>omega))|(simp[vb,e1,f1,h1,f3,hk,hkl,eU,aj]<;>omega)),(by first|exact True.intro|((try dsimp only[go_sem]);first|(simp[vb,e1,f1,h1,f3,hk,hkl,eU,aj]<;>omega)|(simp only[vb,and_true,true_implies];(repeat' (first|(with_reducible assumption)|(with_reducible apply And.intro)|intro _|((fail_if_success (with_reducible show(_:Int)≤_));assumption)))<;>first|omega|rfl|(simp only[ab,e1,f1,h1,f3,hk,hkl,eU,aj];done)|(simp[Nat.mul_one,e1,f1,h1,f3,hk,hkl,eU,aj]<;>omega)|(simp_all;done)))),?_⟩
    refine bI [(26,{val:=some (.pv (.agg [.int .i64 q.first,.int .i64 q.size,.sl q.least.length (q.least.flatMap cA)]))}),(31,{val:=some (.pv (.int .i64 k))}),(33,{val:=some (.pv (.bool false))}),(39,{val:=some (.pv (.bool false))}),(44,{val:=some (.pv (.bool false)),args:=some [.agg (jQ s rows b ch),.agg [.int .i64 q.first,.int .i64 q.size,aj q.least],.int .i64 k]})] ?_;dsimp only[aI,ah,ay,aA,aj,go_sem];try dsimp only[aI,ah,ay,aA,aj,go_sem]
    refine⟨(by first|exact True.intro|(simp only[vb,lb];omega)|(simp only[vb,lb,e1,f1,h1,f3,hk,hkl,eU,aj];and_intros<;>first|omega|(simp<;>omega))|(simp[vb,e1,f1,h1,f3,hk,hkl,eU,aj]<;>omega)),(by first|exact True.intro|((try dsimp only[go_sem]);first|(simp[vb,e1,f1,h1,f3,hk,hkl,eU,aj]<;>omega)|(simp only[vb,and_true,true_implies];(repeat' (first|(with_reducible assumption)|(with_reducible apply And.intro)|intro _|((fail_if_success (with_reducible show(_:Int)≤_));assumption)))<;>first|omega|rfl|(simp only[ab,e1,f1,h1,f3,hk,hkl,eU,aj];done)|(simp[Nat.mul_one,e1,f1,h1,f3,hk,hkl,eU,aj]<;>omega)|(simp_all;done)))),?_⟩
    refine bI [(26,{val:=some (.pv (.agg [.int .i64 q.first,.int .i64 q.size,.sl q.least.length (q.least.flatMap cA)]))}),(31,{val:=some (.pv (.int .i64 k))}),(33,{val:=some (.pv (.bool false))}),(39,{val:=some (.pv (.bool false))}),(44,{val:=some (.pv (.bool false)),args:=some [.agg (jQ s rows b ch),.agg [.int .i64 q.first,.int .i64 q.size,aj q.least],.int .i64 k]})] ?_;dsimp only[aI,ah,ay,aA,aj,go_sem];refine⟨fun h=>by simp at h<;>omega,fun _=>?_⟩
    refine bI [(26,{val:=some (.pv (.agg [.int .i64 q.first,.int .i64 q.size,.sl q.least.length (q.least.flatMap cA)]))}),(31,{val:=some (.pv (.int .i64 k))}),(33,{val:=some (.pv (.bool false))}),(39,{val:=some (.pv (.bool false))}),(44,{val:=some (.pv (.bool false)),args:=some [.agg (jQ s rows b ch),.agg [.int .i64 q.first,.int .i64 q.size,aj q.least],.int .i64 k]})] ?_;dsimp only[aI,ah,ay,aA,aj,go_sem]
    refine bI [(26,{val:=some (.pv (.agg [.int .i64 q.first,.int .i64 q.size,.sl q.least.length (q.least.flatMap cA)]))}),(31,{val:=some (.pv (.int .i64 k))}),(33,{val:=some (.pv (.bool false))}),(39,{val:=some (.pv (.bool false))}),(44,{val:=some (.pv (.bool false)),args:=some [.agg (jQ s rows b ch),.agg [.int .i64 q.first,.int .i64 q.size,aj q.least],.int .i64 k]})] ?_;dsimp only[aI,ah,ay,aA,aj,go_sem];try dsimp only[aI,ah,ay,aA,aj,go_sem]
    refine⟨(by first|exact True.intro|(simp only[vb,lb];omega)|(simp only[vb,lb,e1,f1,h1,f3,hk,hkl,eU,aj];and_intros<;>first|omega|(simp<;>omega))|(simp[vb,e1,f1,h1,f3,hk,hkl,eU,aj]<;>omega)),?_,?_⟩
    ·rw[hth1,cond_true,hth2];exact⟨rfl,hcl,trivial⟩
    repeat' (first
     |((with_reducible show aF _);(simp only[vb,lb,e3,e4,f2,hcb];and_intros<;>first|omega|(simp<;>omega)))
     |((with_reducible show aO _);((try dsimp only[go_sem]);(simp only[vb,and_true,true_implies];(repeat' (first|(with_reducible assumption)|(with_reducible apply And.intro)|intro _|((fail_if_success (with_reducible show(_:Int)≤_));assumption)))<;>(simp only[ab,e3,e4,f2,hcb];done))))
     |exact(rfl:some _=_)
     |(
      fail_if_success refine aV ?_
      refine bI [(71,{val:=some (.pv (.int .i64 y.lo))}),(78,{val:=some (.pv (.int .i64 y.hi))})] ?_;repeat1' dsimp only[pU,go_sem]
      first
      |refine aW ?_ ?_ rfl ?_
      |apply aX
      |apply aY
      |(refine aZ (fun hc=>?_) fun hc=>?_<;>first|(cases hc;done)|(try simp only[bn]at hc;try contradiction))
      |skip))
    exact⟨⟨trivial,rfl⟩,_,rfl⟩
  ·simp only[h2,if_false];simp only[eG,dq,aG,bC];clear hcl;have f3:=eM q.least;have hql:q.least.length≤36:=by omega
   refine bz (C:=ctx) (Fn.of sn rfl) rfl (by simp) rfl (by simp[aP,dJ]) ?_;unfold pU;refine bI [(26,{val:=some (.pv (.agg [.int .i64 q.first,.int .i64 q.size,.sl q.least.length (q.least.flatMap cA)]))})] ?_;dsimp only[aI,ah,ay,aA,aj,go_sem];try dsimp only[aI,ah,ay,aA,aj,go_sem]
   refine⟨(by first|exact True.intro|(simp only[vb,lb];omega)|(simp only[vb,lb,e1,f1,h1,f3,eU,aj];and_intros<;>first|omega|(simp<;>omega))|(simp[vb,e1,f1,h1,f3,eU,aj]<;>omega)),(by first|exact True.intro|((try dsimp only[go_sem]);first|(simp[vb,e1,f1,h1,f3,eU,aj]<;>omega)|(simp only[vb,and_true,true_implies];(repeat' (first|(with_reducible assumption)|(with_reducible apply And.intro)|intro _|((fail_if_success (with_reducible show(_:Int)≤_));assumption)))<;>first|omega|rfl|(simp only[ab,e1,f1,h1,f3,eU,aj];done)|(simp[Nat.mul_one,e1,f1,h1,f3,eU,aj]<;>omega)|(simp_all;done)))),?_⟩
   refine bI [(26,{val:=some (.pv (.agg [.int .i64 q.first,.int .i64 q.size,.sl q.least.length (q.least.flatMap cA)]))})] ?_;dsimp only[aI,ah,ay,aA,aj,go_sem];try dsimp only[aI,ah,ay,aA,aj,go_sem]
   refine⟨(by simp[vb,e1,f1,h1,f3,eU,aj]<;>omega),(by simp[vb,e1,f1,h1,f3,eU,aj]<;>omega),?_⟩;refine bI [(26,{val:=some (.pv (.agg [.int .i64 q.first,.int .i64 q.size,.sl q.least.length (q.least.flatMap cA)]))})] ?_;dsimp only[aI,ah,ay,aA,aj,go_sem];refine⟨fun _=>?_,fun h=>by simp at h<;>omega⟩;refine bI [(26,{val:=some (.pv (.agg [.int .i64 q.first,.int .i64 q.size,.sl q.least.length (q.least.flatMap cA)]))})] ?_;dsimp only[aI,ah,ay,aA,aj,go_sem];try dsimp only[aI,ah,ay,aA,aj,go_sem]
   refine⟨(by first|exact True.intro|(simp only[vb,lb];omega)|(simp only[vb,lb,e1,f1,h1,f3,eU,aj];and_intros<;>first|omega|(simp<;>omega))|(simp[vb,e1,f1,h1,f3,eU,aj]<;>omega)),(by first|exact True.intro|((try dsimp only[go_sem]);first|(simp[vb,e1,f1,h1,f3,eU,aj]<;>omega)|(simp only[vb,and_true,true_implies];(repeat' (first|(with_reducible assumption)|(with_reducible apply And.intro)|intro _|((fail_if_success (with_reducible show(_:Int)≤_));assumption)))<;>first|omega|rfl|(simp only[ab,e1,f1,h1,f3,eU,aj];done)|(simp[Nat.mul_one,e1,f1,h1,f3,eU,aj]<;>omega)|(simp_all;done)))),?_⟩
   refine bI [(26,{val:=some (.pv (.agg [.int .i64 q.first,.int .i64 q.size,.sl q.least.length (q.least.flatMap cA)]))})] ?_;dsimp only[aI,ah,ay,aA,aj,go_sem];refine⟨fun h=>by simp at h<;>omega,fun _=>?_⟩;refine bI [(26,{val:=some (.pv (.agg [.int .i64 q.first,.int .i64 q.size,.sl q.least.length (q.least.flatMap cA)]))})] ?_;dsimp only[aI,ah,ay,aA,aj,go_sem];refine bI [(26,{val:=some (.pv (.agg [.int .i64 q.first,.int .i64 q.size,.sl q.least.length (q.least.flatMap cA)]))})] ?_;dsimp only[aI,ah,ay,aA,aj,go_sem]
   try dsimp only[aI,ah,ay,aA,aj,go_sem]
   refine⟨(by first|exact True.intro|(simp only[vb,lb];omega)|(simp only[vb,lb,e1,f1,h1,f3,eU,aj];and_intros<;>first|omega|(simp<;>omega))|(simp[vb,e1,f1,h1,f3,eU,aj]<;>omega)),(by first|exact True.intro|((try dsimp only[go_sem]);first|(simp[vb,e1,f1,h1,f3,eU,aj]<;>omega)|(simp only[vb,and_true,true_implies];(repeat' (first|(with_reducible assumption)|(with_reducible apply And.intro)|intro _|((fail_if_success (with_reducible show(_:Int)≤_));assumption)))<;>first|omega|rfl|(simp only[ab,e1,f1,h1,f3,eU,aj];done)|(simp[Nat.mul_one,e1,f1,h1,f3,eU,aj]<;>omega)|(simp_all;done)))),?_⟩
   refine bI [(26,{val:=some (.pv (.agg [.int .i64 q.first,.int .i64 q.size,.sl q.least.length (q.least.flatMap cA)]))})] ?_;dsimp only[aI,ah,ay,aA,aj,go_sem];try dsimp only[aI,ah,ay,aA,aj,go_sem]
   refine⟨(by first|exact True.intro|(simp only[vb,lb];omega)|(simp only[vb,lb,e1,f1,h1,f3,eU,aj];and_intros<;>first|omega|(simp<;>omega))|(simp[vb,e1,f1,h1,f3,eU,aj]<;>omega)),(by first|exact True.intro|((try dsimp only[go_sem]);first|(simp[vb,e1,f1,h1,f3,eU,aj]<;>omega)|(simp only[vb,and_true,true_implies];(repeat' (first|(with_reducible assumption)|(with_reducible apply And.intro)|intro _|((fail_if_success (with_reducible show(_:Int)≤_));assumption)))<;>first|omega|rfl|(simp only[ab,e1,f1,h1,f3,eU,aj];done)|(simp[Nat.mul_one,e1,f1,h1,f3,eU,aj]<;>omega)|(simp_all;done)))),?_⟩
   by_cases h3:(c:Int)-q.first<0
   ·repeat' (first
     |((with_reducible show aF _);exact True.intro)
     |((with_reducible show aO _);first|exact True.intro|((try dsimp only[go_sem]);(simp[vb,h3]<;>omega)))
     |exact(rfl:some _=_)
     |(
      fail_if_success refine aV ?_
      refine bI [(33,{val:=some (.pv (.bool true))})] ?_;repeat1' dsimp only[pU,go_sem]
      first
      |refine aW ?_ ?_ rfl ?_
      |apply aX
      |apply aY
      |(refine aZ (fun hc=>?_) fun hc=>?_<;>first|(cases hc;done)|(try simp only[bn]at hc;try contradiction))
      |skip))
    all_goals exact⟨⟨trivial,rfl⟩,_,rfl⟩
   ·repeat' (first
     |((with_reducible show aF _);exact True.intro)
     |((with_reducible show aO _);first|exact True.intro|((try dsimp only[go_sem]);(simp[vb,h3]<;>omega)))
     |exact(rfl:some _=_)
     |(
      fail_if_success refine aV ?_
      refine bI [(33,{val:=some (.pv (.bool false))}),(39,{val:=some (.pv (.bool true))})] ?_;repeat1' dsimp only[pU,go_sem]
      first
      |refine aW ?_ ?_ rfl ?_
      |apply aX
      |apply aY
      |(refine aZ (fun hc=>?_) fun hc=>?_<;>first|(cases hc;done)|(try simp only[bn]at hc;try contradiction))
      |skip))
    all_goals exact⟨⟨trivial,rfl⟩,_,rfl⟩
 ·simp only[show ¬(i:Int)<s.graphs.length from by omega,if_false];simp only[eG,dq,aG,bC];refine bz (C:=ctx) (Fn.of sn rfl) rfl (by simp) rfl (by simp[aP,dJ]) ?_;unfold pU;repeat' (first
   |((with_reducible show aF _);first|exact True.intro|(simp only[vb,lb,h1];and_intros<;>first|omega|(simp<;>omega)))
   |((with_reducible show aO _);exact True.intro)
   |exact(rfl:some _=_)
   |(
    fail_if_success refine aV ?_
    refine a7 ?_;repeat1' dsimp only[pU,aI,ah,ay,aA,go_sem]
    first
    |refine aW ?_ ?_ rfl ?_
    |apply aX
    |apply aY
    |(refine aZ (fun hc=>?_) fun hc=>?_<;>first|(cases hc;done)|(exfalso;(simp at hc<;>omega))|(try simp only[bn]at hc;try contradiction))
    |skip))
  all_goals exact⟨⟨trivial,rfl⟩,_,rfl⟩
end
section
open Rf
set_option maxHeartbeats 8000000 in
theorem De (s:Sy) (rows:List Rw) (b:List Rg) (g:Nat) (ch:Bool) (x:bj) (hx:br x=true) (hk:x.kind=0) (hr:rows.length≤1000000000) (hrt:∀r∈rows,r.terms.length≤1000000000) (hb:b.length≤1000000000) :
  aL ctx 78 [.agg (eG s rows (.ref 0 g 0 b.length) ch),.pv (dq x)] [bC b g] (.pv (.tup [.bool (de s rows b x).2.1,.bool (de s rows b x).2.2])) [bC (de s rows b x).1 g]:=by
 simp only[br,hk,aK,Bool.and_eq_true,decide_eq_true_eq]at hx;obtain⟨⟨-,x1,x2⟩,x3,x4⟩:=hx;have x3: -1≤x.cell:=by simpa using x3
 obtain⟨i,hi⟩:∃i:Nat,x.index=i:=⟨x.index.toNat,by omega⟩
 obtain⟨kd,ix,cl⟩:=x;simp only at *;subst hk hi;unfold de;rw[if_neg (show ¬(0:Int)=1 by decide)];dsimp only;rw[Int.toNat_natCast];have f1:=gT rows;have f2:=cz b;obtain⟨hth1,hth2⟩:=nA b g;by_cases h1:(i:Int)<rows.length∧cl<b.length
 ·obtain⟨h1,h2⟩:=h1;have h1':i<rows.length:=by omega
  have e1:=cK kT rows i zw h1';have ht:=hrt _ (aQ (d:=zw) h1');have hti:=fun c=>yD b (rows.getD i zw) c hb ht
  rw[if_pos ⟨h1,h2⟩];clear hrt;generalize rows.getD i zw=q at *;by_cases h3:cl<0
  ·rw[if_pos h3];simp only[eG,dq,aG,bC];obtain⟨ts,bd⟩:=q;simp only at *;have f3:=iK ts;refine bz (C:=ctx) (Fn.of sn rfl) rfl (by simp) rfl (by simp[aP,dJ]) ?_;unfold pU;cases ts with
   |nil =>
    repeat' (first
     |((with_reducible show aF _);first|exact True.intro|(simp only[vb,lb,e1,f1,h1,h1',h2,h3,ff,av];and_intros<;>first|omega|(simp<;>omega)))
     |((with_reducible show aO _);first|exact True.intro|((try dsimp only[go_sem]);(simp[vb,e1,f1,h1,h1',h2,h3,ff,av]<;>omega)))
     |exact(rfl:some _=_)
     |(
      fail_if_success refine aV ?_
      refine bI [(99,{val:=some (.pv (.agg [.sl 0 [],.int .i64 bd]))}),(102,{val:=some (.pv (.bool true))})] ?_;repeat1' dsimp only[pU,ay,ah,aI,aA,av,ff,go_sem]
      first
      |refine aW ?_ ?_ rfl ?_
      |apply aX
      |apply aY
      |(refine aZ (fun hc=>?_) fun hc=>?_<;>first|(cases hc;done)|(exfalso;(simp at hc<;>omega))|(try simp only[bn]at hc;try contradiction))
      |skip))
    all_goals exact⟨⟨trivial,by simp⟩,_,rfl⟩
   |cons t0 tr =>
    repeat' (first
     |((with_reducible show aF _);first|exact True.intro|(simp only[vb,lb,e1,f1,h1,h1',h2,h3,ff,av];and_intros<;>first|omega|(simp<;>omega)))
     |((with_reducible show aO _);first|exact True.intro|((try dsimp only[go_sem]);(simp[vb,e1,f1,h1,h1',h2,h3,ff,av]<;>omega)))
     |exact(rfl:some _=_)
     |(
      fail_if_success refine aV ?_
      refine bI [(99,{val:=some (.pv (.agg [.sl (tr.length+1) ((t0::tr).flatMap ke),.int .i64 bd]))}),(102,{val:=some (.pv (.bool true))}),(106,{val:=some (.pv (.bool false))})] ?_;repeat1' dsimp only[pU,ay,ah,aI,aA,av,ff,go_sem]
      first
      |refine aW ?_ ?_ rfl ?_
      |apply aX
      |apply aY
      |(refine aZ (fun hc=>?_) fun hc=>?_<;>first|(cases hc;done)|(exfalso;(simp at hc<;>omega))|(try simp only[bn]at hc;try contradiction))
      |skip))
    all_goals exact⟨⟨trivial,by simp⟩,_,rfl⟩
  ·obtain⟨c,rfl⟩:∃c:Nat,cl=c:=⟨cl.toNat,by omega⟩
   have hcb:c<b.length:=by omega
   rw[if_neg h3];simp only[eG,dq,aG,bC,Int.toNat_natCast];have hti:=hti c;have e5:=fun lo hi=>sO b c lo hi hcb
   have e6:=nQ b c;generalize fu q b c=y at *;unfold av at hti;refine bz (C:=ctx) (Fn.of sn rfl) rfl (by simp) rfl (by simp[aP,dJ]) ?_;unfold pU;refine bI [(85,{val:=some (.pv (.bool false))}),(92,{val:=some (.pv (.bool false))}),(99,{val:=some (.pv (.agg [.sl q.terms.length (q.terms.flatMap ke),.int .i64 q.bound]))}),(102,{val:=some (.pv (.bool false))}),(123,{val:=some (.pv (.agg [.int .i64 y.lo,.int .i64 y.hi])),args:=some [.agg [.sl q.terms.length (q.terms.flatMap ke),.int .i64 q.bound],ah b,.int .i64 c]})] ?_
   dsimp only[ay,ah,aI,aA,av,go_sem];try dsimp only[ay,ah,aI,aA,av,go_sem]
   refine⟨(by first|exact True.intro|(simp only[vb,lb];omega)|(simp only[vb,lb,e1,f1,f2,h1,h1',h2,h3,hcb,ff,av];and_intros<;>first|omega|(simp<;>omega))|(simp[vb,e1,f1,f2,h1,h1',h2,h3,hcb,ff,av]<;>omega)),(by first|exact True.intro|((try dsimp only[go_sem]);first|(simp[vb,e1,f1,f2,h1,h1',h2,h3,hcb,ff,av]<;>omega)|(simp only[vb,and_true,true_implies];(repeat' (first|(with_reducible assumption)|(with_reducible apply And.intro)|intro _|((fail_if_success (with_reducible show(_:Int)≤_));assumption)))<;>first|omega|rfl|(simp only[ab,e1,f1,f2,h1,h1',h2,h3,hcb,ff,av];done)|(simp[Nat.mul_one,e1,f1,f2,h1,h1',h2,h3,hcb,ff,av]<;>omega)|(simp_all;done)))),?_⟩
   iterate 5 first
    |refine⟨fun h=>by simp at h<;>omega,fun _=>?_⟩
    |refine⟨by simp[vb,e1,f1,f2,h1,h1',h2,h3,hcb,ff,av]<;>omega,by simp[vb,e1,f1,f2,h1,h1',h2,h3,hcb,ff,av]<;>omega,?_⟩
    |(refine bI [(85,{val:=some (.pv (.bool false))}),(92,{val:=some (.pv (.bool false))}),(99,{val:=some (.pv (.agg [.sl q.terms.length (q.terms.flatMap ke),.int .i64 q.bound]))}),(102,{val:=some (.pv (.bool false))}),(123,{val:=some (.pv (.agg [.int .i64 y.lo,.int .i64 y.hi])),args:=some [.agg [.sl q.terms.length (q.terms.flatMap ke),.int .i64 q.bound],ah b,.int .i64 c]})] ?_;iterate 2 (try dsimp only[ay,ah,aI,aA,av,go_sem]))
   refine bI [(85,{val:=some (.pv (.bool false))}),(92,{val:=some (.pv (.bool false))}),(99,{val:=some (.pv (.agg [.sl q.terms.length (q.terms.flatMap ke),.int .i64 q.bound]))}),(102,{val:=some (.pv (.bool false))}),(123,{val:=some (.pv (.agg [.int .i64 y.lo,.int .i64 y.hi])),args:=some [.agg [.sl q.terms.length (q.terms.flatMap ke),.int .i64 q.bound],ah b,.int .i64 c]})] ?_;dsimp only[ay,ah,aI,aA,av,go_sem];try dsimp only[ay,ah,aI,aA,av,go_sem]
   refine⟨(by first|exact True.intro|(simp only[vb,lb];omega)|(simp only[vb,lb,e1,f1,f2,h1,h1',h2,h3,hcb,ff,av];and_intros<;>first|omega|(simp<;>omega))|(simp[vb,e1,f1,f2,h1,h1',h2,h3,hcb,ff,av]<;>omega)),(by first|exact True.intro|((try dsimp only[go_sem]);first|(simp[vb,e1,f1,f2,h1,h1',h2,h3,hcb,ff,av]<;>omega)|(simp only[vb,and_true,true_implies];(repeat' (first|(with_reducible assumption)|(with_reducible apply And.intro)|intro _|((fail_if_success (with_reducible show(_:Int)≤_));assumption)))<;>first|omega|rfl|(simp only[ab,e1,f1,f2,h1,h1',h2,h3,hcb,ff,av];done)|(simp[Nat.mul_one,e1,f1,f2,h1,h1',h2,h3,hcb,ff,av]<;>omega)|(simp_all;done)))),?_⟩
   refine bI [(85,{val:=some (.pv (.bool false))}),(92,{val:=some (.pv (.bool false))}),(99,{val:=some (.pv (.agg [.sl q.terms.length (q.terms.flatMap ke),.int .i64 q.bound]))}),(102,{val:=some (.pv (.bool false))}),(123,{val:=some (.pv (.agg [.int .i64 y.lo,.int .i64 y.hi])),args:=some [.agg [.sl q.terms.length (q.terms.flatMap ke),.int .i64 q.bound],ah b,.int .i64 c]})] ?_;dsimp only[ay,ah,aI,aA,av,go_sem];refine⟨fun h=>by simp at h<;>omega,fun _=>?_⟩
   refine bI [(85,{val:=some (.pv (.bool false))}),(92,{val:=some (.pv (.bool false))}),(99,{val:=some (.pv (.agg [.sl q.terms.length (q.terms.flatMap ke),.int .i64 q.bound]))}),(102,{val:=some (.pv (.bool false))}),(123,{val:=some (.pv (.agg [.int .i64 y.lo,.int .i64 y.hi])),args:=some [.agg [.sl q.terms.length (q.terms.flatMap ke),.int .i64 q.bound],ah b,.int .i64 c]})] ?_;dsimp only[ay,ah,aI,aA,av,go_sem]
   refine bI [(85,{val:=some (.pv (.bool false))}),(92,{val:=some (.pv (.bool false))}),(99,{val:=some (.pv (.agg [.sl q.terms.length (q.terms.flatMap ke),.int .i64 q.bound]))}),(102,{val:=some (.pv (.bool false))}),(123,{val:=some (.pv (.agg [.int .i64 y.lo,.int .i64 y.hi])),args:=some [.agg [.sl q.terms.length (q.terms.flatMap ke),.int .i64 q.bound],ah b,.int .i64 c]})] ?_;dsimp only[ay,ah,aI,aA,av,go_sem];try dsimp only[ay,ah,aI,aA,av,go_sem]
   refine⟨(by first|exact True.intro|(simp only[vb,lb];omega)|(simp only[vb,lb,e1,f1,f2,h1,h1',h2,h3,hcb,ff,av];and_intros<;>first|omega|(simp<;>omega))|(simp[vb,e1,f1,f2,h1,h1',h2,h3,hcb,ff,av]<;>omega)),(by first|exact True.intro|((try dsimp only[go_sem]);first|(simp[vb,e1,f1,f2,h1,h1',h2,h3,hcb,ff,av]<;>omega)|(simp only[vb,and_true,true_implies];(repeat' (first|(with_reducible assumption)|(with_reducible apply And.intro)|intro _|((fail_if_success (with_reducible show(_:Int)≤_));assumption)))<;>first|omega|rfl|(simp only[ab,e1,f1,f2,h1,h1',h2,h3,hcb,ff,av];done)|(simp[Nat.mul_one,e1,f1,f2,h1,h1',h2,h3,hcb,ff,av]<;>omega)|(simp_all;done)))),?_⟩
   iterate 5 first
    |refine⟨fun h=>by simp at h<;>omega,fun _=>?_⟩
    |refine⟨by simp[vb,e1,f1,f2,h1,h1',h2,h3,hcb,ff,av]<;>omega,by simp[vb,e1,f1,f2,h1,h1',h2,h3,hcb,ff,av]<;>omega,?_⟩
    |(refine bI [(85,{val:=some (.pv (.bool false))}),(92,{val:=some (.pv (.bool false))}),(99,{val:=some (.pv (.agg [.sl q.terms.length (q.terms.flatMap ke),.int .i64 q.bound]))}),(102,{val:=some (.pv (.bool false))}),(123,{val:=some (.pv (.agg [.int .i64 y.lo,.int .i64 y.hi])),args:=some [.agg [.sl q.terms.length (q.terms.flatMap ke),.int .i64 q.bound],ah b,.int .i64 c]})] ?_;iterate 2 (try dsimp only[ay,ah,aI,aA,av,go_sem]))
   refine bU (kQ (T:=[]) (H:=[(85,{val:=some (.pv (.bool false))}),(92,{val:=some (.pv (.bool false))}),(99,{val:=some (.pv (.agg [.sl q.terms.length (q.terms.flatMap ke),.int .i64 q.bound]))}),(102,{val:=some (.pv (.bool false))}),(123,{val:=some (.pv (.agg [.int .i64 y.lo,.int .i64 y.hi])),args:=some [.agg [.sl q.terms.length (q.terms.flatMap ke),.int .i64 q.bound],ah b,.int .i64 c]})]) (by rfl) ?_);dsimp only[eB,ay,ah,aI,aA,av,go_sem];try dsimp only[ay,ah,aI,aA,av,go_sem]
   refine⟨(by first|exact True.intro|(simp only[vb,lb];omega)|(simp only[vb,lb,e1,f1,f2,h1,h1',h2,h3,hcb,ff,av];and_intros<;>first|omega|(simp<;>omega))|(simp[vb,e1,f1,f2,h1,h1',h2,h3,hcb,ff,av]<;>omega)),?_,?_⟩
   ·rw[hth1,cond_true,hth2];exact⟨rfl,hti,trivial⟩
   rw[show((((b.flatMap gZ).map AV.pv).set (0+(c:Int).toNat*2) (.pv (.int .i64 y.lo))).set (0+(c:Int).toNat*2+1) (.pv (.int .i64 y.hi)))=((b.set c ⟨y.lo,y.hi⟩).flatMap gZ).map AV.pv from by rw[←e5];simp];have e7:=yK (b.set c y) c (by simpa using hcb);have e8:=yJ (b.set c y) c (by simpa using hcb);have e9:=cz (b.set c y);rw[e6 _ hcb]at e7 e8;rw[List.length_set]at e9;rw[show(⟨y.lo,y.hi⟩:Rg)=y from rfl];clear e5 e6;generalize b.set c y=b2 at *;repeat' (first
    |((with_reducible show aF _);(simp only[vb,lb,e7,e8,e9,hcb];and_intros<;>first|omega|(simp<;>omega)))
    |((with_reducible show aO _);((try dsimp only[go_sem]);(simp only[vb,and_true,true_implies];(repeat' (first|(with_reducible assumption)|(with_reducible apply And.intro)|intro _|((fail_if_success (with_reducible show(_:Int)≤_));assumption)))<;>(simp only[ab,e7,e8,e9,hcb];done))))
    |exact(rfl:some _=_)
    |(
     fail_if_success refine aV ?_
     refine bI [(131,{val:=some (.pv (.int .i64 y.lo))}),(138,{val:=some (.pv (.int .i64 y.hi))})] ?_;repeat1' dsimp only[pU,go_sem]
     first
     |refine aW ?_ ?_ rfl ?_
     |apply aX
     |apply aY
     |(refine aZ (fun hc=>?_) fun hc=>?_<;>first|(cases hc;done)|(try simp only[bn]at hc;try contradiction))
     |skip))
   exact⟨⟨trivial,rfl⟩,_,rfl⟩
 ·rw[if_neg h1];simp only[eG,dq,aG,bC];refine bz (C:=ctx) (Fn.of sn rfl) rfl (by simp) rfl (by simp[aP,dJ]) ?_;unfold pU;by_cases h2:(i:Int)<rows.length
  ·repeat' (first
    |((with_reducible show aF _);first|exact True.intro|(simp only[vb,lb,h1,h2];and_intros<;>first|omega|(simp<;>omega)))
    |((with_reducible show aO _);first|exact True.intro|((try dsimp only[go_sem]);(simp[vb,h1,h2]<;>omega)))
    |exact(rfl:some _=_)
    |(
     fail_if_success refine aV ?_
     refine bI [(85,{val:=some (.pv (.bool false))}),(92,{val:=some (.pv (.bool true))})] ?_;repeat1' dsimp only[pU,ay,ah,aI,aA,go_sem]
     first
     |refine aW ?_ ?_ rfl ?_
     |apply aX
     |apply aY
     |(refine aZ (fun hc=>?_) fun hc=>?_<;>first|(cases hc;done)|(try simp only[bn]at hc;try contradiction))
     |skip))
   all_goals exact⟨⟨trivial,rfl⟩,_,rfl⟩
  ·repeat' (first
    |((with_reducible show aF _);first|exact True.intro|(simp only[vb,lb,h2];and_intros<;>first|omega|(simp<;>omega)))
    |((with_reducible show aO _);first|exact True.intro|((try dsimp only[go_sem]);(simp[vb,h2]<;>omega)))
    |exact(rfl:some _=_)
    |(
     fail_if_success refine aV ?_
     refine bI [(85,{val:=some (.pv (.bool true))})] ?_;repeat1' dsimp only[pU,ay,ah,aI,aA,go_sem]
     first
     |refine aW ?_ ?_ rfl ?_
     |apply aX
     |apply aY
     |(refine aZ (fun hc=>?_) fun hc=>?_<;>first|(cases hc;done)|(try simp only[bn]at hc;try contradiction))
     |skip))
   all_goals exact⟨⟨trivial,rfl⟩,_,rfl⟩
theorem EJ (s:Sy) (rows:List Rw) (b:List Rg) (g:Nat) (ch:Bool) (x:bj) (hx:br x=true) (hs:∀q∈s.graphs,bS b.length q=true) (hg:s.graphs.length≤1000000000) (hr:rows.length≤1000000000) (hrt:∀r∈rows,r.terms.length≤1000000000) (hb:b.length≤1000000000) :
  aL ctx 78 [.agg (eG s rows (.ref 0 g 0 b.length) ch),.pv (dq x)] [bC b g] (.pv (.tup [.bool (de s rows b x).2.1,.bool (de s rows b x).2.2])) [bC (de s rows b x).1 g]:=by
 have hx':=hx;simp only[br,aK,Bool.and_eq_true,decide_eq_true_eq]at hx';by_cases hk:x.kind=1
 ·exact yL s rows b g ch x hx hk hs hg hb
 ·exact De s rows b g ch x hx (by omega) hr hrt hb
end
section
open Rf
theorem yM:ai ctx 77 [.sl 0 []] (.sl 0 []):=by
 refine af (C:=ctx) (Fn.of Ec rfl) rfl ?_;unfold GX;refine a7 ?_;dsimp only[go_sem];try dsimp only[go_sem]
 refine⟨(by simp[vb]<;>omega),(by simp[vb]<;>omega),?_⟩;refine xQ 0 rfl ?_ fun ad c=>?_
 ·iterate 6 first
   |refine⟨fun _=>?_,fun h=>by simp at h<;>omega⟩
   |refine⟨by simp[vb]<;>omega,by simp[vb]<;>omega,?_⟩
   |(refine a7 ?_;iterate 2 (try dsimp only[go_sem]))
  refine BJ 2 CW.nil ?_;refine a7 ?_;dsimp only[go_sem];exact⟨(by first|exact True.intro|(simp only[vb,lb];omega)|(simp[vb]<;>omega)),rfl⟩
 ·iterate 7 first
   |refine⟨fun h=>by simp at h<;>omega,fun _=>?_⟩
   |refine⟨by simp[vb]<;>omega,by simp[vb]<;>omega,?_⟩
   |(refine bI [(7,{mode:=2})] ?_;iterate 2 (try dsimp only[go_sem]))
  refine a7 ?_;dsimp only[go_sem];exact⟨(by first|exact True.intro|(simp only[vb,lb];omega)|(simp[vb]<;>omega)),rfl⟩
theorem EK (k:Nat) (cells:List PV) (hk:k≤1000000000) (hc:cells.length=(k+1)*2):aL ctx 77 [.pv (.sl (k+1) cells)] [] (.ref 0 1 0 (k+1)) [⟨cells.map .pv,1,2,57,false⟩]:=by
 refine bz (C:=ctx) (Fn.of Ec rfl) rfl (by simp) rfl (by simp[aP,dJ]) ?_;unfold GX;iterate 9 first
  |refine⟨fun h=>by simp at h<;>omega,fun _=>?_⟩
  |refine⟨by simp[vb]<;>omega,by simp[vb]<;>omega,?_⟩
  |(refine bI [(7,{mode:=1})] ?_;iterate 2 (try dsimp only[go_sem]))
 refine a7 ?_;dsimp only[go_sem];exact⟨⟨trivial,by simp⟩,[],rfl⟩
theorem sQ {cs:List PV} {g z:Nat} {e:TypeId} {f:Bool} (aB:List Nat) (n:Nat):rO aB n ⟨cs.map .pv,g,z,e,f⟩=⟨cs.map .pv,g,z,e,f⟩:=by
 simp[rO,pD,Function.comp_def]
theorem Gq (b:List Rg) (h0:b≠[]) (hl:b.length≤1000000000) (μ:AM):aL ctx 77 [.pv (.sl b.length (b.flatMap gZ))] μ (.ref μ.length 1 0 b.length) (μ++[bC b 1]):=by
 obtain⟨k,hk⟩:∃k,b.length=k+1:=⟨b.length-1,by have:=List.length_pos_iff.mpr h0;omega⟩
 have f:=cz b;unfold bC;rw[hk]at f ⊢;generalize b.flatMap gZ=cs at *;have h:=EK k cs (by omega) f;have:=h.frame [] μ (by simp) (by simp) trivial rfl (by simp[dJ]) (by simp);simpa [pD,oT,xq,sQ]using this
theorem Df (b:List Rg) (g:Nat) (h0:0<b.length) (hl:b.length≤1000000000):aL ctx 77 [.ref 0 g 0 b.length] [bC b g] (.ref 1 1 0 b.length) [bC b g,bC b 1]:=by
 have f:=cz b;refine bz (C:=ctx) (Fn.of Ec rfl) rfl (by simp) rfl (by simp[aP,dJ,bC]) ?_;unfold GX;unfold bC;iterate 7 first
  |refine⟨fun h=>by simp at h<;>omega,fun _=>?_⟩
  |refine⟨by simp[vb,f,h0]<;>omega,by simp[vb,f,h0]<;>omega,?_⟩
  |(refine bI [(7,{mode:=1})] ?_;iterate 2 (try dsimp only[go_sem]))
 refine bI [(7,{mode:=1})] ?_;dsimp only[go_sem];try dsimp only[go_sem]
 refine⟨(by first|exact True.intro|(simp only[vb,lb];omega)|(simp only[vb,lb,f,h0];and_intros<;>first|omega|(simp<;>omega))|(simp[vb,f,h0]<;>omega)),(by first|exact True.intro|((try dsimp only[go_sem]);first|(simp[vb,f,h0]<;>omega)|(simp only[vb,and_true,true_implies];(repeat' (first|(with_reducible assumption)|(with_reducible apply And.intro)|intro _|((fail_if_success (with_reducible show(_:Int)≤_));assumption)))<;>first|omega|rfl|(simp only[ab,f,h0];done)|(simp[Nat.mul_one,f,h0]<;>omega)|(simp_all;done)))),?_⟩;refine a7 ?_;dsimp only[go_sem]
 exact⟨⟨by simp[vb],by simp⟩,[],by simp[f,List.take_of_length_le]⟩
theorem Dg (b:List Rg) (g:Nat) (h0:0<b.length) (hl:b.length≤1000000000) (μ:AM) (j:Nat) (hj:μ[j]?=some (bC b g)):aL ctx 77 [.ref j g 0 b.length] μ (.ref μ.length 1 0 b.length) (μ++[bC b 1]):=by
 have hlt:=(List.getElem?_eq_some_iff.mp hj).1;have h:=(Df b g h0 hl).frame [j] μ (by simp) (by simpa using hlt) ⟨by rw[bC,sQ];exact hj,trivial⟩ (by simp[aP,bC,dJ]) (by simp[dJ,Nat.blt]) (by simp);have h2:μ.set j (bC b g)=μ:=by
  refine List.ext_getElem? fun i=>?_
  by_cases hi:j=i
  ·subst hi;rw[List.getElem?_set_self hlt,hj]
  ·rw[List.getElem?_set_ne hi]
 simp only[bC]at h2 ⊢ h;simpa [pD,oT,xq,sQ,h2]using h
set_option maxHeartbeats 4000000 in
theorem Dh (s:Sy) (rows:List Rw) (ch:Bool) (x:bj) (hx:br x=true) (hs:∀q∈s.graphs,bS 0 q=true) (hr:rows.length≤1000000000) :
  ai ctx 78 [.agg [ah s.box,ay s.rows,aI s.graphs,aA s.cases,ay rows,.sl 0 [],.bool ch],dq x] (.tup [.bool (de s rows [] x).2.1,.bool (de s rows [] x).2.2])∧(de s rows [] x).1=[]:=by
 simp only[br,aK,Bool.and_eq_true,decide_eq_true_eq]at hx;obtain⟨⟨⟨k1,k2⟩,x1,x2⟩,x3,x4⟩:=hx;have x5: -1≤x.cell:=by split at x3<;>omega
 obtain⟨i,hi⟩:∃i:Nat,x.index=i:=⟨x.index.toNat,by omega⟩
 obtain⟨kd,ix,cl⟩:=x;simp only at *;subst hi;have hgn:s.graphs=[]:=by
  cases hg:s.graphs with
  |nil=>rfl
  |cons q r =>
   have:=hs q (by rw[hg];simp);simp only[bS,aK,Bool.and_eq_true,decide_eq_true_eq]at this;have h2:=nP this.1.1.1.1.1 this.1.1.1.1.2;omega
 refine⟨?_,List.eq_nil_of_length_eq_zero (by rw[pN];rfl)⟩;unfold de;rw[hgn];by_cases hk:kd=1
 ·subst hk;rw[if_pos rfl];simp only[List.length_nil];rw[if_neg (by omega)];refine af (C:=ctx) (Fn.of sn rfl) rfl ?_;unfold pU;repeat' (first
   |((with_reducible show aF _);first|exact True.intro|(simp[vb]<;>omega))
   |((with_reducible show aO _);exact True.intro)
   |exact(rfl:some _=_)
   |(
    fail_if_success refine aV ?_
    refine a7 ?_;repeat1' dsimp only[pU,dq,aG,aI,ah,ay,aA,go_sem]
    first
    |refine aW ?_ ?_ rfl ?_
    |apply aX
    |apply aY
    |(refine aZ (fun hc=>?_) fun hc=>?_<;>first|(cases hc;done)|(try simp only[bn]at hc;try contradiction))
    |skip))
 ·obtain rfl:kd=0:=by omega
  rw[if_neg hk];dsimp only;rw[Int.toNat_natCast];by_cases h1:(i:Int)<rows.length∧cl<([]:List Rg).length
  ·have h3:cl<0:=by simpa using h1.2
   rw[if_pos h1,if_pos h3];have h1':i<rows.length:=by omega
   have e1:=cK kT rows i zw h1';have f1:=gT rows;generalize rows.getD i zw=q at *;obtain⟨ts,bd⟩:=q;simp only at *;refine af (C:=ctx) (Fn.of sn rfl) rfl ?_;unfold pU;obtain⟨h1a,h1b⟩:=h1;cases ts with
   |nil =>
    repeat' (first
     |((with_reducible show aF _);first|exact True.intro|(simp only[vb,lb,e1,f1,h1a,h1',h3,ff,av];and_intros<;>first|omega|(simp<;>omega)))
     |((with_reducible show aO _);first|exact True.intro|((try dsimp only[go_sem]);(simp[vb,e1,f1,h1a,h1',h3,ff,av]<;>omega)))
     |exact(rfl:some _=_)
     |(
      fail_if_success refine aV ?_
      refine bI [(99,{val:=some (.pv (.agg [.sl 0 [],.int .i64 bd]))}),(102,{val:=some (.pv (.bool true))})] ?_;repeat1' dsimp only[pU,dq,aG,ay,ah,aI,aA,av,ff,go_sem]
      first
      |refine aW ?_ ?_ rfl ?_
      |apply aX
      |apply aY
      |(refine aZ (fun hc=>?_) fun hc=>?_<;>first|(cases hc;done)|(exfalso;(simp at hc<;>omega))|(try simp only[bn]at hc;try contradiction))
      |skip))
    all_goals simp
   |cons t0 tr =>
    repeat' (first
     |((with_reducible show aF _);first|exact True.intro|(simp only[vb,lb,e1,f1,h1a,h1',h3,ff,av];and_intros<;>first|omega|(simp<;>omega)))
     |((with_reducible show aO _);first|exact True.intro|((try dsimp only[go_sem]);(simp[vb,e1,f1,h1a,h1',h3,ff,av]<;>omega)))
     |exact(rfl:some _=_)
     |(
      fail_if_success refine aV ?_
      refine bI [(99,{val:=some (.pv (.agg [.sl (tr.length+1) ((t0::tr).flatMap ke),.int .i64 bd]))}),(102,{val:=some (.pv (.bool true))}),(106,{val:=some (.pv (.bool false))})] ?_;repeat1' dsimp only[pU,dq,aG,ay,ah,aI,aA,av,ff,go_sem]
      first
      |refine aW ?_ ?_ rfl ?_
      |apply aX
      |apply aY
      |(refine aZ (fun hc=>?_) fun hc=>?_<;>first|(cases hc;done)|(exfalso;(simp at hc<;>omega))|(try simp only[bn]at hc;try contradiction))
      |skip))
    all_goals simp
  ·rw[if_neg h1];refine af (C:=ctx) (Fn.of sn rfl) rfl ?_;unfold pU;by_cases h2:(i:Int)<rows.length
   ·have h3:¬cl<0:=fun h=>h1 ⟨h2,by simpa using h⟩
    repeat' (first
     |((with_reducible show aF _);first|exact True.intro|(simp only[vb,lb,h2,h3];and_intros<;>first|omega|(simp<;>omega)))
     |((with_reducible show aO _);first|exact True.intro|((try dsimp only[go_sem]);(simp[vb,h2,h3]<;>omega)))
     |exact(rfl:some _=_)
     |(
      fail_if_success refine aV ?_
      refine bI [(85,{val:=some (.pv (.bool false))}),(92,{val:=some (.pv (.bool true))})] ?_;repeat1' dsimp only[pU,dq,aG,ay,ah,aI,aA,go_sem]
      first
      |refine aW ?_ ?_ rfl ?_
      |apply aX
      |apply aY
      |(refine aZ (fun hc=>?_) fun hc=>?_<;>first|(cases hc;done)|(try simp only[bn]at hc;try contradiction))
      |skip))
   ·repeat' (first
     |((with_reducible show aF _);first|exact True.intro|(simp only[vb,lb,h2];and_intros<;>first|omega|(simp<;>omega)))
     |((with_reducible show aO _);first|exact True.intro|((try dsimp only[go_sem]);(simp[vb,h2]<;>omega)))
     |exact(rfl:some _=_)
     |(
      fail_if_success refine aV ?_
      refine bI [(85,{val:=some (.pv (.bool true))})] ?_;repeat1' dsimp only[pU,dq,aG,ay,ah,aI,aA,go_sem]
      first
      |refine aW ?_ ?_ rfl ?_
      |apply aX
      |apply aY
      |(refine aZ (fun hc=>?_) fun hc=>?_<;>first|(cases hc;done)|(try simp only[bn]at hc;try contradiction))
      |skip))
end
section
open Rf
def Fq:Nat→Bool:=fun d=>Nat.beq d 59||Nat.beq d 62
def EL:az:=(⟨_,by conv=>(lhs;reduce;try simp only[ei,Int.cast_ofNat_Int,Int.reduceNegSucc,UInt8.reduceOfNat])⟩:{x // codeOf Tryz.prog 47 Fq=some x}).1
theorem Di:bF Tryz.prog 47 Fq=some (EL,[.t 4],144,true):=by kernel_rfl
def eZ (s:Sy) (rows:List Rw) (bx:AV) (ch:Bool):fF:=⟨eG s rows bx ch,0,7,73,false⟩
theorem EM (s:Sy) (rows:List Rw) (b:List Rg) (g:Nat) (ch:Bool) (x:bj) (hx:br x=true) (hs:∀q∈s.graphs,bS b.length q=true) (hg:s.graphs.length≤1000000000) (hr:rows.length≤1000000000) (hrt:∀r∈rows,r.terms.length≤1000000000) (hb:b.length≤1000000000)
  (μ:AM) (j:Nat) (hj:μ[j]?=some (bC b g)) :
  aL ctx 78 [.agg (eG s rows (.ref j g 0 b.length) ch),.pv (dq x)] μ (.pv (.tup [.bool (de s rows b x).2.1,.bool (de s rows b x).2.2])) (μ.set j (bC (de s rows b x).1 g)):=by
 have hlt:=(List.getElem?_eq_some_iff.mp hj).1;have h:=(EJ s rows b g ch x hx hs hg hr hrt hb).frame [j] μ (by simp) (by simpa using hlt) ⟨by rw[bC,sQ];exact hj,trivial⟩ (by simp[aP,bC,dJ]) (by simp[dJ,Nat.blt,eG]) (by simp);generalize de s rows b x=q at *;simp only[bC]at h ⊢;simpa [pD,oT,xq,sQ,eG]using h
structure uk (s:Sy):Prop where
 g:s.graphs.length≤1000000000
 c:s.cases.length≤1000000
 l:∀l∈s.cases,l.length≤1000∧∀r∈l,r.terms.length≤1000000000
def mi (ch:Bool):Nat:=bif ch then 1001000 else 1000000
set_option maxHeartbeats 16000000 in
theorem yN (s:Sy) (hs:uk s):∀(t:Tree),ec t=true→wt t≤1000000000→∀(rows:List Rw) (b:List Rg) (ch:Bool),rows.length≤mi ch→(∀r∈rows,r.terms.length≤1000000000)→b.length≤1000000000→(∀q∈s.graphs,bS b.length q=true) →
  ai ctx 47 [.agg [ah s.box,ay s.rows,aI s.graphs,aA s.cases,ay rows,ah b,.bool ch],aE t] (.bool (bp s t rows b ch)):=by
 refine Tree.ind fun kd st c a l ih hf hw rows b ch hr hrt hb hgo=>?_
 rw[cJ]at hw;have hl:=il l;rw[dO]at hf;simp only[Bool.and_eq_true]at hf;obtain⟨⟨hf1,hf2⟩,hf3⟩:=hf;have hE:=wY b hb;have hr':rows.length≤1001000:=by unfold mi at hr;cases ch<;>simp at hr<;>omega
 rw[oY];have f1:=iv st;have f2:=cz b;generalize eP b=eb at *;cases eb with
 |true =>
  simp only[if_true];unfold ah at hE;refine af (C:=ctx) (Fn.of Di rfl) rfl ?_;unfold EL;repeat' (first
   |((with_reducible show aF _);first|exact True.intro|(simp only[vb,lb,hE];and_intros<;>first|omega|(simp<;>omega)))
   |((with_reducible show aO _);first|exact True.intro|((try dsimp only[go_sem]);(simp[vb,hE]<;>omega)))
   |exact(rfl:some _=_)
   |(
    fail_if_success refine aV ?_
    refine iu [(72,fun _=>some (.bool true))] ?_;repeat1' dsimp only[pT,aE,Tree.kind,Tree.steps,Tree.cell,Tree.pos,Tree.kids,aa,an,ah,ay,aI,aA,go_sem]
    first
    |refine aW ?_ ?_ rfl ?_
    |apply aX
    |apply aY
    |(refine aZ (fun hc=>?_) fun hc=>?_<;>first|(cases hc;done)|(try simp only[bn]at hc;try contradiction))
    |skip))
 |false =>
  simp only[Bool.false_eq_true,if_false];by_cases h0:b=[]
  ·subst h0;have hcn:=yM;have hE:ai ctx 72 [.sl 0 []] (.bool false):=hE;refine af (C:=ctx) (Fn.of Di rfl) rfl ?_;unfold EL;repeat' (first
    |((with_reducible show aF _);first|exact True.intro|(simp only[vb,lb,hE,hcn];and_intros<;>first|omega|(simp<;>omega)))
    |((with_reducible show aO _);first|exact True.intro|((try dsimp only[go_sem]);(simp[vb,hE,hcn]<;>omega)))
    |exact(rfl:some _=_)
    |(
     fail_if_success refine aV ?_
     refine iu [(72,fun _=>some (.bool false)),(77,fun _=>some (.sl 0 []))] ?_;repeat1' dsimp only[pT,aE,eZ,eG,ae,Tree.kind,Tree.steps,Tree.cell,Tree.pos,Tree.kids,aa,an,ah,ay,aI,aA,go_sem]
     first
     |refine aW ?_ ?_ rfl ?_
     |apply aX
     |apply aY
     |(refine aZ (fun hc=>?_) fun hc=>?_<;>first|(cases hc;done)|(try simp only[bn]at hc;try contradiction))
     |skip))
   refine ek (σ:=Nat) (fun q=>q≤st.length∧gp s rows (st.drop q) []=gp s rows st [])
    (fun q=>[(2,.ptr 0 0 0),(3,.ptr 1 0 0),(23,.pv (aa st)),(24,.pv (.int .i64 st.length)),(25,.pv (.int .i64 q))])
    (fun q=>[eZ s rows (.pv (.sl 0 [])) ch,ae (.node kd st c a l)]) (fun q=>st.length-q) 0 ⟨Nat.zero_le _,rfl⟩ (by (repeat' (first|exact trivial|refine And.intro (by first|rfl|(simp[get,Nat.beq];done)|(simp[get,Nat.beq];omega)|(dsimp only[get];congr 1<;>first|rfl|omega|(simp;done)|(simp;omega))) ?_))) ⟨[],rfl⟩ (fun _ _=>⟨Nat.zero_le _,rfl,by simp[aP,eZ,eG,ae,dJ]⟩) fun k hq=>?_
   obtain⟨p1,p3⟩:=hq;by_cases hlt:k<st.length
   ·have e:=cK dN st k zs hlt;have hx:=List.all_eq_true.mp hf1 _ (aQ (d:=zs) hlt);rw[eD st k zs hlt,gp]at p3;generalize st.getD k zs=x at *;obtain⟨hst,hb2⟩:=Dh s rows ch x hx hgo (by omega);generalize de s rows [] x=q at *;obtain⟨b2,pp,cc⟩:=q;simp only at hst hb2 p3;subst hb2;unfold dq ah ay aI aA at hst;simp only[aG]at hst;rw[←p3];cases cc with
    |true =>
     simp only[if_true];repeat' (first
      |((with_reducible show aF _);first|exact True.intro|(simp only[vb,lb,e,f1,hlt,aG,hst];and_intros<;>first|omega|(simp<;>omega)))
      |((with_reducible show aO _);first|exact True.intro|((try dsimp only[go_sem]);(simp[vb,e,f1,hlt,aG,hst]<;>omega)))
      |exact(rfl:some _=_)
      |(
       fail_if_success refine aV ?_
       refine dH [(78,fun _=>some (.tup [.bool pp,.bool true]))] [(28,{val:=some (.pv (.agg [.int .i64 x.kind,.int .i64 x.index,.int .i64 x.cell]))})] ?_;repeat1' dsimp only[pT,eZ,eG,ae,Tree.kind,Tree.steps,Tree.cell,Tree.pos,Tree.kids,aa,an,ah,ay,aI,aA,go_sem]
       first
       |refine aW ?_ ?_ rfl ?_
       |apply aX
       |apply aY
       |(refine aZ (fun hc=>?_) fun hc=>?_<;>first|(cases hc;done)|(exfalso;(simp at hc<;>omega))|(try simp only[bn]at hc;try contradiction))
       |skip))
    |false =>
     simp only[Bool.false_eq_true,if_false];cases pp with
     |false =>
      simp only[Bool.false_eq_true,if_false];repeat' (first
       |((with_reducible show aF _);first|exact True.intro|(simp only[vb,lb,e,f1,hlt,aG,hst];and_intros<;>first|omega|(simp<;>omega)))
       |((with_reducible show aO _);first|exact True.intro|((try dsimp only[go_sem]);(simp[vb,e,f1,hlt,aG,hst]<;>omega)))
       |exact(rfl:some _=_)
       |(
        fail_if_success refine aV ?_
        refine dH [(78,fun _=>some (.tup [.bool false,.bool false]))] [(28,{val:=some (.pv (.agg [.int .i64 x.kind,.int .i64 x.index,.int .i64 x.cell]))})] ?_;repeat1' dsimp only[pT,eZ,eG,ae,Tree.kind,Tree.steps,Tree.cell,Tree.pos,Tree.kids,aa,an,ah,ay,aI,aA,go_sem]
        first
        |refine aW ?_ ?_ rfl ?_
        |apply aX
        |apply aY
        |(refine aZ (fun hc=>?_) fun hc=>?_<;>first|(cases hc;done)|(exfalso;(simp at hc<;>omega))|(try simp only[bn]at hc;try contradiction))
        |skip))
     |true =>
      simp only[if_true];repeat' (first
       |((with_reducible show aF _);first|exact True.intro|(simp only[vb,lb,e,f1,hlt,aG,hst];and_intros<;>first|omega|(simp<;>omega)))
       |((with_reducible show aO _);first|exact True.intro|((try dsimp only[go_sem]);(simp[vb,e,f1,hlt,aG,hst]<;>omega)))
       |exact(rfl:some _=_)
       |(
        fail_if_success refine aV ?_
        refine dH [(78,fun _=>some (.tup [.bool true,.bool false]))] [(28,{val:=some (.pv (.agg [.int .i64 x.kind,.int .i64 x.index,.int .i64 x.cell]))})] ?_;repeat1' dsimp only[pT,eZ,eG,ae,Tree.kind,Tree.steps,Tree.cell,Tree.pos,Tree.kids,aa,an,ah,ay,aI,aA,go_sem]
        first
        |refine aW ?_ ?_ rfl ?_
        |apply aX
        |apply aY
        |(refine aZ (fun hc=>?_) fun hc=>?_<;>first|(cases hc;done)|(exfalso;(simp at hc<;>omega))|(try simp only[bn]at hc;try contradiction))
        |skip))
      exact⟨k+1,by show st.length-(k+1)<st.length-k;omega,⟨by show k+1≤_;omega,rfl⟩,by (repeat' (first|exact trivial|refine And.intro (by first|rfl|(simp[get,Nat.beq];done)|(simp[get,Nat.beq];omega)|(dsimp only[get];congr 1<;>first|rfl|omega|(simp;done)|(simp;omega))) ?_)),_,rfl⟩
   ·obtain rfl:k=st.length:=by omega
    rw[List.drop_length,gp]at p3;rw[←p3];simp only;clear p3 hE hf1 hcn;have f3:=gJ l;by_cases hk1:kd=1
    ·subst hk1;simp[cD,aK]at hf2;obtain⟨⟨t1,t2,t3⟩,t4,t5⟩:=hf2;unfold nK;rw[if_pos rfl,if_neg (by simp;omega)];repeat' (first
      |((with_reducible show aF _);first|exact True.intro|(simp only[vb,lb,t2];and_intros<;>first|omega|(simp<;>omega)))
      |((with_reducible show aO _);exact True.intro)
      |exact(rfl:some _=_)
      |(
       fail_if_success refine aV ?_
       refine a7 ?_;repeat1' dsimp only[pT,eZ,eG,ae,Tree.kind,Tree.steps,Tree.cell,Tree.pos,Tree.kids,aa,an,ah,ay,aI,aA,go_sem]
       first
       |refine aW ?_ ?_ rfl ?_
       |apply aX
       |apply aY
       |(refine aZ (fun hc=>?_) fun hc=>?_<;>first|(cases hc;done)|(exfalso;(simp at hc<;>omega))|(try simp only[bn]at hc;try contradiction))
       |skip))
    ·by_cases hk2:kd=2
     ·subst hk2;simp[cD]at hf2;obtain⟨⟨⟨t1,t2⟩,rfl⟩,rfl⟩:=hf2;have hcc:=hs.c;unfold nK;rw[if_neg (by decide),if_pos rfl,List.length_map];cases ch with
      |true =>
       repeat' (first
        |((with_reducible show aF _);first|exact True.intro|(simp only[vb,lb,hlt];and_intros<;>first|omega|(simp<;>omega)))
        |((with_reducible show aO _);first|exact True.intro|((try dsimp only[go_sem]);(simp[vb,hlt]<;>omega)))
        |exact(rfl:some _=_)
        |(
         fail_if_success refine aV ?_
         refine bI [(107,{val:=some (.pv (.bool true))})] ?_;repeat1' dsimp only[pT,eZ,eG,ae,Tree.kind,Tree.steps,Tree.cell,Tree.pos,Tree.kids,aa,an,ah,ay,aI,aA,go_sem]
         first
         |refine aW ?_ ?_ rfl ?_
         |apply aX
         |apply aY
         |(refine aZ (fun hc=>?_) fun hc=>?_<;>first|(cases hc;done)|(exfalso;(simp at hc<;>omega))|(try simp only[bn]at hc;try contradiction))
         |skip))
      |false =>
       by_cases hlc:l.length=s.cases.length
       ·rw[decide_eq_true hlc];simp only[Bool.not_false,Bool.true_and];generalize hres:nc rows [] (l.map (bp s)) s.cases=res;repeat' (first
         |((with_reducible show aF _);first|exact True.intro|(simp only[vb,lb,hlt,hlc];and_intros<;>first|omega|(simp<;>omega)))
         |((with_reducible show aO _);first|exact True.intro|((try dsimp only[go_sem]);(simp[vb,hlt,hlc]<;>omega)))
         |exact(rfl:some _=_)
         |(
          fail_if_success refine aV ?_
          refine bI [(107,{val:=some (.pv (.bool false))}),(116,{val:=some (.pv (.bool false))})] ?_;repeat1' dsimp only[pT,eZ,eG,ae,Tree.kind,Tree.steps,Tree.cell,Tree.pos,Tree.kids,aa,an,ah,ay,aI,aA,go_sem]
          first
          |refine aW ?_ ?_ rfl ?_
          |apply aX
          |apply aY
          |(refine aZ (fun hc=>?_) fun hc=>?_<;>first|(cases hc;done)|(exfalso;(simp at hc<;>omega))|(try simp only[bn]at hc;try contradiction))
          |skip))
        refine ek (σ:=Nat) (fun k=>k≤l.length∧nc rows [] ((l.map (bp s)).drop k) (s.cases.drop k)=res)
         (fun k=>[(2,.ptr 0 0 0),(3,.ptr 1 0 0),(119,.pv (an l)),(120,.pv (.int .i64 l.length)),(121,.pv (.int .i64 k))])
         (fun k=>[eZ s rows (.pv (.sl 0 [])) false,ae (.node 2 st 0 0 l)]) (fun k=>l.length-k) 0 ⟨Nat.zero_le _,hres⟩ (by (repeat' (first|exact trivial|refine And.intro (by first|rfl|(simp[get,Nat.beq];done)|(simp[get,Nat.beq];omega)|(dsimp only[get];congr 1<;>first|rfl|omega|(simp;done)|(simp;omega))) ?_))) ⟨[],rfl⟩ (fun _ _=>⟨Nat.zero_le _,rfl,by simp[aP,eZ,eG,ae,dJ]⟩) fun k hq=>?_
        obtain⟨q1,q2⟩:=hq;by_cases hlk:k<l.length
        ·have hkc:k<s.cases.length:=by omega
         have e:=fR l k hlk;have e2:=mh s.cases k hkc;have e3:=l9 s.cases;have hcl:=hs.l _ (aQ (d:=([]:List Rw)) hkc);have hmem:=aQ (d:=zt) hlk;have hwk:=jU hmem;have hih:=ih _ hmem (List.all_eq_true.mp hf3 _ hmem) (by omega) (rows++s.cases.getD k []) [] true (by rw[List.length_append];unfold mi at hr ⊢;simp only[cond_true,cond_false]at hr ⊢;omega) (fun r hr=>by
          rcases List.mem_append.mp hr with h|h
          ·exact hrt r h
          ·exact hcl.2 r h) hb hgo
         have hcon:=ug [rows,s.cases.getD k []] (by simp) (by simp only[kf,List.map_cons,List.map_nil,List.sum_cons,List.sum_nil];omega);rw[show[rows,s.cases.getD k []].flatten=rows++s.cases.getD k [] by simp]at hcon;rw[eD _ k (bp s zt) (by simpa using hlk),eD s.cases k [] hkc,nc]at q2;rw[show(l.map (bp s)).getD k (bp s zt)=bp s (l.getD k zt) by simp[List.getD]]at q2;generalize hrest:nc rows [] ((l.map (bp s)).drop (k+1)) (s.cases.drop (k+1))=rest at *;generalize s.cases.getD k []=cs at *;generalize l.getD k zt=x at *
         generalize bp s x (rows++cs) [] true=qx at *;generalize rows++cs=rows2 at *;obtain⟨a0,a1,a2,a3,a4⟩:=x;simp only[aE,Tree.kind,Tree.steps,Tree.cell,Tree.pos,Tree.kids]at hih e;clear ih hres;have hcon:ai ctx 80 [.sl 2 [.sl rows.length (rows.flatMap ff),.sl cs.length (cs.flatMap ff)]] (.sl rows2.length (rows2.flatMap ff)):=hcon;unfold ah ay aI aA an aa at hih;repeat' (first
          |((with_reducible show aF _);first|exact True.intro|(simp only[vb,lb,e,f3,hlk,e2,e3,hkc,hcon,an,aa,hih];and_intros<;>first|omega|(simp<;>omega)))
          |((with_reducible show aO _);first|exact True.intro|((try dsimp only[go_sem]);first|(simp[vb,e,f3,hlk,e2,e3,hkc,hcon,an,aa,hih]<;>omega)|(simp only[vb,and_true,true_implies];(repeat' (first|(with_reducible assumption)|(with_reducible apply And.intro)|intro _|((fail_if_success (with_reducible show(_:Int)≤_));assumption))))))
          |exact(rfl:some _=_)
          |(
           fail_if_success refine aV ?_
           refine dH [(80,fun _=>some (.sl rows2.length (rows2.flatMap ff))),(47,fun _=>some (.bool qx))] [(125,{val:=some (.pv (.agg [.int .i64 a0,.sl a1.length (a1.flatMap aG),.int .i64 a2,.int .i64 a3,.sl a4.length (a4.flatMap gu)]))}),(134,{val:=some (.pv (.sl cs.length (cs.flatMap ff)))})] ?_;repeat1' dsimp only[pT,eZ,eG,ae,Tree.kind,Tree.steps,Tree.cell,Tree.pos,Tree.kids,aa,an,ah,ay,aI,aA,go_sem]
           first
           |refine aW ?_ ?_ rfl ?_
           |apply aX
           |apply aY
           |(refine aZ (fun hc=>?_) fun hc=>?_<;>first|(cases hc;done)|(exfalso;(simp at hc<;>omega))|(try simp only[bn]at hc;try contradiction))
           |skip))
         ·rw[←q2,show qx=false by simpa using hc];rfl
         ·exact⟨k+1,by show l.length-(k+1)<l.length-k;omega,⟨by show k+1≤_;omega,by rw[←q2,show qx=true by simpa using hc];simpa using hrest⟩,by (repeat' (first|exact trivial|refine And.intro (by first|rfl|(simp[get,Nat.beq];done)|(simp[get,Nat.beq];omega)|(dsimp only[get];congr 1<;>first|rfl|omega|(simp;done)|(simp;omega))) ?_)),_,rfl⟩
        ·obtain rfl:k=l.length:=by omega
         rw[List.drop_of_length_le (by simp),nc]at q2;subst q2;repeat' (first
          |((with_reducible show aF _);exact True.intro)
          |((with_reducible show aO _);exact True.intro)
          |exact(rfl:some _=_)
          |(
           fail_if_success refine aV ?_
           refine a7 ?_;repeat1' dsimp only[pT,eZ,eG,ae,Tree.kind,Tree.steps,Tree.cell,Tree.pos,Tree.kids,aa,an,ah,ay,aI,aA,go_sem]
           first
           |refine aW ?_ ?_ rfl ?_
           |apply aX
           |apply aY
           |(refine aZ (fun hc=>?_) fun hc=>?_<;>first|(cases hc;done)|(exfalso;(simp at hc<;>omega))|(try simp only[bn]at hc;try contradiction))
           |skip))
         all_goals (intro _ _ _ _ h;cases h)
       ·rw[decide_eq_false hlc];have hlc':¬(l.length:Int)=(s.cases.length:Int):=by omega
        repeat' (first
         |((with_reducible show aF _);first|exact True.intro|(simp only[vb,lb,hlt,hlc'];and_intros<;>first|omega|(simp<;>omega)))
         |((with_reducible show aO _);first|exact True.intro|((try dsimp only[go_sem]);(simp[vb,hlt,hlc']<;>omega)))
         |exact(rfl:some _=_)
         |(
          fail_if_success refine aV ?_
          refine bI [(107,{val:=some (.pv (.bool false))}),(116,{val:=some (.pv (.bool true))})] ?_;repeat1' dsimp only[pT,eZ,eG,ae,Tree.kind,Tree.steps,Tree.cell,Tree.pos,Tree.kids,aa,an,ah,ay,aI,aA,go_sem]
          first
          |refine aW ?_ ?_ rfl ?_
          |apply aX
          |apply aY
          |(refine aZ (fun hc=>?_) fun hc=>?_<;>first|(cases hc;done)|(exfalso;(simp at hc<;>omega))|(try simp only[bn]at hc;try contradiction))
          |skip))
     ·rw[show nK s kd c a (l.map (bp s)) rows [] ch=false by rw[nK,if_neg hk1,if_neg hk2]];repeat' (first
       |((with_reducible show aF _);first|exact True.intro|(simp only[vb,lb,hk1,hk2];and_intros<;>first|omega|(simp<;>omega)))
       |((with_reducible show aO _);exact True.intro)
       |exact(rfl:some _=_)
       |(
        fail_if_success refine aV ?_
        refine a7 ?_;repeat1' dsimp only[pT,eZ,eG,ae,Tree.kind,Tree.steps,Tree.cell,Tree.pos,Tree.kids,aa,an,ah,ay,aI,aA,go_sem]
        first
        |refine aW ?_ ?_ rfl ?_
        |apply aX
        |apply aY
        |(refine aZ (fun hc=>?_) fun hc=>?_<;>first|(cases hc;done)|(exfalso;(simp at hc<;>omega))|(try simp only[bn]at hc;try contradiction))
        |skip))
  ·have hpos:0<b.length:=List.length_pos_iff.mpr h0;have hcln:=Gq b h0 hb [⟨[.pv (ah s.box),.pv (ay s.rows),.pv (aI s.graphs),.pv (aA s.cases),.pv (ay rows),.pv (ah b),.pv (.bool ch)],0,7,73,false⟩,ae (.node kd st c a l)];unfold ah at hE;unfold ah ay aI aA ae bC at hcln;simp only[Tree.kind,Tree.steps,Tree.cell,Tree.pos,Tree.kids,aa,an,List.length_cons,List.length_nil,List.cons_append,List.nil_append,Nat.zero_add]at hcln;refine af (C:=ctx) (Fn.of Di rfl) rfl ?_;unfold EL;repeat' (first
    |((with_reducible show aF _);first|exact True.intro|(simp only[vb,lb,hE,hcln];and_intros<;>first|omega|(simp<;>omega)))
    |((with_reducible show aO _);first|exact True.intro|((try dsimp only[go_sem]);(simp[vb,hE,hcln]<;>omega)))
    |exact(rfl:some _=_)
    |(
     fail_if_success refine aV ?_
     refine dH [(72,fun _=>some (.bool false))] [(20,{val:=some (.ref 2 1 0 b.length),mem:=some [⟨[.pv (ah s.box),.pv (ay s.rows),.pv (aI s.graphs),.pv (aA s.cases),.pv (ay rows),.pv (ah b),.pv (.bool ch)],0,7,73,false⟩,ae (.node kd st c a l),bC b 1]})] ?_;repeat1' dsimp only[pT,aE,ae,bC,Tree.kind,Tree.steps,Tree.cell,Tree.pos,Tree.kids,aa,an,ah,ay,aI,aA,go_sem]
     first
     |refine aW ?_ ?_ rfl ?_
     |apply aX
     |apply aY
     |(refine aZ (fun hc=>?_) fun hc=>?_<;>first|(cases hc;done)|(try simp only[bn]at hc;try contradiction))
     |skip))
   refine ek (σ:=Nat×List Rg) (fun q=>q.1≤st.length∧q.2.length=b.length∧gp s rows (st.drop q.1) q.2=gp s rows st b)
    (fun q=>[(2,.ptr 0 0 0),(3,.ptr 1 0 0),(23,.pv (aa st)),(24,.pv (.int .i64 st.length)),(25,.pv (.int .i64 q.1))])
    (fun q=>[eZ s rows (.ref 2 1 0 b.length) ch,ae (.node kd st c a l),bC q.2 1]) (fun q=>st.length-q.1) (0,b) ⟨Nat.zero_le _,rfl,rfl⟩ (by (repeat' (first|exact trivial|refine And.intro (by first|rfl|(simp[get,Nat.beq];done)|(simp[get,Nat.beq];omega)|(dsimp only[get];congr 1<;>first|rfl|omega|(simp;done)|(simp;omega))) ?_))) ⟨[],rfl⟩ (fun _ _=>⟨Nat.zero_le _,rfl,by simp[aP,eZ,eG,ae,bC,dJ,Nat.blt]⟩) fun q hq=>?_
   obtain⟨k,bb⟩:=q;obtain⟨p1,p2,p3⟩:=hq;simp only at p1 p2 p3 ⊢;by_cases hlt:k<st.length
   ·have e:=cK dN st k zs hlt;have hx:=List.all_eq_true.mp hf1 _ (aQ (d:=zs) hlt);rw[eD st k zs hlt,gp]at p3;generalize st.getD k zs=x at *;have hst:=EM s rows bb 1 ch x hx (by rw[p2];exact hgo) hs.g (by omega) hrt (by omega) [eZ s rows (.ref 2 1 0 b.length) ch,ae (.node kd st c a l),bC bb 1,⟨[.pv (.int .i64 x.kind),.pv (.int .i64 x.index),.pv (.int .i64 x.cell)],0,3,66,false⟩] 2 rfl;have hln:=pN s rows bb x;generalize de s rows bb x=q at *;obtain⟨b2,pp,cc⟩:=q;simp only at hst hln p3;rw[p2]at hst hln
    rw[show([eZ s rows (.ref 2 1 0 b.length) ch,ae (.node kd st c a l),bC bb 1,⟨[.pv (.int .i64 x.kind),.pv (.int .i64 x.index),.pv (.int .i64 x.cell)],0,3,66,false⟩]:AM).set 2 (bC b2 1)=[eZ s rows (.ref 2 1 0 b.length) ch,ae (.node kd st c a l),bC b2 1,⟨[.pv (.int .i64 x.kind),.pv (.int .i64 x.index),.pv (.int .i64 x.cell)],0,3,66,false⟩] from rfl]at hst;unfold eZ eG ae bC dq ah ay aI aA at hst;simp only[Tree.kind,Tree.steps,Tree.cell,Tree.pos,Tree.kids,aa,an,aG]at hst;rw[←p3];clear p3 hcln;cases cc with
    |true =>
     simp only[if_true];repeat' (first
      |((with_reducible show aF _);first|exact True.intro|(simp only[vb,lb,e,f1,hlt,aG,hst];and_intros<;>first|omega|(simp<;>omega)))
      |((with_reducible show aO _);first|exact True.intro|((try dsimp only[go_sem]);(simp[vb,e,f1,hlt,aG,hst]<;>omega)))
      |exact(rfl:some _=_)
      |(
       fail_if_success refine aV ?_
       refine bI [(28,{val:=some (.pv (.agg [.int .i64 x.kind,.int .i64 x.index,.int .i64 x.cell]))}),(32,{val:=some (.pv (.tup [.bool pp,.bool true])),mem:=some [eZ s rows (.ref 2 1 0 b.length) ch,ae (.node kd st c a l),bC b2 1,⟨[.pv (.int .i64 x.kind),.pv (.int .i64 x.index),.pv (.int .i64 x.cell)],0,3,66,false⟩]})] ?_;repeat1' dsimp only[pT,eZ,eG,ae,bC,Tree.kind,Tree.steps,Tree.cell,Tree.pos,Tree.kids,aa,an,ah,ay,aI,aA,go_sem]
       first
       |refine aW ?_ ?_ rfl ?_
       |apply aX
       |apply aY
       |(refine aZ (fun hc=>?_) fun hc=>?_<;>first|(cases hc;done)|(exfalso;(simp at hc<;>omega))|(try simp only[bn]at hc;try contradiction))
       |skip))
    |false =>
     simp only[Bool.false_eq_true,if_false];cases pp with
     |false =>
      simp only[Bool.false_eq_true,if_false];repeat' (first
       |((with_reducible show aF _);first|exact True.intro|(simp only[vb,lb,e,f1,hlt,aG,hst];and_intros<;>first|omega|(simp<;>omega)))
       |((with_reducible show aO _);first|exact True.intro|((try dsimp only[go_sem]);(simp[vb,e,f1,hlt,aG,hst]<;>omega)))
       |exact(rfl:some _=_)
       |(
        fail_if_success refine aV ?_
        refine bI [(28,{val:=some (.pv (.agg [.int .i64 x.kind,.int .i64 x.index,.int .i64 x.cell]))}),(32,{val:=some (.pv (.tup [.bool false,.bool false])),mem:=some [eZ s rows (.ref 2 1 0 b.length) ch,ae (.node kd st c a l),bC b2 1,⟨[.pv (.int .i64 x.kind),.pv (.int .i64 x.index),.pv (.int .i64 x.cell)],0,3,66,false⟩]})] ?_;repeat1' dsimp only[pT,eZ,eG,ae,bC,Tree.kind,Tree.steps,Tree.cell,Tree.pos,Tree.kids,aa,an,ah,ay,aI,aA,go_sem]
        first
        |refine aW ?_ ?_ rfl ?_
        |apply aX
        |apply aY
        |(refine aZ (fun hc=>?_) fun hc=>?_<;>first|(cases hc;done)|(exfalso;(simp at hc<;>omega))|(try simp only[bn]at hc;try contradiction))
        |skip))
     |true =>
      simp only[if_true];repeat' (first
       |((with_reducible show aF _);first|exact True.intro|(simp only[vb,lb,e,f1,hlt,aG,hst];and_intros<;>first|omega|(simp<;>omega)))
       |((with_reducible show aO _);first|exact True.intro|((try dsimp only[go_sem]);(simp[vb,e,f1,hlt,aG,hst]<;>omega)))
       |exact(rfl:some _=_)
       |(
        fail_if_success refine aV ?_
        refine bI [(28,{val:=some (.pv (.agg [.int .i64 x.kind,.int .i64 x.index,.int .i64 x.cell]))}),(32,{val:=some (.pv (.tup [.bool true,.bool false])),mem:=some [eZ s rows (.ref 2 1 0 b.length) ch,ae (.node kd st c a l),bC b2 1,⟨[.pv (.int .i64 x.kind),.pv (.int .i64 x.index),.pv (.int .i64 x.cell)],0,3,66,false⟩]})] ?_;repeat1' dsimp only[pT,eZ,eG,ae,bC,Tree.kind,Tree.steps,Tree.cell,Tree.pos,Tree.kids,aa,an,ah,ay,aI,aA,go_sem]
        first
        |refine aW ?_ ?_ rfl ?_
        |apply aX
        |apply aY
        |(refine aZ (fun hc=>?_) fun hc=>?_<;>first|(cases hc;done)|(exfalso;(simp at hc<;>omega))|(try simp only[bn]at hc;try contradiction))
        |skip))
      exact⟨(k+1,b2),by show st.length-(k+1)<st.length-k;omega,⟨by show k+1≤_;omega,hln,rfl⟩,by (repeat' (first|exact trivial|refine And.intro (by first|rfl|(simp[get,Nat.beq];done)|(simp[get,Nat.beq];omega)|(dsimp only[get];congr 1<;>first|rfl|omega|(simp;done)|(simp;omega))) ?_)),_,rfl⟩
   ·obtain rfl:k=st.length:=by omega
    rw[List.drop_length,gp]at p3;rw[←p3];simp only;clear p3 hcln hE hf1;have f3:=gJ l;rw[←p2]at hb hgo hpos ⊢;have f4:=cz bb;clear f2;by_cases hk1:kd=1
    ·subst hk1;simp[cD,aK]at hf2;obtain⟨⟨t1,t2,t3⟩,t4,t5⟩:=hf2;obtain⟨cn,rfl⟩:∃n:Nat,c=n:=⟨c.toNat,by omega⟩
     unfold nK;rw[if_pos rfl];by_cases hcb:(cn:Int)<bb.length
     ·rw[if_pos hcb];have hcb':cn<bb.length:=by omega
      match l,t1 with
      |[k0,k1],_ =>
      simp only[List.map_cons,List.map_nil,Int.toNat_natCast];have e:=kF bb cn (by omega) hcb;rw[Int.toNat_natCast]at e;have e4:(((bb.flatMap gZ).map AV.pv).drop (cn*2)).take 2=[.pv (.int .i64 (bb.getD cn zr).lo),.pv (.int .i64 (bb.getD cn zr).hi)]:=by rw[←List.map_drop,←List.map_take,e];rfl
      clear e;generalize bb.getD cn zr=y at *;iterate 9 first
       |refine⟨fun h=>by simp at h<;>omega,fun _=>?_⟩
       |refine⟨by simp[vb,hcb,hcb',f4,e4,bc]<;>omega,by simp[vb,hcb,hcb',f4,e4,bc]<;>omega,?_⟩
       |(refine bI [(54,{val:=some (.pv (.agg [.int .i64 y.lo,.int .i64 y.hi]))})] ?_;iterate 2 (try dsimp only[eZ,eG,ae,bC,Tree.kind,Tree.steps,Tree.cell,Tree.pos,Tree.kids,go_sem]))
      refine bI [(54,{val:=some (.pv (.agg [.int .i64 y.lo,.int .i64 y.hi]))})] ?_;dsimp only[eZ,eG,ae,bC,Tree.kind,Tree.steps,Tree.cell,Tree.pos,Tree.kids,go_sem];refine⟨fun _=>?_,fun h=>by simp at h<;>omega⟩;iterate 5 first
       |refine⟨fun h=>by simp at h<;>omega,fun _=>?_⟩
       |refine⟨by simp[vb,hcb,hcb',f4,e4,bc]<;>omega,by simp[vb,hcb,hcb',f4,e4,bc]<;>omega,?_⟩
       |(refine bI [(54,{val:=some (.pv (.agg [.int .i64 y.lo,.int .i64 y.hi]))})] ?_;iterate 2 (try dsimp only[eZ,eG,ae,bC,Tree.kind,Tree.steps,Tree.cell,Tree.pos,Tree.kids,go_sem]))
      refine bI [(54,{val:=some (.pv (.agg [.int .i64 y.lo,.int .i64 y.hi]))})] ?_;dsimp only[eZ,eG,ae,bC,Tree.kind,Tree.steps,Tree.cell,Tree.pos,Tree.kids,go_sem];try dsimp only[eZ,eG,ae,bC,Tree.kind,Tree.steps,Tree.cell,Tree.pos,Tree.kids,go_sem]
      refine⟨(by first|exact True.intro|(simp only[vb,lb];omega)|(simp only[vb,lb,hcb,hcb',f4,e4,bc];and_intros<;>first|omega|(simp<;>omega))|(simp[vb,hcb,hcb',f4,e4,bc]<;>omega)),(by first|exact True.intro|((try dsimp only[go_sem]);first|(simp[vb,hcb,hcb',f4,e4,bc]<;>omega)|(simp only[vb,and_true,true_implies];(repeat' (first|(with_reducible assumption)|(with_reducible apply And.intro)|intro _|((fail_if_success (with_reducible show(_:Int)≤_));assumption)))<;>first|omega|rfl|(simp only[ab,hcb,hcb',f4,e4,bc];done)|(simp[Nat.mul_one,hcb,hcb',f4,e4,bc]<;>omega)|(simp_all;done)))),?_⟩
      refine bH [(2,.ptr 0 0 0),(3,.ptr 1 0 0),(9,.ptr 3 0 0)] (by (repeat' (first|exact trivial|refine And.intro (by first|rfl|(simp[get,Nat.beq];done)|(simp[get,Nat.beq];omega)|(dsimp only[get];congr 1<;>first|rfl|omega|(simp;done)|(simp;omega))) ?_))) ?_;have hcr:=fun μ hj=>Dg bb 1 hpos hb μ 2 hj
      refine Fw 2 [] [] rfl ?_ ?_;dsimp only[rI,go_sem];refine⟨(by first|exact True.intro|(simp only[vb,lb];omega)|(simp[vb]<;>omega)),(by first|exact True.intro|((try dsimp only[go_sem]);first|(simp[vb]<;>omega)|(simp only[vb,and_true,true_implies];(repeat' (first|(with_reducible assumption)|(with_reducible apply And.intro)|intro _|((fail_if_success (with_reducible show(_:Int)≤_));assumption)))<;>first|omega|rfl|(simp only[ab];done)|(simp[Nat.mul_one]<;>omega)|(simp_all;done)))),rfl,?_⟩;dsimp only[go_sem];rotate_left;dsimp only[rJ,mo,go_sem]
      refine⟨(by first|exact True.intro|(simp only[vb,lb];omega)|(simp[vb]<;>omega)),(by first|exact True.intro|((try dsimp only[go_sem]);first|(simp[vb]<;>omega)|(simp only[vb,and_true,true_implies];(repeat' (first|(with_reducible assumption)|(with_reducible apply And.intro)|intro _|((fail_if_success (with_reducible show(_:Int)≤_));assumption)))<;>first|omega|rfl|(simp only[ab];done)|(simp[Nat.mul_one]<;>omega)|(simp_all;done)))),rfl,?_⟩;refine jx [0,1,2,3,5,4] rfl ?_;dsimp only[go_sem];rw[Gb];all_goals
       refine bH [(2,.ptr 0 0 0),(3,.ptr 1 0 0),(9,.ptr 3 0 0),(10,.ptr 4 0 0),(11,.ptr 5 0 0)] (by (repeat' (first|exact trivial|refine And.intro (by first|rfl|(simp[get,Nat.beq];done)|(simp[get,Nat.beq];omega)|(dsimp only[get];congr 1<;>first|rfl|omega|(simp;done)|(simp;omega))) ?_))) ?_;simp only[iH]at hw;have ih0:=ih k0 (by simp) (by simpa using (List.all_eq_true.mp hf3 k0 (by simp))) (by omega) rows (bb.set cn ⟨y.lo,min y.hi a⟩) ch hr hrt (by simpa using hb) (by simpa using hgo)
       have ih1:=ih k1 (by simp) (by simpa using (List.all_eq_true.mp hf3 k1 (by simp))) (by omega) rows (bb.set cn ⟨max y.lo (a+1),y.hi⟩) ch hr hrt (by simpa using hb) (by simpa using hgo);clear ih;unfold bC at hcr;refine bI [(59,{val:=some (.ref 6 1 0 bb.length),new:=[⟨(bb.flatMap gZ).map .pv,1,2,57,false⟩]}),(62,{val:=some (.ref 7 1 0 bb.length),new:=[⟨(bb.flatMap gZ).map .pv,1,2,57,false⟩]})] ?_;dsimp only[go_sem];try dsimp only[go_sem]
       refine⟨(by simp[vb]<;>omega),?_,(by first|rfl|trivial),?_⟩
       ·iterate 3 (try dsimp only[kZ,qV,go_sem])
        exact⟨hcr _ rfl,hcr _ rfl,trivial⟩
       iterate 3 (try dsimp only[kZ,qV,go_sem])
       refine bH [(2,.ptr 0 0 0),(3,.ptr 1 0 0),(9,.ptr 3 0 0),(10,.ptr 4 0 0),(11,.ptr 5 0 0)] (by (repeat' (first|exact trivial|refine And.intro (by first|rfl|(simp[get,Nat.beq];done)|(simp[get,Nat.beq];omega)|(dsimp only[get];congr 1<;>first|rfl|omega|(simp;done)|(simp;omega))) ?_))) ?_;have e6:=cz bb;have hm1:=zK y ⟨y.lo,a⟩;have hm2:=zK y ⟨a+1,y.hi⟩;have e7:=fun b lo hi h=>sO b cn lo hi h
       simp only[Int.max_self,Int.min_self]at hm1 hm2;refine bU (kQ (T:=[(79,fun ps=>match ps with|[.agg [.int _ a,.int _ b],.agg [.int _ c,.int _ d]]=>some (.agg [.int .i64 (max a c),.int .i64 (min b d)])|_=>none)]) (H:=[]) (by rfl) ?_);dsimp only[eB,go_sem];try dsimp only[go_sem]
       refine⟨(by simp[vb,hcb,hcb',e6,hm1]<;>omega),(by simp[vb,hcb,hcb',e6,hm1]<;>omega),?_⟩;iterate 3 (try dsimp only[go_sem])
       refine bH [(2,.ptr 0 0 0),(3,.ptr 1 0 0),(9,.ptr 3 0 0),(10,.ptr 4 0 0),(11,.ptr 5 0 0)] (by (repeat' (first|exact trivial|refine And.intro (by first|rfl|(simp[get,Nat.beq];done)|(simp[get,Nat.beq];omega)|(dsimp only[get];congr 1<;>first|rfl|omega|(simp;done)|(simp;omega))) ?_))) ?_;rw[show((((bb.flatMap gZ).map AV.pv).set (0+(cn:Int).toNat*2) (.pv (.int .i64 (max y.lo y.lo)))).set (0+(cn:Int).toNat*2+1) (.pv (.int .i64 (min y.hi a))))=((bb.set cn ⟨y.lo,min y.hi a⟩).flatMap gZ).map AV.pv from by rw[←e7 bb _ _ hcb',Int.max_self];simp]
       refine bU (kQ (T:=[(79,fun ps=>match ps with|[.agg [.int _ a,.int _ b],.agg [.int _ c,.int _ d]]=>some (.agg [.int .i64 (max a c),.int .i64 (min b d)])|_=>none)]) (H:=[]) (by rfl) ?_);dsimp only[eB,go_sem];try dsimp only[go_sem]
       refine⟨(by simp[vb,hcb,hcb',e6,hm2]<;>omega),(by simp[vb,hcb,hcb',e6,hm2]<;>omega),?_⟩;iterate 3 (try dsimp only[go_sem])
       refine bH [(2,.ptr 0 0 0),(3,.ptr 1 0 0),(9,.ptr 3 0 0),(10,.ptr 4 0 0),(11,.ptr 5 0 0)] (by (repeat' (first|exact trivial|refine And.intro (by first|rfl|(simp[get,Nat.beq];done)|(simp[get,Nat.beq];omega)|(dsimp only[get];congr 1<;>first|rfl|omega|(simp;done)|(simp;omega))) ?_))) ?_;rw[show((((bb.flatMap gZ).map AV.pv).set (0+(cn:Int).toNat*2) (.pv (.int .i64 (max y.lo (a+1))))).set (0+(cn:Int).toNat*2+1) (.pv (.int .i64 (min y.hi y.hi))))=((bb.set cn ⟨max y.lo (a+1),y.hi⟩).flatMap gZ).map AV.pv from by rw[←e7 bb _ _ hcb',Int.min_self];simp];clear hcr e7 hm1 hm2 e6 e4
       have hbl0:(bb.set cn ⟨y.lo,min y.hi a⟩).length=bb.length:=by simp
       have hbl1:(bb.set cn ⟨max y.lo (a+1),y.hi⟩).length=bb.length:=by simp
       generalize bb.set cn ⟨y.lo,min y.hi a⟩=bl at *;generalize bb.set cn ⟨max y.lo (a+1),y.hi⟩=bh at *;generalize bp s k0 rows bl ch=q0 at *;generalize bp s k1 rows bh ch=q1 at *;have z1:=cz bl;have z2:=cz bh;have x1:(0+bb.length*2).ble ((bl.flatMap gZ).map AV.pv).length=true:=by rw[List.length_map,z1,hbl0];simp
       have x3:(0+bb.length*2).ble ((bh.flatMap gZ).map AV.pv).length=true:=by rw[List.length_map,z2,hbl1];simp
       have x2:bc (((bl.flatMap gZ).map AV.pv).take (bb.length*2))=some (bl.flatMap gZ):=by rw[←hbl0];exact(nA bl 1).2
       have x4:bc (((bh.flatMap gZ).map AV.pv).take (bb.length*2))=some (bh.flatMap gZ):=by rw[←hbl1];exact(nA bh 1).2
       obtain⟨a0,a1,a2,a3,a4⟩:=k0;obtain⟨d0,d1,d2,d3,d4⟩:=k1;have g0:=fR [.node a0 a1 a2 a3 a4,.node d0 d1 d2 d3 d4] 0 (by simp);have g1:=fR [.node a0 a1 a2 a3 a4,.node d0 d1 d2 d3 d4] 1 (by simp);simp only[List.getD_cons_zero,List.getD_cons_succ,Tree.kind,Tree.steps,Tree.cell,Tree.pos,Tree.kids,Nat.zero_mul,Nat.one_mul,List.drop_zero]at g0 g1;have g2':([Tree.node a0 a1 a2 a3 a4,.node d0 d1 d2 d3 d4].flatMap gu).length=10:=gJ _;simp only[aE,Tree.kind,Tree.steps,Tree.cell,Tree.pos,Tree.kids]at ih0 ih1;unfold an ah at ih0 ih1;unfold an at g0 g1
       refine bI [(94,{val:=some (.pv (.agg [.int .i64 a0,aa a1,.int .i64 a2,.int .i64 a3,an a4]))}),(95,{val:=some (.pv (.bool q0)),args:=some [.agg [ah s.box,ay s.rows,aI s.graphs,aA s.cases,ay rows,ah bl,.bool ch],.agg [.int .i64 a0,aa a1,.int .i64 a2,.int .i64 a3,an a4]]}),(101,{val:=some (.pv (.agg [.int .i64 d0,aa d1,.int .i64 d2,.int .i64 d3,an d4]))}),(102,{val:=some (.pv (.bool q1)),args:=some [.agg [ah s.box,ay s.rows,aI s.graphs,aA s.cases,ay rows,ah bh,.bool ch],.agg [.int .i64 d0,aa d1,.int .i64 d2,.int .i64 d3,an d4]]})] ?_
       dsimp only[an,go_sem];try dsimp only[an,go_sem]
       refine⟨(by simp[vb,iI]<;>omega),?_,?_⟩
       ·unfold ah;simp only[x1,x2,x3,x4,cond_true,g0,g1,hbl0,hbl1]at ih0 ih1 ⊢;exact⟨fun _ h=>h,fun h=>⟨trivial,⟨fun _=>h,fun _=>h,trivial⟩,trivial,ih1,trivial⟩,fun h=>⟨by simp[vb,iI],⟨fun _=>h,trivial⟩,trivial,trivial⟩,fun h=>⟨by simp[vb],⟨fun _=>h,trivial⟩,trivial⟩,fun h=>⟨by simp[vb],⟨fun _=>h,trivial⟩,trivial⟩,fun _=>⟨trivial,trivial,trivial⟩,fun _=>⟨by simp[vb],trivial,trivial⟩,trivial,ih0,trivial,trivial⟩
       repeat' (first
        |((with_reducible show aF _);exact True.intro)
        |exact(rfl:some _=_)
        |(
         fail_if_success refine aV ?_
         refine a7 ?_;repeat1' dsimp only[pT,go_sem]
         first
         |refine aW ?_ ?_ rfl ?_
         |apply aX
         |apply aY
         |(refine aZ (fun hc=>?_) fun hc=>?_<;>first|(cases hc;done)|(try simp only[bn]at hc;try contradiction))
         |skip))
       rw[iW]
     ·rw[if_neg hcb];repeat' (first
       |((with_reducible show aF _);first|exact True.intro|(simp only[vb,lb,hcb];and_intros<;>first|omega|(simp<;>omega)))
       |((with_reducible show aO _);exact True.intro)
       |exact(rfl:some _=_)
       |(
        fail_if_success refine aV ?_
        refine a7 ?_;repeat1' dsimp only[pT,eZ,eG,ae,bC,Tree.kind,Tree.steps,Tree.cell,Tree.pos,Tree.kids,go_sem]
        first
        |refine aW ?_ ?_ rfl ?_
        |apply aX
        |apply aY
        |(refine aZ (fun hc=>?_) fun hc=>?_<;>first|(cases hc;done)|(exfalso;(simp at hc<;>omega))|(try simp only[bn]at hc;try contradiction))
        |skip))
    ·by_cases hk2:kd=2
     ·subst hk2;simp[cD]at hf2;obtain⟨⟨⟨t1,t2⟩,rfl⟩,rfl⟩:=hf2;have hcc:=hs.c;unfold nK;rw[if_neg (by decide),if_pos rfl,List.length_map];cases ch with
      |true =>
       repeat' (first
        |((with_reducible show aF _);first|exact True.intro|(simp only[vb,lb,hlt];and_intros<;>first|omega|(simp<;>omega)))
        |((with_reducible show aO _);first|exact True.intro|((try dsimp only[go_sem]);(simp[vb,hlt]<;>omega)))
        |exact(rfl:some _=_)
        |(
         fail_if_success refine aV ?_
         refine bI [(107,{val:=some (.pv (.bool true))})] ?_;repeat1' dsimp only[pT,eZ,eG,ae,bC,Tree.kind,Tree.steps,Tree.cell,Tree.pos,Tree.kids,an,aA,go_sem]
         first
         |refine aW ?_ ?_ rfl ?_
         |apply aX
         |apply aY
         |(refine aZ (fun hc=>?_) fun hc=>?_<;>first|(cases hc;done)|(exfalso;(simp at hc<;>omega))|(try simp only[bn]at hc;try contradiction))
         |skip))
      |false =>
       by_cases hlc:l.length=s.cases.length
       ·rw[decide_eq_true hlc];simp only[Bool.not_false,Bool.true_and];generalize hres:nc rows bb (l.map (bp s)) s.cases=res;repeat' (first
         |((with_reducible show aF _);first|exact True.intro|(simp only[vb,lb,hlt,hlc];and_intros<;>first|omega|(simp<;>omega)))
         |((with_reducible show aO _);first|exact True.intro|((try dsimp only[go_sem]);(simp[vb,hlt,hlc]<;>omega)))
         |exact(rfl:some _=_)
         |(
          fail_if_success refine aV ?_
          refine bI [(107,{val:=some (.pv (.bool false))}),(116,{val:=some (.pv (.bool false))})] ?_;repeat1' dsimp only[pT,eZ,eG,ae,bC,Tree.kind,Tree.steps,Tree.cell,Tree.pos,Tree.kids,an,aA,go_sem]
          first
          |refine aW ?_ ?_ rfl ?_
          |apply aX
          |apply aY
          |(refine aZ (fun hc=>?_) fun hc=>?_<;>first|(cases hc;done)|(exfalso;(simp at hc<;>omega))|(try simp only[bn]at hc;try contradiction))
          |skip))
        refine ek (σ:=Nat) (fun k=>k≤l.length∧nc rows bb ((l.map (bp s)).drop k) (s.cases.drop k)=res)
         (fun k=>[(2,.ptr 0 0 0),(3,.ptr 1 0 0),(119,.pv (an l)),(120,.pv (.int .i64 l.length)),(121,.pv (.int .i64 k))])
         (fun k=>[eZ s rows (.ref 2 1 0 bb.length) false,ae (.node 2 st 0 0 l),bC bb 1]) (fun k=>l.length-k) 0 ⟨Nat.zero_le _,hres⟩ (by (repeat' (first|exact trivial|refine And.intro (by first|rfl|(simp[get,Nat.beq];done)|(simp[get,Nat.beq];omega)|(dsimp only[get];congr 1<;>first|rfl|omega|(simp;done)|(simp;omega))) ?_))) ⟨[],rfl⟩ (fun _ _=>⟨Nat.zero_le _,rfl,by simp[aP,eZ,eG,ae,bC,dJ,Nat.blt]⟩) fun k hq=>?_
        obtain⟨q1,q2⟩:=hq;by_cases hlk:k<l.length
        ·have hkc:k<s.cases.length:=by omega
         have e:=fR l k hlk;have e2:=mh s.cases k hkc;have e3:=l9 s.cases;have hcl:=hs.l _ (aQ (d:=([]:List Rw)) hkc);have hmem:=aQ (d:=zt) hlk;have hwk:=jU hmem;have hih:=ih _ hmem (List.all_eq_true.mp hf3 _ hmem) (by omega) (rows++s.cases.getD k []) bb true (by rw[List.length_append];unfold mi at hr ⊢;simp only[cond_true,cond_false]at hr ⊢;omega) (fun r hr=>by
          rcases List.mem_append.mp hr with h|h
          ·exact hrt r h
          ·exact hcl.2 r h) hb hgo
         have hcon:=ug [rows,s.cases.getD k []] (by simp) (by simp only[kf,List.map_cons,List.map_nil,List.sum_cons,List.sum_nil];omega);rw[show[rows,s.cases.getD k []].flatten=rows++s.cases.getD k [] by simp]at hcon;rw[eD _ k (bp s zt) (by simpa using hlk),eD s.cases k [] hkc,nc]at q2;rw[show(l.map (bp s)).getD k (bp s zt)=bp s (l.getD k zt) by simp[List.getD]]at q2;generalize hrest:nc rows bb ((l.map (bp s)).drop (k+1)) (s.cases.drop (k+1))=rest at *;generalize s.cases.getD k []=cs at *;generalize l.getD k zt=x at *
         generalize bp s x (rows++cs) bb true=qx at *;generalize rows++cs=rows2 at *;obtain⟨x1,x2⟩:=nA bb 1;obtain⟨a0,a1,a2,a3,a4⟩:=x;simp only[aE,Tree.kind,Tree.steps,Tree.cell,Tree.pos,Tree.kids]at hih e;clear ih hres;have hcon:ai ctx 80 [.sl 2 [ay rows,.sl cs.length (cs.flatMap ff)]] (.sl rows2.length (rows2.flatMap ff)):=hcon;have z1:=cz bb;iterate 5 first
          |refine⟨fun _=>?_,fun h=>by simp at h<;>omega⟩
          |refine⟨by simp[vb,e,f3,hlk,e2,e3,hkc,hcon,an]<;>omega,by simp[vb,e,f3,hlk,e2,e3,hkc,hcon,an]<;>omega,?_⟩
          |(refine dH [(80,fun _=>some (.sl rows2.length (rows2.flatMap ff)))] [(125,{val:=some (.pv (.agg [.int .i64 a0,aa a1,.int .i64 a2,.int .i64 a3,an a4]))}),(134,{val:=some (.pv (.sl cs.length (cs.flatMap ff)))})] ?_;iterate 2 (try dsimp only[eZ,eG,ae,bC,Tree.kind,Tree.steps,Tree.cell,Tree.pos,Tree.kids,an,aA,go_sem]))
         refine dH [(80,fun _=>some (.sl rows2.length (rows2.flatMap ff)))] [(125,{val:=some (.pv (.agg [.int .i64 a0,aa a1,.int .i64 a2,.int .i64 a3,an a4]))}),(134,{val:=some (.pv (.sl cs.length (cs.flatMap ff)))})] ?_;dsimp only[eZ,eG,ae,bC,Tree.kind,Tree.steps,Tree.cell,Tree.pos,Tree.kids,an,aA,go_sem];try dsimp only[eZ,eG,ae,bC,Tree.kind,Tree.steps,Tree.cell,Tree.pos,Tree.kids,an,aA,go_sem]
         refine⟨(by first|exact True.intro|(simp only[vb,lb];omega)|(simp only[vb,lb,e,f3,hlk,e2,e3,hkc,hcon,an];and_intros<;>first|omega|(simp<;>omega))|(simp[vb,e,f3,hlk,e2,e3,hkc,hcon,an]<;>omega)),(by first|exact True.intro|((try dsimp only[go_sem]);first|(simp[vb,e,f3,hlk,e2,e3,hkc,hcon,an]<;>omega)|(simp only[vb,and_true,true_implies];(repeat' (first|(with_reducible assumption)|(with_reducible apply And.intro)|intro _|((fail_if_success (with_reducible show(_:Int)≤_));assumption)))<;>first|omega|rfl|(simp only[ab,e,f3,hlk,e2,e3,hkc,hcon,an];done)|(simp[Nat.mul_one,e,f3,hlk,e2,e3,hkc,hcon,an]<;>omega)|(simp_all;done)))),?_⟩
         refine dH [(80,fun _=>some (.sl rows2.length (rows2.flatMap ff)))] [(125,{val:=some (.pv (.agg [.int .i64 a0,aa a1,.int .i64 a2,.int .i64 a3,an a4]))}),(134,{val:=some (.pv (.sl cs.length (cs.flatMap ff)))})] ?_;dsimp only[eZ,eG,ae,bC,Tree.kind,Tree.steps,Tree.cell,Tree.pos,Tree.kids,an,aA,go_sem];try dsimp only[eZ,eG,ae,bC,Tree.kind,Tree.steps,Tree.cell,Tree.pos,Tree.kids,an,aA,go_sem]
         refine⟨(by simp[vb,e,f3,hlk,e2,e3,hkc,hcon,an]<;>omega),(by simp[vb,e,f3,hlk,e2,e3,hkc,hcon,an]<;>omega),?_⟩;refine bU (kQ (T:=[(80,fun _=>some (.sl rows2.length (rows2.flatMap ff)))]) (H:=[(125,{val:=some (.pv (.agg [.int .i64 a0,aa a1,.int .i64 a2,.int .i64 a3,an a4]))}),(134,{val:=some (.pv (.sl cs.length (cs.flatMap ff)))})]) (by rfl) ?_);dsimp only[eB,eZ,eG,ae,bC,Tree.kind,Tree.steps,Tree.cell,Tree.pos,Tree.kids,an,aA,go_sem];try dsimp only[eZ,eG,ae,bC,Tree.kind,Tree.steps,Tree.cell,Tree.pos,Tree.kids,an,aA,go_sem]
         refine⟨(by simp[vb,e,f3,hlk,e2,e3,hkc,hcon,an]<;>omega),(by simp[vb,e,f3,hlk,e2,e3,hkc,hcon,an]<;>omega),?_⟩;iterate 4 (try dsimp only[go_sem])
         unfold an ah at hih;have x3:(0+bb.length*2).ble ((bb.flatMap gZ).map AV.pv).length=true:=by rw[List.length_map,z1];simp
         refine bI [(141,{val:=some (.pv (.bool qx)),args:=some [.agg [.sl s.box.length (s.box.flatMap gZ),ay s.rows,aI s.graphs,aA s.cases,.sl rows2.length (rows2.flatMap ff),.sl bb.length (bb.flatMap gZ),.bool true],.agg [.int .i64 a0,aa a1,.int .i64 a2,.int .i64 a3,.sl a4.length (a4.flatMap gu)]]})] ?_;dsimp only[an,ah,aA,go_sem];try dsimp only[an,ah,aA,go_sem]
         refine⟨(by simp[vb]<;>omega),?_,?_⟩
         ·iterate 3 (try dsimp only[go_sem])
          unfold aA at hih;simp only[x3,x2,cond_true];exact⟨trivial,hih,trivial⟩
         cases qx with
         |true =>
          repeat' (first
           |((with_reducible show aF _);first|exact True.intro|(simp only[vb,lb,hlk];and_intros<;>first|omega|(simp<;>omega)))
           |((with_reducible show aO _);exact True.intro)
           |exact(rfl:some _=_)
           |(
            fail_if_success refine aV ?_
            refine a7 ?_;repeat1' dsimp only[pT,go_sem]
            first
            |refine aW ?_ ?_ rfl ?_
            |apply aX
            |apply aY
            |(refine aZ (fun hc=>?_) fun hc=>?_<;>first|(cases hc;done)|(try simp only[bn]at hc;try contradiction))
            |skip))
          exact⟨k+1,by show l.length-(k+1)<l.length-k;omega,⟨by show k+1≤_;omega,by rw[←q2];simpa using hrest⟩,by (repeat' (first|exact trivial|refine And.intro (by first|rfl|(simp[get,Nat.beq];done)|(simp[get,Nat.beq];omega)|(dsimp only[get];congr 1<;>first|rfl|omega|(simp;done)|(simp;omega))) ?_)),_,rfl⟩
         |false =>
          repeat' (first
           |((with_reducible show aF _);first|exact True.intro|(simp only[vb,lb,hlk];and_intros<;>first|omega|(simp<;>omega)))
           |((with_reducible show aO _);exact True.intro)
           |exact(rfl:some _=_)
           |(
            fail_if_success refine aV ?_
            refine a7 ?_;repeat1' dsimp only[pT,go_sem]
            first
            |refine aW ?_ ?_ rfl ?_
            |apply aX
            |apply aY
            |(refine aZ (fun hc=>?_) fun hc=>?_<;>first|(cases hc;done)|(try simp only[bn]at hc;try contradiction))
            |skip))
          rw[←q2];rfl
        ·obtain rfl:k=l.length:=by omega
         rw[List.drop_of_length_le (by simp),nc]at q2;subst q2;repeat' (first
          |((with_reducible show aF _);exact True.intro)
          |((with_reducible show aO _);exact True.intro)
          |exact(rfl:some _=_)
          |(
           fail_if_success refine aV ?_
           refine a7 ?_;repeat1' dsimp only[pT,eZ,eG,ae,bC,Tree.kind,Tree.steps,Tree.cell,Tree.pos,Tree.kids,an,aA,go_sem]
           first
           |refine aW ?_ ?_ rfl ?_
           |apply aX
           |apply aY
           |(refine aZ (fun hc=>?_) fun hc=>?_<;>first|(cases hc;done)|(exfalso;(simp at hc<;>omega))|(try simp only[bn]at hc;try contradiction))
           |skip))
         all_goals (intro _ _ _ _ h;cases h)
       ·rw[decide_eq_false hlc];have hlc':¬(l.length:Int)=(s.cases.length:Int):=by omega
        repeat' (first
         |((with_reducible show aF _);first|exact True.intro|(simp only[vb,lb,hlt,hlc'];and_intros<;>first|omega|(simp<;>omega)))
         |((with_reducible show aO _);first|exact True.intro|((try dsimp only[go_sem]);(simp[vb,hlt,hlc']<;>omega)))
         |exact(rfl:some _=_)
         |(
          fail_if_success refine aV ?_
          refine bI [(107,{val:=some (.pv (.bool false))}),(116,{val:=some (.pv (.bool true))})] ?_;repeat1' dsimp only[pT,eZ,eG,ae,bC,Tree.kind,Tree.steps,Tree.cell,Tree.pos,Tree.kids,an,aA,go_sem]
          first
          |refine aW ?_ ?_ rfl ?_
          |apply aX
          |apply aY
          |(refine aZ (fun hc=>?_) fun hc=>?_<;>first|(cases hc;done)|(exfalso;(simp at hc<;>omega))|(try simp only[bn]at hc;try contradiction))
          |skip))
     ·rw[show nK s kd c a (l.map (bp s)) rows bb ch=false by rw[nK,if_neg hk1,if_neg hk2]];repeat' (first
       |((with_reducible show aF _);first|exact True.intro|(simp only[vb,lb,hk1,hk2];and_intros<;>first|omega|(simp<;>omega)))
       |((with_reducible show aO _);exact True.intro)
       |exact(rfl:some _=_)
       |(
        fail_if_success refine aV ?_
        refine a7 ?_;repeat1' dsimp only[pT,eZ,eG,ae,bC,Tree.kind,Tree.steps,Tree.cell,Tree.pos,Tree.kids,go_sem]
        first
        |refine aW ?_ ?_ rfl ?_
        |apply aX
        |apply aY
        |(refine aZ (fun hc=>?_) fun hc=>?_<;>first|(cases hc;done)|(exfalso;(simp at hc<;>omega))|(try simp only[bn]at hc;try contradiction))
        |skip))
end
section
open Rf
theorem uk.of {s:Sy} (h:ja s=true) (hs:Dv s):uk s∧(∀q∈s.graphs,bS s.box.length q=true)∧s.rows.length≤1000000:=by
 simp only[ja,Bool.and_eq_true,decide_eq_true_eq]at h;obtain⟨⟨⟨⟨⟨⟨h1,h2⟩,h3⟩,h4⟩,h5⟩,h6⟩,h7⟩:=h;refine⟨⟨hs.g,by omega,fun l hl=>⟨?_,hs.ct l hl⟩⟩,fun q hq=>List.all_eq_true.mp h6 q hq,by omega⟩;have:=List.all_eq_true.mp h7 l hl;simp only[gK,Bool.and_eq_true,decide_eq_true_eq]at this;omega
set_option maxHeartbeats 4000000 in
theorem Dj (s:Sy) (hs:Dv s) (t:Tree) (ht:wt t≤1000000000):ai ctx 22 [.agg [ah s.box,ay s.rows,aI s.graphs,aA s.cases],aE t] (.bool (se s t)):=by
 have h1:=w9 s hs;have h2:=so t ht;have h3:ja s=true→gz t=true→ai ctx 47 [.agg [ah s.box,ay s.rows,aI s.graphs,aA s.cases,ay s.rows,ah s.box,.bool false],aE t] (.bool (bp s t s.rows s.box false)):=fun a b=>by
  obtain⟨g1,g2,g3⟩:=uk.of a hs;simp only[gz,Bool.and_eq_true]at b;exact yN s g1 t b.2 ht s.rows s.box false g3 hs.rt hs.b g2
 unfold se;generalize bp s t s.rows s.box false=q3 at *;generalize ja s=q1 at *;generalize gz t=q2 at *;unfold ah ay aI aA at h1 h3;simp only[aE]at h2 h3;unfold aa an at h2 h3;cases q1 with
 |false =>
  refine af (C:=ctx) (Fn.of Ea rfl) rfl ?_;unfold GQ;refine iu [(46,fun _=>some (.bool false)),(13,fun _=>some (.bool q2))] ?_;dsimp only[aE,aa,an,ah,ay,aI,aA,go_sem];try dsimp only[aE,aa,an,ah,ay,aI,aA,go_sem]
  refine⟨(by simp[vb,h1,h2]<;>omega),(by simp[vb,h1,h2]<;>omega),?_⟩;refine bU (jy (T:=[(46,fun _=>some (.bool false)),(13,fun _=>some (.bool q2))]) (H:=[]) ?_);dsimp only[aE,aa,an,ah,ay,aI,aA,go_sem];try dsimp only[aE,aa,an,ah,ay,aI,aA,go_sem]
  refine⟨(by first|exact True.intro|(simp only[vb,lb];omega)|(simp only[vb,lb,h1,h2];and_intros<;>first|omega|(simp<;>omega))|(simp[vb,h1,h2]<;>omega)),(by first|exact True.intro|((try dsimp only[go_sem]);first|(simp[vb,h1,h2]<;>omega)|(simp only[vb,and_true,true_implies];(repeat' (first|(with_reducible assumption)|(with_reducible apply And.intro)|intro _|((fail_if_success (with_reducible show(_:Int)≤_));assumption)))<;>first|omega|rfl|(simp only[ab,h1,h2];done)|(simp[Nat.mul_one,h1,h2]<;>omega)|(simp_all;done)))),?_⟩;refine iu [(46,fun _=>some (.bool false)),(13,fun _=>some (.bool q2))] ?_
  dsimp only[aE,aa,an,ah,ay,aI,aA,go_sem];exact⟨trivial,rfl⟩
 |true =>
  cases q2 with
  |false =>
   refine af (C:=ctx) (Fn.of Ea rfl) rfl ?_;unfold GQ;refine iu [(46,fun _=>some (.bool true)),(13,fun _=>some (.bool false))] ?_;dsimp only[aE,aa,an,ah,ay,aI,aA,go_sem];try dsimp only[aE,aa,an,ah,ay,aI,aA,go_sem]
   refine⟨(by simp[vb,h1,h2]<;>omega),(by simp[vb,h1,h2]<;>omega),?_⟩;refine bU (jy (T:=[(46,fun _=>some (.bool true)),(13,fun _=>some (.bool false))]) (H:=[]) ?_);dsimp only[aE,aa,an,ah,ay,aI,aA,go_sem];try dsimp only[aE,aa,an,ah,ay,aI,aA,go_sem]
   refine⟨(by first|exact True.intro|(simp only[vb,lb];omega)|(simp only[vb,lb,h1,h2];and_intros<;>first|omega|(simp<;>omega))|(simp[vb,h1,h2]<;>omega)),(by first|exact True.intro|((try dsimp only[go_sem]);first|(simp[vb,h1,h2]<;>omega)|(simp only[vb,and_true,true_implies];(repeat' (first|(with_reducible assumption)|(with_reducible apply And.intro)|intro _|((fail_if_success (with_reducible show(_:Int)≤_));assumption)))<;>first|omega|rfl|(simp only[ab,h1,h2];done)|(simp[Nat.mul_one,h1,h2]<;>omega)|(simp_all;done)))),?_⟩
   refine iu [(46,fun _=>some (.bool true)),(13,fun _=>some (.bool false))] ?_;dsimp only[aE,aa,an,ah,ay,aI,aA,go_sem];exact⟨trivial,rfl⟩
  |true =>
   have h3:=h3 rfl rfl;refine af (C:=ctx) (Fn.of Ea rfl) rfl ?_;unfold GQ;refine iu [(46,fun _=>some (.bool true)),(13,fun _=>some (.bool true)),(47,fun _=>some (.bool q3))] ?_;dsimp only[aE,aa,an,ah,ay,aI,aA,go_sem];try dsimp only[aE,aa,an,ah,ay,aI,aA,go_sem]
   refine⟨(by simp[vb,h1,h2,h3]<;>omega),(by simp[vb,h1,h2,h3]<;>omega),?_⟩;refine bU (jy (T:=[(46,fun _=>some (.bool true)),(13,fun _=>some (.bool true)),(47,fun _=>some (.bool q3))]) (H:=[]) ?_);dsimp only[aE,aa,an,ah,ay,aI,aA,go_sem];try dsimp only[aE,aa,an,ah,ay,aI,aA,go_sem]
   refine⟨(by first|exact True.intro|(simp only[vb,lb];omega)|(simp only[vb,lb,h1,h2,h3];and_intros<;>first|omega|(simp<;>omega))|(simp[vb,h1,h2,h3]<;>omega)),(by first|exact True.intro|((try dsimp only[go_sem]);first|(simp[vb,h1,h2,h3]<;>omega)|(simp only[vb,and_true,true_implies];(repeat' (first|(with_reducible assumption)|(with_reducible apply And.intro)|intro _|((fail_if_success (with_reducible show(_:Int)≤_));assumption)))<;>first|omega|rfl|(simp only[ab,h1,h2,h3];done)|(simp[Nat.mul_one,h1,h2,h3]<;>omega)|(simp_all;done)))),?_⟩
   refine iu [(46,fun _=>some (.bool true)),(13,fun _=>some (.bool true)),(47,fun _=>some (.bool q3))] ?_;dsimp only[aE,aa,an,ah,ay,aI,aA,go_sem];exact⟨trivial,rfl⟩
end
end Pur
end
section
namespace Rf
def jR (c:Int) (a:Int):List Tm→Int
 |[]=>a
 |t::r=>jR c (if t.cell=c then t.fac else a) r
theorem pc (c:Int):∀(l m:List Tm) (a:Int),jR c a (l++m)=jR c (jR c a l) m
 |[],m,a=>rfl
 |t::r,m,a=>by rw[List.cons_append,jR,jR,pc c r m]
theorem sR (c:Int):∀(l:List Tm) (a:Int),(∀t∈l,t.cell≠c)→jR c a l=a
 |[],_,_=>rfl
 |t::r,a,h=>by rw[jR,if_neg (h t (by simp)),sR c r a fun x hx=>h x (by simp[hx])]
theorem xh (n c:Int):∀(l:List Tm) (last:Int),-1≤last→fc n last l=true→jR c 0 l=kS c l
 |[],_,_,_=>rfl
 |t::r,last,h,e=>by
  have h0:=(kX n (t::r) last h e).2 t (by simp);have e':=e;simp only[fc,Bool.and_eq_true]at e';have h2:=(kX n r t.cell (by omega) e'.2).2;rw[jR,kS];by_cases hc:t.cell=c
  ·rw[if_pos hc,if_pos hc];exact sR c r _ fun x hx=>by have:=(h2 x hx).2.1;omega
  ·rw[if_neg hc,if_neg hc];exact xh n c r t.cell (by omega) e'.2
end Rf
namespace Pur
open Go.RowKit
attribute [local go_sem] bG eW bN bu dt fP List.map a8 aH get put tmpsOf dD iL gy im conds ev cond_true cond_false Nat.beq Nat.ble Nat.add quiet dE cB cC ox List.append_eq List.nil_append List.cons_append dC cf cg cj ck cp cu eV eQ di iN dB calm quiet.isCallK cF List.getElem?_cons_zero List.getElem?_cons_succ bk bW cellsOf List.all bA List.length_cons List.length_nil eI bc List.drop List.take List.getD Option.getD_some qc qd pz qe qf qg ef fZ eg eh setAt List.set Nat.reduceAdd Nat.reduceMul cx bq refsOf bD bJ scalar cw dZ bT cv aM after freeze gV gF aS dm dK dd ew cR cS bZ cT cU cX cY cZ c6 c7 c8 da db dc b6 b7 b8 dj iO bytesOf bE cM aR bB dP bw bO cG still bM dY du dR bL ey List.isEmpty b9 ca cd Int.reduceToNat Nat.mul_one Nat.reduceSub nY cN bY dL cE look dM strip guarded fC eA eH cL dQ dk gP cV cW Bool.or_false Bool.or_true Bool.and_true Bool.and_false Nat.blt fQ fq fU dG idxOf gG gH iM eT aM my
open Rf
def c124:az:=(⟨_,by conv=>(lhs;reduce;try simp only[ei,Int.cast_ofNat_Int,Int.reduceNegSucc,UInt8.reduceOfNat])⟩:{x // codeOf Tryz.prog 124 (fun _=>false)=some x}).1
theorem Hj:bF Tryz.prog 124 (fun _=>false)=some (c124,[.t 4],16,true):=by kernel_rfl
def c130:az:=(⟨_,by conv=>(lhs;reduce;try simp only[ei,Int.cast_ofNat_Int,Int.reduceNegSucc,UInt8.reduceOfNat])⟩:{x // codeOf Tryz.prog 130 (fun _=>false)=some x}).1
theorem Fs:bF Tryz.prog 130 (fun _=>false)=some (c130,[.t 6],22,true):=by kernel_rfl
def c109:az:=(⟨_,by conv=>(lhs;reduce;try simp only[ei,Int.cast_ofNat_Int,Int.reduceNegSucc,UInt8.reduceOfNat])⟩:{x // codeOf Tryz.prog 109 (fun _=>false)=some x}).1
theorem Dk:bF Tryz.prog 109 (fun _=>false)=some (c109,[.cell 6 2 true],92,true):=by kernel_rfl
theorem zO (a f:Int) (hf:0<f) (h1: -1000000000000≤a) (h2:a≤1000000000000) (h3:f≤1000000000000):ai ctx 124 [.int .i64 a,.int .i64 f] (.int .i64 (a / f)):=by
 have hd:(a.tmod f<0∧a / f=a.tdiv f-1)∨(0≤a.tmod f∧a / f=a.tdiv f):=by
  rw[zJ a f hf];split<;>omega
 have g2:=Int.tmod_lt_of_pos a hf;have g3:=Int.lt_tmod_of_pos a hf;have g4:(a.tdiv f).natAbs≤a.natAbs:=Int.natAbs_tdiv_le_natAbs a f;have hw:IntKind.i64.wrap (a.tdiv f)=a.tdiv f:=iB (by unfold lD;omega) (by unfold hJ;omega);generalize a / f=q at *;refine af (C:=ctx) (Fn.of Hj rfl) rfl ?_;unfold c124;repeat' (first
  |((with_reducible show aF _);first|exact True.intro|(simp[vb]<;>omega))
  |((with_reducible show aO _);exact True.intro)
  |exact(rfl:some _=_)
  |(
   fail_if_success refine aV ?_
   refine bI [(7,{mode:=1}),(11,{mode:=1}),(15,{mode:=1})] ?_;repeat1' dsimp only[c124,go_sem]
   first
   |refine aW ?_ ?_ rfl ?_
   |apply aX
   |apply aY
   |(refine aZ (fun hc=>?_) fun hc=>?_<;>first|(cases hc;done)|(try simp only[bn]at hc;try contradiction))
   |skip))
 all_goals
  refine congrArg (fun x=>some (PV.int .i64 x)) ?_;omega
theorem Gs (t:Tm) (y:Rg) (h1: -1000≤t.fac) (h2:t.fac≤1000) (hy:l7 y=true):ai ctx 130 [.agg [.int .i64 t.cell,.int .i64 t.fac],.agg [.int .i64 y.lo,.int .i64 y.hi],.bool true] (.int .i64 (if 0<t.fac then t.fac*y.lo else t.fac*y.hi)):=by
 have hy:=kY hy;have q1:=vh h1 h2 (show -1000000≤y.lo by omega) (by omega);have q2:=vh h1 h2 (show -1000000≤y.hi by omega) (by omega);by_cases hf:0<t.fac
 ·simp only[hf,if_true];refine af (C:=ctx) (Fn.of Fs rfl) rfl ?_;unfold c130;repeat' (first
   |((with_reducible show aF _);first|exact True.intro|(simp only[vb,lb,hf];and_intros<;>first|omega|(simp<;>omega)))
   |((with_reducible show aO _);exact True.intro)
   |exact(rfl:some _=_)
   |(
    fail_if_success refine aV ?_
    refine a7 ?_;repeat1' dsimp only[c130,go_sem]
    first
    |refine aW ?_ ?_ rfl ?_
    |apply aX
    |apply aY
    |(refine aZ (fun hc=>?_) fun hc=>?_<;>first|(cases hc;done)|(exfalso;(simp at hc<;>omega))|(try simp only[bn]at hc;try contradiction))
    |skip))
 ·simp only[hf,if_false];refine af (C:=ctx) (Fn.of Fs rfl) rfl ?_;unfold c130;repeat' (first
   |((with_reducible show aF _);first|exact True.intro|(simp only[vb,lb,hf];and_intros<;>first|omega|(simp<;>omega)))
   |((with_reducible show aO _);exact True.intro)
   |exact(rfl:some _=_)
   |(
    fail_if_success refine aV ?_
    refine a7 ?_;repeat1' dsimp only[c130,go_sem]
    first
    |refine aW ?_ ?_ rfl ?_
    |apply aX
    |apply aY
    |(refine aZ (fun hc=>?_) fun hc=>?_<;>first|(cases hc;done)|(exfalso;(simp at hc<;>omega))|(try simp only[bn]at hc;try contradiction))
    |skip))
end Pur
end
section
namespace Pur
open Go.RowKit
attribute [local go_sem] bG eW bN bu dt fP List.map a8 aH get put tmpsOf dD iL gy im conds ev cond_true cond_false Nat.beq Nat.ble Nat.add quiet dE cB cC ox List.append_eq List.nil_append List.cons_append dC cf cg cj ck cp cu eV eQ di iN dB calm quiet.isCallK cF List.getElem?_cons_zero List.getElem?_cons_succ bk bW cellsOf List.all bA List.length_cons List.length_nil eI bc List.drop List.take List.getD Option.getD_some qc qd pz qe qf qg ef fZ eg eh setAt List.set Nat.reduceAdd Nat.reduceMul cx bq refsOf bD bJ scalar cw dZ bT cv aM after freeze gV gF aS dm dK dd ew cR cS bZ cT cU cX cY cZ c6 c7 c8 da db dc b6 b7 b8 dj iO bytesOf bE cM aR bB dP bw bO cG still bM dY du dR bL ey List.isEmpty b9 ca cd Int.reduceToNat Nat.mul_one Nat.reduceSub nY cN bY dL cE look dM strip guarded fC eA eH cL dQ dk gP cV cW Bool.or_false Bool.or_true Bool.and_true Bool.and_false Nat.blt fQ fq fU dG idxOf gG gH iM eT aM my
section
open Rf
set_option maxHeartbeats 4000000 in
theorem sS (b:List Rg) (r:Rw) (c:Int) (hv:fV b [r]=true) (hc0:0≤c) (hc1:c<b.length) (hV:ai ctx 60 [ah b,.sl 1 [av r.terms,.int .i64 r.bound]] (.bool true)):ai ctx 109 [.agg [av r.terms,.int .i64 r.bound],ah b,.int .i64 c] (.agg [.int .i64 (gL r b c).lo,.int .i64 (gL r b c).hi]):=by
 obtain⟨v1,v2,v3,v4,v5,v6⟩:=sE hv;have hsm:=nu v1 c r.terms fun t ht=>by have:=v6 t ht;omega
 have e:=kF b c hc0 hc1;have hx:=kY (ig v1 c.toNat);have f1:=iK r.terms;have f2:=cz b;have hF:jR c 0 r.terms=kS c r.terms:=by
  have:=hv;simp only[fV,List.all_cons,List.all_nil,Bool.and_true,Bool.and_eq_true,ic]at this;exact xh _ c _ _ (by omega) this.2.1
 unfold gL;obtain⟨ts,bd⟩:=r;simp only at *;generalize hxx:b.getD c.toNat zr=x at *;clear hv;refine af (C:=ctx) (Fn.of Dk rfl) rfl ?_;unfold c109;repeat' (first
  |((with_reducible show aF _);first|exact True.intro|(simp only[vb,lb,e,f1,f2,hc0,hc1,hV];and_intros<;>first|omega|(simp<;>omega)))
  |((with_reducible show aO _);first|exact True.intro|((try dsimp only[go_sem]);first|(simp[vb,e,f1,f2,hc0,hc1,hV]<;>omega)|(simp only[vb,and_true,true_implies];(repeat' (first|(with_reducible assumption)|(with_reducible apply And.intro)|intro _|((fail_if_success (with_reducible show(_:Int)≤_));assumption)))<;>first|(simp only[ab,e,f1,f2,hc0,hc1,hV];done)|(simp[Nat.mul_one,e,f1,f2,hc0,hc1,hV]<;>omega))))
  |exact(rfl:some _=_)
  |(
   fail_if_success refine aV ?_
   refine dH [(60,fun _=>some (.bool true))] [(31,{val:=some (.pv (.agg [.int .i64 x.lo,.int .i64 x.hi]))})] ?_;repeat1' dsimp only[c109,av,ah,go_sem]
   first
   |refine aW ?_ ?_ rfl ?_
   |apply aX
   |apply aY
   |(refine aZ (fun hc=>?_) fun hc=>?_<;>first|(cases hc;done)|(exfalso;(simp at hc<;>omega))|(try simp only[bn]at hc;try contradiction))
   |skip))
 refine bK ts.length (fun _=>True) (fun k=>[(1,.pv (ah b)),(2,.pv (.int .i64 c)),(3,.ptr 0 0 0),(6,.ptr 1 0 0),(7,.ptr 2 0 0),(8,.pv (.int .i64 (bd-fD b c (ts.take k)))),(9,.pv (.int .i64 (jR c 0 (ts.take k)))),(10,.pv (.int .i64 k))]) (fun _=>[⟨[.pv (av ts),.pv (.int .i64 bd)],0,2,62,false⟩,⟨[.pv (.int .i64 0),.pv (.int .i64 0)],0,2,57,false⟩,⟨[.pv (.int .i64 x.lo),.pv (.int .i64 x.hi)],0,2,57,false⟩]) trivial (by (repeat' (first|exact trivial|refine And.intro (by first|rfl|(simp[get,Nat.beq,fD,jR];done)|(simp[get,Nat.beq,fD,jR];omega)|(dsimp only[get];congr 1<;>first|rfl|omega|(simp;done)|(simp;omega))) ?_))) ⟨_,rfl⟩ (fun _=>⟨Nat.zero_le _,rfl,rfl⟩) fun k hk _=>?_
 by_cases hlt:k<ts.length
 ·have e:=cK l8 ts k zm hlt;have h1:=mf b c (ts.take k) [ts.getD k zm];rw[←aU ts k zm hlt,fD,fD]at h1;have h4:=pc c (ts.take k) [ts.getD k zm] 0;rw[←aU ts k zm hlt,jR,jR]at h4;have h2:=nu v1 c (ts.take k) fun t ht=>by have:=v6 t (List.mem_of_mem_take ht);omega
  rw[List.length_take]at h2;obtain⟨q1,q2,q3,q4,q5⟩:=v6 _ (aQ (d:=zm) hlt);have h3:=vi (t:=ts.getD k zm) v1 q4 q5;have hE:=Gs (ts.getD k zm) (b.getD (ts.getD k zm).cell.toNat zr) q4 q5 (ig v1 _);have hen:yo b (ts.getD k zm)=if 0<(ts.getD k zm).fac then (ts.getD k zm).fac*(b.getD (ts.getD k zm).cell.toNat zr).lo else (ts.getD k zm).fac*(b.getD (ts.getD k zm).cell.toNat zr).hi:=rfl
  rw[←hen]at hE;clear hen;rw[h1,h4];clear h1 h4 v6;generalize ts.getD k zm=x at *;generalize yo b x=en at *;have e2:=kF b x.cell q1 q2;generalize b.getD x.cell.toNat zr=y at *;generalize fD b c (ts.take k)=sm at *;generalize jR c 0 (ts.take k)=lf at *;by_cases hcc:x.cell=c
  ·repeat' (first
    |((with_reducible show aF _);(simp only[vb,lb,e,e2,f1,f2,hlt,q1,q2,ke,hcc];and_intros<;>first|omega|(simp<;>omega)))
    |((with_reducible show aO _);first|exact True.intro|((try dsimp only[go_sem]);(simp[vb,e,e2,f1,f2,hlt,q1,q2,ke,hcc]<;>omega)))
    |exact(rfl:some _=_)
    |(
     fail_if_success refine aV ?_
     refine bI [(45,{val:=some (.pv (.agg [.int .i64 x.cell,.int .i64 x.fac]))}),(49,{val:=some (.pv (.bool true))})] ?_;repeat1' dsimp only[c109,av,ah,go_sem]
     first
     |refine aW ?_ ?_ rfl ?_
     |apply aX
     |apply aY
     |(refine aZ (fun hc=>?_) fun hc=>?_<;>first|(cases hc;done)|(exfalso;(simp at hc<;>omega))|(try simp only[bn]at hc;try contradiction))
     |skip))
   refine⟨hlt,trivial,by simp[hcc];(repeat' (first|exact trivial|refine And.intro (by first|rfl|(simp[get,Nat.beq];done)|(simp[get,Nat.beq];omega)|(dsimp only[get];congr 1<;>first|rfl|omega|(simp;done)|(simp;omega))) ?_)),_,rfl⟩
  ·repeat' (first
    |((with_reducible show aF _);(simp only[vb,lb,e,e2,f1,f2,hlt,q1,q2,ke,hcc,hE];and_intros<;>first|omega|(simp<;>omega)))
    |((with_reducible show aO _);first|exact True.intro|((try dsimp only[go_sem]);(simp[vb,e,e2,f1,f2,hlt,q1,q2,ke,hcc,hE]<;>omega)))
    |exact(rfl:some _=_)
    |(
     fail_if_success refine aV ?_
     refine dH [(130,fun _=>some (.int .i64 en))] [(45,{val:=some (.pv (.agg [.int .i64 x.cell,.int .i64 x.fac]))}),(49,{val:=some (.pv (.bool false))}),(58,{val:=some (.pv (.agg [.int .i64 y.lo,.int .i64 y.hi]))})] ?_;repeat1' dsimp only[c109,av,ah,go_sem]
     first
     |refine aW ?_ ?_ rfl ?_
     |apply aX
     |apply aY
     |(refine aZ (fun hc=>?_) fun hc=>?_<;>first|(cases hc;done)|(exfalso;(simp at hc<;>omega))|(try simp only[bn]at hc;try contradiction))
     |skip))
   refine⟨hlt,trivial,by simp[hcc];(repeat' (first|exact trivial|refine And.intro (by first|rfl|(simp[get,Nat.beq];done)|(simp[get,Nat.beq];omega)|(dsimp only[get];congr 1<;>first|rfl|omega|(simp;done)|(simp;omega))) ?_)),_,rfl⟩
 ·obtain rfl:k=ts.length:=by omega
  have hfb: -1000≤kS c ts∧kS c ts≤1000:=by
   rcases pY c ts with⟨g1,g2⟩|⟨k,g1,g2,g3⟩
   ·rw[ov c ts g2];omega
   ·rw[g3];have:=v6 _ (aQ (d:=zm) g2);omega
  rw[List.take_length,hF];clear v6 hF;generalize kS c ts=f at *;generalize fD b c ts=sm at *;by_cases f0:f=0
  ·subst f0;simp only[if_true];repeat' (first
    |((with_reducible show aF _);first|exact True.intro|(simp only[vb,lb,hlt];and_intros<;>first|omega|(simp<;>omega)))
    |((with_reducible show aO _);first|exact True.intro|((try dsimp only[go_sem]);(simp[vb,hlt]<;>omega)))
    |exact(rfl:some _=_)
    |(
     fail_if_success refine aV ?_
     refine a7 ?_;repeat1' dsimp only[c109,av,ah,go_sem]
     first
     |refine aW ?_ ?_ rfl ?_
     |apply aX
     |apply aY
     |(refine aZ (fun hc=>?_) fun hc=>?_<;>first|(cases hc;done)|(exfalso;(simp at hc<;>omega))|(try simp only[bn]at hc;try contradiction))
     |skip))
  ·by_cases hf:0<f
   ·have hd:=zO (bd-sm) f hf (by omega) (by omega) (by omega);simp only[hf,f0,if_true,if_false];generalize (bd-sm) / f=q at *;repeat' (first
     |((with_reducible show aF _);first|exact True.intro|(simp only[vb,lb,hlt,hd,hf];and_intros<;>first|omega|(simp<;>omega)))
     |((with_reducible show aO _);first|exact True.intro|((try dsimp only[go_sem]);(simp[vb,hlt,hd,hf]<;>omega)))
     |exact(rfl:some _=_)
     |(
      fail_if_success refine aV ?_
      refine iu [(124,fun _=>some (.int .i64 q))] ?_;repeat1' dsimp only[c109,av,ah,go_sem]
      first
      |refine aW ?_ ?_ rfl ?_
      |apply aX
      |apply aY
      |(refine aZ (fun hc=>?_) fun hc=>?_<;>first|(cases hc;done)|(exfalso;(simp at hc<;>omega))|(try simp only[bn]at hc;try contradiction))
      |skip))
    ·rw[fL]at hc;rw[if_pos hc.2]
    ·rw[fL]at hc ⊢;rw[if_neg (hc.resolve_left f0)]
   ·have hd:=zO (bd-sm) (-f) (by omega) (by omega) (by omega) (by omega);have hq:((bd-sm) / -f).natAbs≤(bd-sm).natAbs:=Int.natAbs_ediv_le_natAbs _ _;simp only[hf,f0,if_false];generalize (bd-sm) / -f=q at *;repeat' (first
     |((with_reducible show aF _);first|exact True.intro|(simp only[vb,lb,hlt,hd,hf];and_intros<;>first|omega|(simp<;>omega)))
     |((with_reducible show aO _);first|exact True.intro|((try dsimp only[go_sem]);(simp[vb,hlt,hd,hf]<;>omega)))
     |exact(rfl:some _=_)
     |(
      fail_if_success refine aV ?_
      refine iu [(124,fun _=>some (.int .i64 q))] ?_;repeat1' dsimp only[c109,av,ah,go_sem]
      first
      |refine aW ?_ ?_ rfl ?_
      |apply aX
      |apply aY
      |(refine aZ (fun hc=>?_) fun hc=>?_<;>first|(cases hc;done)|(exfalso;(simp at hc<;>omega))|(try simp only[bn]at hc;try contradiction))
      |skip))
    ·rw[jf]at hc;rw[if_pos hc.2]
    ·rw[jf]at hc ⊢;rw[if_neg (hc.resolve_left f0)]
theorem te (b:List Rg) (r:Rw) (c:Int) (hb:b.length≤1000000000) (hr:r.terms.length≤1000000000):ai ctx 109 [.agg [av r.terms,.int .i64 r.bound],ah b,.int .i64 c] (.agg [.int .i64 (fu r b c).lo,.int .i64 (fu r b c).hi]):=by
 have hv:ai ctx 60 [.sl b.length (b.flatMap gZ),.sl 1 [.sl r.terms.length (r.terms.flatMap ke),.int .i64 r.bound]] (.bool (fV b [r])):=jC b [r] hb (by simp) fun x hx=>by simp at hx;subst hx;exact hr
 by_cases hc:fV b [r]=true∧0≤c∧c<b.length
 ·rw[hc.1]at hv;have ht:=sS b r c hc.1 hc.2.1 hc.2.2 hv;rw[show fu r b c=gL r b c by rw[fu,if_pos hc]];exact ht
 ·rw[show fu r b c=zr by rw[fu,if_neg hc]];generalize fV b [r]=q at *;cases q with
  |false =>
   refine af (C:=ctx) (Fn.of Dk rfl) rfl ?_;unfold c109;repeat' (first
    |((with_reducible show aF _);first|exact True.intro|(simp only[vb,lb,hv];and_intros<;>first|omega|(simp<;>omega)))
    |((with_reducible show aO _);first|exact True.intro|((try dsimp only[go_sem]);(simp[vb,hv]<;>omega)))
    |exact(rfl:some _=_)
    |(
     fail_if_success refine aV ?_
     refine iu [(60,fun _=>some (.bool false))] ?_;repeat1' dsimp only[c109,av,ah,go_sem]
     first
     |refine aW ?_ ?_ rfl ?_
     |apply aX
     |apply aY
     |(refine aZ (fun hc=>?_) fun hc=>?_<;>first|(cases hc;done)|(try simp only[bn]at hc;try contradiction))
     |skip))
  |true =>
   have hn:¬(0≤c∧c<b.length):=fun h=>hc ⟨rfl,h⟩
   clear hc;refine af (C:=ctx) (Fn.of Dk rfl) rfl ?_;unfold c109;repeat' (first
    |((with_reducible show aF _);first|exact True.intro|(simp only[vb,lb,hv];and_intros<;>first|omega|(simp<;>omega)))
    |((with_reducible show aO _);first|exact True.intro|((try dsimp only[go_sem]);(simp[vb,hv]<;>omega)))
    |exact(rfl:some _=_)
    |(
     fail_if_success refine aV ?_
     refine iu [(60,fun _=>some (.bool true))] ?_;repeat1' dsimp only[c109,av,ah,go_sem]
     first
     |refine aW ?_ ?_ rfl ?_
     |apply aX
     |apply aY
     |(refine aZ (fun hc=>?_) fun hc=>?_<;>first|(cases hc;done)|(exfalso;(simp at hc<;>omega))|(try simp only[bn]at hc;try contradiction))
     |skip))
end
section
open Rf
def Dl:az:=(⟨_,by conv=>(lhs;reduce;try simp only[ei,Int.cast_ofNat_Int,Int.reduceNegSucc,UInt8.reduceOfNat])⟩:{x // codeOf Tryz.prog 132 (fun d=>Nat.beq d 7)=some x}).1
theorem Hk:bF Tryz.prog 132 (fun d=>Nat.beq d 7)=some (Dl,[.t 4],35,true):=by kernel_rfl
set_option maxHeartbeats 4000000 in
theorem yO (b:List Rg) (g:Gr) (hg:bS b.length g=true) (hb:b.length≤1000000000):ai ctx 132 [.agg [.int .i64 g.first,.int .i64 g.size,aj g.least],ah b] (bQ (eL g b)):=by
 simp only[bS,aK,Bool.and_eq_true,decide_eq_true_eq]at hg;obtain⟨⟨⟨⟨⟨g1,g2⟩,g3⟩,g4⟩,g5⟩,g6⟩:=hg;have hsq:=nP g1 g2;obtain⟨fi,hfi⟩:∃fi:Nat,g.first=fi:=⟨g.first.toNat,by omega⟩
 have hpl:=mg g b;have hat:=qt g b;have f1:=eM g.least;have f2:=cz b;obtain⟨_,n,le⟩:=g;simp only at *;subst hfi;generalize eL ⟨fi,n,le⟩ b=ps at *;refine af (C:=ctx) (Fn.of Hk rfl) rfl ?_;unfold Dl;repeat' (first
  |((with_reducible first|show aF _|show aO _);simp[vb]<;>omega)
  |exact(rfl:some _=_)
  |(
   fail_if_success refine aV ?_
   refine a7 ?_;repeat1' dsimp only[Dl,aj,ah,go_sem]
   first
   |refine aW ?_ ?_ rfl ?_
   |apply aX
   |apply aY
   |(refine aZ (fun hc=>?_) fun hc=>?_<;>first|(cases hc;done)|(exfalso;simp at hc<;>omega)|(try simp only[bn]at hc;try contradiction))
   |skip))
 refine bK le.length (fun _=>True) (fun j=>[(1,.pv (ah b)),(2,.ptr 0 0 0),(5,.ref 1 j 0 j),(6,.pv (.int .i64 j))]) (fun j=>[⟨[.pv (.int .i64 fi),.pv (.int .i64 n),.pv (aj le)],0,3,99,false⟩,⟨((ps.take j).flatMap fe).map .pv,j,1,4,false⟩]) trivial (by (repeat' (first|exact trivial|refine And.intro (by first|rfl|(simp[get,Nat.beq];done)|(simp[get,Nat.beq];omega)|(dsimp only[get];congr 1<;>first|rfl|omega|(simp;done)|(simp;omega))) ?_))) ⟨[],rfl⟩ (fun _=>⟨Nat.zero_le _,rfl,by simp[aP,dJ]⟩) fun j hk _=>?_
 by_cases hlt:j<le.length
 ·have e1:=je (g:=cA) (fun _=>rfl) le j 0 default hlt;have e2:=sI b (fi+j) (by omega);have e3:=hat j hlt;have e6:((fi:Int)+(j:Int))=((fi+j:Nat):Int):=by simp
  have hs:=aU ps j false (by omega);have e7:=gw (ps.take j);have hl:(ps.take j).length=j:=by rw[List.length_take];omega
  have hlt2:fi+j<b.length:=by omega
  rw[Int.toNat_natCast]at e3;rw[hs,e3];rw[hl]at e7;clear hs e3 hat;generalize ps.take j=v at *;generalize le.getD j 0=lj at *;generalize (b.getD (fi+j) zr).lo=lo at *;repeat' (first
   |((with_reducible show aF _);(simp only[vb,lb,e1,e2,e7,hlt,hlt2,hpl,f1,f2,g5];and_intros<;>first|omega|(simp<;>omega)))
   |((with_reducible show aO _);first|exact True.intro|((try dsimp only[go_sem]);first|(simp[vb,e1,e2,e7,hlt,hlt2,hpl,f1,f2,g5]<;>omega)|(simp only[vb,and_true,true_implies];(repeat' (first|(with_reducible assumption)|(with_reducible apply And.intro)|intro _|((fail_if_success (with_reducible show(_:Int)≤_));assumption)))<;>first|rfl|(simp only[ab,e1,e2,e7,hlt,hlt2,hpl,f1,f2,g5];done))))
   |exact(rfl:some _=_)
   |(
    fail_if_success refine aV ?_
    refine bI [(14,{val:=some (.pv (.bool true))}),(22,{val:=some (.pv (.int .i64 (fi+j:Nat)))}),(25,{val:=some (.pv (.int .i64 lo))}),(30,{val:=some (.pv (.int .i64 lj))}),(33,{mode:=1})] ?_;repeat1' dsimp only[Dl,aj,ah,go_sem]
    first
    |refine aW ?_ ?_ rfl ?_
    |apply aX
    |apply aY
    |(refine aZ (fun hc=>?_) fun hc=>?_<;>first|(cases hc;done)|(try simp only[bn]at hc;try contradiction))
    |skip))
  exact⟨hlt,trivial,by (repeat' (first|exact trivial|refine And.intro (by first|rfl|(simp[get,Nat.beq];done)|(simp[get,Nat.beq];omega)|(dsimp only[get];congr 1<;>first|rfl|omega|(simp;done)|(simp;omega))) ?_)),[],by simp[List.flatMap_append,fe]⟩
 ·obtain rfl:j=le.length:=by omega
  have ht:ps.take le.length=ps:=List.take_of_length_le (by omega);simp only[ht];have f3:=gw ps;repeat' (first
   |((with_reducible show aF _);first|exact True.intro|(simp only[vb,lb,hlt,g5];and_intros<;>first|omega|(simp<;>omega)))
   |((with_reducible show aO _);first|exact True.intro|((try dsimp only[go_sem]);(simp[vb,hlt,g5]<;>omega)))
   |exact(rfl:some _=_)
   |(
    fail_if_success refine aV ?_
    refine bI [(14,{val:=some (.pv (.bool false))})] ?_;repeat1' dsimp only[Dl,aj,ah,go_sem]
    first
    |refine aW ?_ ?_ rfl ?_
    |apply aX
    |apply aY
    |(refine aZ (fun hc=>?_) fun hc=>?_<;>first|(cases hc;done)|(try simp only[bn]at hc;try contradiction))
    |skip))
  unfold bQ;rw[hpl];exact oO rfl rfl rfl (by rw[List.drop_zero,List.take_of_length_le (by simp only[List.length_map];omega)]) (by simp only[List.length_map];omega)
end
section
open Rf
def Gt:az:=(⟨_,by conv=>(lhs;reduce;try simp only[ei,Int.cast_ofNat_Int,Int.reduceNegSucc,UInt8.reduceOfNat])⟩:{x // codeOf Tryz.prog 151 (fun _=>false)=some x}).1
theorem Hl:bF Tryz.prog 151 (fun _=>false)=some (Gt,[.t 4],19,true):=by kernel_rfl
def c152:az:=(⟨_,by conv=>(lhs;reduce;try simp only[ei,Int.cast_ofNat_Int,Int.reduceNegSucc,UInt8.reduceOfNat])⟩:{x // codeOf Tryz.prog 152 (fun _=>false)=some x}).1
theorem Hm:bF Tryz.prog 152 (fun _=>false)=some (c152,[.t 4],18,true):=by kernel_rfl
def Dm:az:=(⟨_,by conv=>(lhs;reduce;try simp only[ei,Int.cast_ofNat_Int,Int.reduceNegSucc,UInt8.reduceOfNat])⟩:{x // codeOf Tryz.prog 153 (fun d=>Nat.beq d 7)=some x}).1
theorem Hn:bF Tryz.prog 153 (fun d=>Nat.beq d 7)=some (Dm,[.t 4],25,true):=by kernel_rfl
theorem yP (n:Int) (l:List Bool) (h1:1≤n) (h2:n≤6) (hl:(l.length:Int)=n*n):ai ctx 151 [.int .i64 n,bQ l] (.bool true):=by
 have hsq:=nP h1 h2;have f3:=gw l;refine af (C:=ctx) (Fn.of Hl rfl) rfl ?_;unfold Gt;repeat' (first
  |((with_reducible show aF _);exact True.intro)
  |((with_reducible show aO _);first|exact True.intro|((try dsimp only[go_sem]);(simp[vb,hl,h1,h2]<;>omega)))
  |exact(rfl:some _=_)
  |(
   fail_if_success refine aV ?_
   refine bI [(18,{val:=some (.pv (.bool true))})] ?_;repeat1' dsimp only[Gt,bQ,go_sem]
   first
   |refine aW ?_ ?_ rfl ?_
   |apply aX
   |apply aY
   |(refine aZ (fun hc=>?_) fun hc=>?_<;>first|(cases hc;done)|(try simp only[bn]at hc;try contradiction))
   |skip))
theorem Dn (l:List Int) (v:Int) (hl:l.length≤1000000000):ai ctx 152 [aj l,.int .i64 v] (.bool (decide (v∈l))):=by
 have f1:=eM l;generalize hq:decide (v∈l)=q;refine af (C:=ctx) (Fn.of Hm rfl) rfl ?_;unfold c152;repeat' (first
  |((with_reducible first|show aF _|show aO _);simp[vb]<;>omega)
  |exact(rfl:some _=_)
  |(
   fail_if_success refine aV ?_
   refine a7 ?_;repeat1' dsimp only[c152,aj,go_sem]
   first
   |refine aW ?_ ?_ rfl ?_
   |apply aX
   |apply aY
   |(refine aZ (fun hc=>?_) fun hc=>?_<;>first|(cases hc;done)|(exfalso;simp at hc<;>omega)|(try simp only[bn]at hc;try contradiction))
   |skip))
 refine bK l.length (fun k=>decide (v∈l.drop k)=q) (fun k=>[(0,.pv (aj l)),(1,.pv (.int .i64 v)),(5,.pv (.int .i64 k))]) (fun _=>[]) (by simpa using hq) (by (repeat' (first|exact trivial|refine And.intro (by first|rfl|(simp[get,Nat.beq];done)|(simp[get,Nat.beq];omega)|(dsimp only[get];congr 1<;>first|rfl|omega|(simp;done)|(simp;omega))) ?_))) ⟨_,rfl⟩ (fun _=>⟨Nat.zero_le _,rfl,rfl⟩) fun k hk hP=>?_
 by_cases hlt:k<l.length
 ·have e:=je (g:=cA) (fun _=>rfl) l k 0 default hlt;rw[eD l k 0 hlt]at hP;generalize l.getD k 0=x at *;by_cases hx:x=v
  ·subst hx;simp at hP;subst hP;repeat' (first
    |((with_reducible show aF _);first|exact True.intro|(simp only[vb,lb,e,f1,hlt];and_intros<;>first|omega|(simp<;>omega)))
    |((with_reducible show aO _);first|exact True.intro|((try dsimp only[go_sem]);(simp only[vb,and_true,true_implies];(repeat' (first|(with_reducible assumption)|(with_reducible apply And.intro)|intro _|((fail_if_success (with_reducible show(_:Int)≤_));assumption)))<;>(simp only[ab,e,f1,hlt];done))))
    |exact(rfl:some _=_)
    |(
     fail_if_success refine aV ?_
     refine bI [(15,{val:=some (.pv (.int .i64 x))})] ?_;repeat1' dsimp only[c152,aj,go_sem]
     first
     |refine aW ?_ ?_ rfl ?_
     |apply aX
     |apply aY
     |(refine aZ (fun hc=>?_) fun hc=>?_<;>first|(cases hc;done)|(exfalso;(simp at hc<;>omega))|(try simp only[bn]at hc;try contradiction))
     |skip))
  ·have hP:decide (v∈l.drop (k+1))=q:=by
    rw[←hP];have:v≠x:=fun h=>hx h.symm
    simp[this]
   repeat' (first
    |((with_reducible show aF _);first|exact True.intro|(simp only[vb,lb,e,f1,hlt,hx];and_intros<;>first|omega|(simp<;>omega)))
    |((with_reducible show aO _);first|exact True.intro|((try dsimp only[go_sem]);(simp only[vb,and_true,true_implies];(repeat' (first|(with_reducible assumption)|(with_reducible apply And.intro)|intro _|((fail_if_success (with_reducible show(_:Int)≤_));assumption)))<;>(simp only[ab,e,f1,hlt,hx];done))))
    |exact(rfl:some _=_)
    |(
     fail_if_success refine aV ?_
     refine bI [(15,{val:=some (.pv (.int .i64 x))})] ?_;repeat1' dsimp only[c152,aj,go_sem]
     first
     |refine aW ?_ ?_ rfl ?_
     |apply aX
     |apply aY
     |(refine aZ (fun hc=>?_) fun hc=>?_<;>first|(cases hc;done)|(exfalso;(simp at hc<;>omega))|(try simp only[bn]at hc;try contradiction))
     |skip))
   exact⟨hlt,hP,by (repeat' (first|exact trivial|refine And.intro (by first|rfl|(simp[get,Nat.beq];done)|(simp[get,Nat.beq];omega)|(dsimp only[get];congr 1<;>first|rfl|omega|(simp;done)|(simp;omega))) ?_)),_,rfl⟩
 ·obtain rfl:k=l.length:=by omega
  simp at hP;subst hP;repeat' (first
   |((with_reducible first|show aF _|show aO _);simp[vb,hlt]<;>omega)
   |exact(rfl:some _=_)
   |(
    fail_if_success refine aV ?_
    refine a7 ?_;repeat1' dsimp only[c152,aj,go_sem]
    first
    |refine aW ?_ ?_ rfl ?_
    |apply aX
    |apply aY
    |(refine aZ (fun hc=>?_) fun hc=>?_<;>first|(cases hc;done)|(exfalso;simp[hlt]at hc<;>omega)|(try simp only[bn]at hc;try contradiction))
    |skip))
theorem Bn (l:List Int) (v:Int) (hl:l.length≤1000000000):ai ctx 153 [aj l,.int .i64 v] (aj (l++[v])):=by
 have f1:=eM l;refine af (C:=ctx) (Fn.of Hn rfl) rfl ?_;unfold Dm;repeat' (first
  |((with_reducible first|show aF _|show aO _);simp[vb]<;>omega)
  |exact(rfl:some _=_)
  |(
   fail_if_success refine aV ?_
   refine a7 ?_;repeat1' dsimp only[Dm,aj,go_sem]
   first
   |refine aW ?_ ?_ rfl ?_
   |apply aX
   |apply aY
   |(refine aZ (fun hc=>?_) fun hc=>?_<;>first|(cases hc;done)|(exfalso;simp at hc<;>omega)|(try simp only[bn]at hc;try contradiction))
   |skip))
 refine bK l.length (fun _=>True) (fun k=>[(0,.pv (aj l)),(1,.pv (.int .i64 v)),(5,.ref 0 k 0 k),(6,.pv (.int .i64 k))]) (fun k=>[⟨((l.take k).flatMap cA).map .pv,k,1,3,false⟩]) trivial (by (repeat' (first|exact trivial|refine And.intro (by first|rfl|(simp[get,Nat.beq];done)|(simp[get,Nat.beq];omega)|(dsimp only[get];congr 1<;>first|rfl|omega|(simp;done)|(simp;omega))) ?_))) ⟨[],rfl⟩ (fun _=>⟨Nat.zero_le _,rfl,by simp[aP,dJ]⟩) fun k hk _=>?_
 by_cases hlt:k<l.length
 ·have e:=je (g:=cA) (fun _=>rfl) l k 0 default hlt;have hs:=aU l k 0 hlt;have e7:=eM (l.take k);have hll:(l.take k).length=k:=by rw[List.length_take];omega
  rw[hll]at e7;rw[hs];clear hs;generalize l.getD k 0=x at *;generalize l.take k=w at *;repeat' (first
   |((with_reducible show aF _);first|exact True.intro|(simp only[vb,lb,e,e7,f1,hlt];and_intros<;>first|omega|(simp<;>omega)))
   |((with_reducible show aO _);first|exact True.intro|((try dsimp only[go_sem]);(simp only[vb,and_true,true_implies];(repeat' (first|(with_reducible assumption)|(with_reducible apply And.intro)|intro _|((fail_if_success (with_reducible show(_:Int)≤_));assumption)))<;>(simp only[ab,e,e7,f1,hlt];done))))
   |exact(rfl:some _=_)
   |(
    fail_if_success refine aV ?_
    refine bI [(18,{val:=some (.pv (.int .i64 x))}),(20,{mode:=1})] ?_;repeat1' dsimp only[Dm,aj,go_sem]
    first
    |refine aW ?_ ?_ rfl ?_
    |apply aX
    |apply aY
    |(refine aZ (fun hc=>?_) fun hc=>?_<;>first|(cases hc;done)|(exfalso;(simp at hc<;>omega))|(try simp only[bn]at hc;try contradiction))
    |skip))
  exact⟨hlt,trivial,by (repeat' (first|exact trivial|refine And.intro (by first|rfl|(simp[get,Nat.beq];done)|(simp[get,Nat.beq];omega)|(dsimp only[get];congr 1<;>first|rfl|omega|(simp;done)|(simp;omega))) ?_)),[],by simp[List.flatMap_append,cA]⟩
 ·obtain rfl:k=l.length:=by omega
  have ht:l.take l.length=l:=List.take_of_length_le (by omega);simp only[ht];have f3:=eM (l++[v]);repeat' (first
   |((with_reducible show aF _);first|exact True.intro|(simp only[vb,lb,hlt,f1];and_intros<;>first|omega|(simp<;>omega)))
   |((with_reducible show aO _);exact True.intro)
   |exact(rfl:some _=_)
   |(
    fail_if_success refine aV ?_
    refine bI [(24,{mode:=1})] ?_;repeat1' dsimp only[Dm,aj,go_sem]
    first
    |refine aW ?_ ?_ rfl ?_
    |apply aX
    |apply aY
    |(refine aZ (fun hc=>?_) fun hc=>?_<;>first|(cases hc;done)|(exfalso;(simp at hc<;>omega))|(try simp only[bn]at hc;try contradiction))
    |skip))
  rw[show List.map AV.pv (List.flatMap cA l)++[AV.pv (PV.int IntKind.i64 v)]=((l++[v]).flatMap cA).map AV.pv by simp[List.flatMap_append,cA],show l.length+1=(l++[v]).length by simp];exact oO rfl rfl rfl (by rw[List.drop_zero,List.take_of_length_le (by simp only[List.length_map];omega)]) (by simp only[List.length_map];omega)
end
end Pur
end
section
namespace Rf
def kH (u n:Nat) (e:Nat→Nat→Bool) (p:List Nat):List (List Nat):=((List.range u).filter fun u=>e (eC p) u&& !decide (u∈p)).map fun u=>p++[u]
theorem yQ (u n:Nat) (e:Nat→Nat→Bool) (p:List Nat):kH (u+1) n e p=kH u n e p++if (e (eC p) u&& !decide (u∈p))=true then [p++[u]] else []:=by
 simp only[kH,List.range_succ,List.filter_append,List.map_append];congr 1;by_cases h:(e (eC p) u&& !decide (u∈p))=true<;>simp[List.filter,h]
theorem um (u n:Nat) (e:Nat→Nat→Bool) (p:List Nat):(kH u n e p).length≤u:=by
 rw[kH,List.length_map];have:=List.length_filter_le (fun u=>e (eC p) u&& !decide (u∈p)) (List.range u);simpa using this
theorem Dp (n:Nat) (e:Nat→Nat→Bool) (p:List Nat):(Cz n e p).length≤n:=um n n e p
theorem nJ (n:Nat) (e:Nat→Nat→Bool):∀(ps:List (List Nat)),(gM n e ps).length≤ps.length*n
 |[]=>by simp[gM]
 |p::r=>by
  have h1:=nJ n e r;have h2:=Dp n e p;simp only[gM,List.flatMap_cons,List.length_append,List.length_cons]at h1 ⊢;rw[Nat.add_mul];omega
theorem zP {n:Nat} (e:Nat→Nat→Bool) (a:Nat) (hn:n≤6):∀(k:Nat),(lvl n e a k).length≤6 ^ k
 |0=>by simp[lvl]
 |k+1=>by
  have h1:=zP e a hn k;have h2:=nJ n e (lvl n e a k);rw[lvl,Nat.pow_succ];exact Nat.le_trans h2 (Nat.mul_le_mul h1 hn)
end Rf
namespace Pur
open Go.RowKit
attribute [local go_sem] bG eW bN bu dt fP List.map a8 aH get put tmpsOf dD iL gy im conds ev cond_true cond_false Nat.beq Nat.ble Nat.add quiet dE cB cC ox List.append_eq List.nil_append List.cons_append dC cf cg cj ck cp cu eV eQ di iN dB calm quiet.isCallK cF List.getElem?_cons_zero List.getElem?_cons_succ bk bW cellsOf List.all bA List.length_cons List.length_nil eI bc List.drop List.take List.getD Option.getD_some qc qd pz qe qf qg ef fZ eg eh setAt List.set Nat.reduceAdd Nat.reduceMul cx bq refsOf bD bJ scalar cw dZ bT cv aM after freeze gV gF aS dm dK dd ew cR cS bZ cT cU cX cY cZ c6 c7 c8 da db dc b6 b7 b8 dj iO bytesOf bE cM aR bB dP bw bO cG still bM dY du dR bL ey List.isEmpty b9 ca cd Int.reduceToNat Nat.mul_one Nat.reduceSub nY cN bY dL cE look dM strip guarded fC eA eH cL dQ dk gP cV cW Bool.or_false Bool.or_true Bool.and_true Bool.and_false Nat.blt fQ fq fU dG idxOf gG gH iM eT aM my
open Rf
abbrev lC (p:List Nat):PV:=.sl p.length ((p.map Int.ofNat).flatMap cA)
def th (p:List Nat):List PV:=[lC p]
abbrev zQ (ps:List (List Nat)):PV:=.sl ps.length (ps.flatMap th)
def sT:Option (List Nat)→PV
 |some p=>lC p
 |none=>.nilsl
theorem sU (ps:List (List Nat)):(ps.flatMap th).length=ps.length*1:=by
 induction ps with
 |nil=>rfl
 |cons p r ih=>simp only[List.flatMap_cons,List.length_append,List.length_cons,ih,th,List.length_nil];omega
def c131:az:=(⟨_,by conv=>(lhs;reduce;try simp only[ei,Int.cast_ofNat_Int,Int.reduceNegSucc,UInt8.reduceOfNat])⟩:{x // codeOf Tryz.prog 131 (fun d=>Nat.beq d 45)=some x}).1
theorem Ho:bF Tryz.prog 131 (fun d=>Nat.beq d 45)=some (c131,[.t 8],103,true):=by kernel_rfl
set_option maxHeartbeats 8000000 in
theorem Bo (n:Nat) (es:List Bool) (a v:Nat) (h1:1≤n) (h2:n≤6) (he:es.length=n*n) (ha:a<n) (hv:v<n):ai ctx 131 [.int .i64 n,bQ es,.int .i64 a,.int .i64 v] (sT (jN n (bX n es) v n [[a]])):=by
 have hV:=yP n es (by omega) (by omega) (by rw[he];simp);have f1:=gw es;generalize hq:jN n (bX n es) v n [[a]]=q;refine af (C:=ctx) (Fn.of Ho rfl) rfl ?_;unfold c131;repeat' (first
  |((with_reducible show aF _);exact True.intro)
  |((with_reducible show aO _);first|exact True.intro|((try dsimp only[go_sem]);(simp only[vb,and_true,true_implies];(repeat' (first|(with_reducible assumption)|(with_reducible apply And.intro)|intro _|((fail_if_success (with_reducible show(_:Int)≤_));assumption)))<;>first|rfl|(simp only[ab,hV,h1,ha,hv];done)|(simp[Nat.mul_one,hV,h1,ha,hv]<;>omega))))
  |exact(rfl:some _=_)
  |(
   fail_if_success refine aV ?_
   refine iu [(151,fun _=>some (.bool true))] ?_;repeat1' dsimp only[c131,bQ,go_sem]
   first
   |refine aW ?_ ?_ rfl ?_
   |apply aX
   |apply aY
   |(refine aZ (fun hc=>?_) fun hc=>?_<;>first|(cases hc;done)|(exfalso;(simp at hc<;>omega))|(try simp only[bn]at hc;try contradiction))
   |skip))
 refine bK n (fun k=>jN n (bX n es) v (n-k) (lvl n (bX n es) a k)=q) (fun k=>[(0,.pv (.int .i64 n)),(1,.pv (bQ es)),(3,.pv (.int .i64 v)),(9,.pv (zQ (lvl n (bX n es) a k))),(10,.pv (.int .i64 k))]) (fun _=>[]) hq (by (repeat' (first|exact trivial|refine And.intro (by first|rfl|(simp[get,Nat.beq,lvl,th];done)|(simp[get,Nat.beq,lvl,th];omega)|(dsimp only[get];congr 1<;>first|rfl|omega|(simp;done)|(simp;omega))) ?_))) ⟨_,rfl⟩ (fun _=>⟨Nat.zero_le _,rfl,rfl⟩) fun k hk hP=>?_
 by_cases hlt:k<n
 ·obtain⟨g,hg⟩:∃g,n-k=g+1:=⟨n-k-1,by omega⟩
  rw[hg,jN]at hP;have hll:=zP (bX n es) a h2 k;have h6:(6:Nat) ^ k≤6 ^ 6:=Nat.pow_le_pow_right (by omega) (by omega);have hsp:∀p∈lvl n (bX n es) a k,0<p.length∧p.length≤n∧∀x∈p,x<n:=fun p hp=>by
   have s1:=yq k p hp;have s2:=wL ha s1;exact⟨(CA s1).1,yr n p s2.1 s2.2,s2.2⟩
  have hnx:lvl n (bX n es) a (k+1)=gM n (bX n es) (lvl n (bX n es) a k):=rfl;rw[hnx];generalize lvl n (bX n es) a k=ps at *;have f2:=sU ps;repeat' (first
   |((with_reducible show aF _);exact True.intro)
   |((with_reducible show aO _);exact True.intro)
   |exact(rfl:some _=_)
   |(
    fail_if_success refine aV ?_
    refine a7 ?_;repeat1' dsimp only[c131,bQ,go_sem]
    first
    |refine aW ?_ ?_ rfl ?_
    |apply aX
    |apply aY
    |(refine aZ (fun hc=>?_) fun hc=>?_<;>first|(cases hc;done)|(exfalso;(simp at hc<;>omega))|(try simp only[bn]at hc;try contradiction))
    |skip))
  refine bK ps.length (fun i=>(match (ps.drop i).find? (fun p=>decide (eC p=v)) with|some p=>some p|none=>jN n (bX n es) v g (gM n (bX n es) ps))=q) (fun i=>[(0,.pv (.int .i64 n)),(1,.pv (bQ es)),(3,.pv (.int .i64 v)),(9,.pv (zQ ps)),(10,.pv (.int .i64 k)),(11,.ref 0 (gM n (bX n es) (ps.take i)).length 0 (gM n (bX n es) (ps.take i)).length),(12,.pv (.int .i64 i))]) (fun i=>[⟨((gM n (bX n es) (ps.take i)).flatMap th).map .pv,(gM n (bX n es) (ps.take i)).length,1,49,false⟩]) hP (by (repeat' (first|exact trivial|refine And.intro (by first|rfl|(simp[get,Nat.beq,gM];done)|(simp[get,Nat.beq,gM];omega)|(dsimp only[get];congr 1<;>first|rfl|omega|(simp;done)|(simp;omega))) ?_))) ⟨[],rfl⟩ (fun _=>⟨Nat.zero_le _,rfl,by simp[aP,dJ]⟩) fun i hi hQ=>?_
  by_cases hli:i<ps.length
  ·have hm:=hsp _ (aQ (d:=[]) hli);have e:=je (g:=th) (f:=lC) (fun _=>rfl) ps i [] default hli;have hm0:=hm.1;rw[eD ps i [] hli,List.find?_cons]at hQ;have hs:=aU ps i [] hli;generalize ps.getD i []=p at *;have e3:=je (g:=cA) (fun _=>rfl) (p.map Int.ofNat) (p.length-1) 0 default (by simp;omega);have e4:(p.map Int.ofNat).getD (p.length-1) 0=(eC p:Nat):=by
    rw[eC,List.getLastD_eq_getLast?,List.getLast?_eq_getElem?,List.getD,List.getElem?_map];rw[List.getElem?_eq_getElem (show p.length-1<p.length by omega)];rfl
   rw[e4]at e3;clear e4;have f4:=eM (p.map Int.ofNat);rw[List.length_map]at f4;have hlast:eC p<n:=by
    rw[eC,List.getLastD_eq_getLast?,List.getLast?_eq_getElem?,List.getElem?_eq_getElem (show p.length-1<p.length by omega)];exact hm.2.2 _ (List.getElem_mem _)
   by_cases hl:eC p=v
   ·simp only[hl,decide_true]at hQ;subst hQ;repeat' (first
     |((with_reducible show aF _);first|exact True.intro|(simp only[vb,lb,e,e3,f2,f4,hli,hm0,hl];and_intros<;>first|omega|(simp<;>omega)))
     |((with_reducible show aO _);first|exact True.intro|((try dsimp only[go_sem]);first|(simp[vb,e,e3,f2,f4,hli,hm0,hl]<;>omega)|(simp only[vb,and_true,true_implies];(repeat' (first|(with_reducible assumption)|(with_reducible apply And.intro)|intro _|((fail_if_success (with_reducible show(_:Int)≤_));assumption)))<;>first|(simp only[ab,e,e3,f2,f4,hli,hm0,hl];done)|(simp[Nat.mul_one,e,e3,f2,f4,hli,hm0,hl]<;>omega))))
     |exact(rfl:some _=_)
     |(
      fail_if_success refine aV ?_
      refine bI [(55,{val:=some (.pv (lC p))}),(59,{val:=some (.pv (lC p))}),(63,{val:=some (.pv (.int .i64 (eC p:Nat)))}),(66,{val:=some (.pv (.bool true))}),(70,{val:=some (.pv (lC p))})] ?_;repeat1' dsimp only[c131,bQ,go_sem]
      first
      |refine aW ?_ ?_ rfl ?_
      |apply aX
      |apply aY
      |(refine aZ (fun hc=>?_) fun hc=>?_<;>first|(cases hc;done)|(exfalso;(simp at hc<;>omega))|(try simp only[bn]at hc;try contradiction))
      |skip))
   ·simp only[hl,decide_false]at hQ;have hl':¬((eC p:Nat):Int)=(v:Nat):=by omega
    have hwi:∀u:Nat,ai ctx 153 [lC p,.int .i64 u] (lC (p++[u])):=fun u=>by
     have:=Bn (p.map Int.ofNat) u (by simp;omega);simpa [aj,lC]using this
    have hha:∀u:Nat,ai ctx 152 [lC p,.int .i64 u] (.bool (decide (u∈p))):=fun u=>by
     have:=Dn (p.map Int.ofNat) u (by simp;omega);have hd:((u:Int)∈p.map Int.ofNat)↔u∈p:=⟨fun h=>by
      obtain⟨x,hx,e⟩:=List.mem_map.mp h;have:x=u:=Int.ofNat.inj e;subst this;exact hx,fun h=>List.mem_map.mpr ⟨u,h,rfl⟩⟩
     rw[decide_eq_decide.mpr hd]at this;simpa only[aj,lC,List.length_map]using this
    have hnl:=nJ n (bX n es) (ps.take i);rw[List.length_take]at hnl;have hn6:min i ps.length*n≤6 ^ 6*6:=Nat.mul_le_mul (by omega) h2;have hnn:gM n (bX n es) (ps.take (i+1))=gM n (bX n es) (ps.take i)++kH n n (bX n es) p:=by
     rw[hs,gM,List.flatMap_append];simp[gM,Cz,kH]
    rw[hnn];generalize gM n (bX n es) (ps.take i)=ns at *;repeat' (first
     |((with_reducible show aF _);first|exact True.intro|(simp only[vb,lb,e,e3,f2,f4,hli,hm0,hl,hl'];and_intros<;>first|omega|(simp<;>omega)))
     |((with_reducible show aO _);first|exact True.intro|((try dsimp only[go_sem]);first|(simp[vb,e,e3,f2,f4,hli,hm0,hl,hl']<;>omega)|(simp only[vb,and_true,true_implies];(repeat' (first|(with_reducible assumption)|(with_reducible apply And.intro)|intro _|((fail_if_success (with_reducible show(_:Int)≤_));assumption)))<;>first|(simp only[ab,e,e3,f2,f4,hli,hm0,hl,hl'];done)|(simp[Nat.mul_one,e,e3,f2,f4,hli,hm0,hl,hl']<;>omega))))
     |exact(rfl:some _=_)
     |(
      fail_if_success refine aV ?_
      refine bI [(55,{val:=some (.pv (lC p))}),(59,{val:=some (.pv (lC p))}),(63,{val:=some (.pv (.int .i64 (eC p:Nat)))}),(66,{val:=some (.pv (.bool false))})] ?_;repeat1' dsimp only[c131,bQ,go_sem]
      first
      |refine aW ?_ ?_ rfl ?_
      |apply aX
      |apply aY
      |(refine aZ (fun hc=>?_) fun hc=>?_<;>first|(cases hc;done)|(exfalso;(simp at hc<;>omega))|(try simp only[bn]at hc;try contradiction))
      |skip))
    refine bK n (fun _=>True) (fun u=>[(0,.pv (.int .i64 n)),(1,.pv (bQ es)),(3,.pv (.int .i64 v)),(9,.pv (zQ ps)),(10,.pv (.int .i64 k)),(11,.ref 0 (ns++kH u n (bX n es) p).length 0 (ns++kH u n (bX n es) p).length),(12,.pv (.int .i64 i)),(13,.pv (.int .i64 (eC p:Nat))),(14,.pv (.int .i64 u))]) (fun u=>[⟨((ns++kH u n (bX n es) p).flatMap th).map .pv,(ns++kH u n (bX n es) p).length,1,49,false⟩]) trivial (by (repeat' (first|exact trivial|refine And.intro (by first|rfl|(simp[get,Nat.beq,kH];done)|(simp[get,Nat.beq,kH];omega)|(dsimp only[get];congr 1<;>first|rfl|omega|(simp;done)|(simp;omega))) ?_))) ⟨[],by simp[kH]⟩ (fun _=>⟨Nat.zero_le _,rfl,by simp[aP,dJ]⟩) fun u hu _=>?_
    by_cases hlu:u<n
    ·have hgl:=um u n (bX n es) p;have hsq:n*n≤36:=Nat.mul_le_mul h2 h2;have hlt2:eC p*n+u<n*n:=by
      have:=Nat.mul_le_mul_right n (show eC p+1≤n by omega);rw[Nat.add_mul]at this;omega
     have e5:=je (g:=fe) (f:=PV.bool) (fun _=>rfl) es (eC p*n+u) false default (by omega);have e7:((eC p:Nat):Int)*(n:Int)=((eC p*n:Nat):Int):=by simp
     have hgs:=yQ u n (bX n es) p;rw[show bX n es (eC p) u=es.getD (eC p*n+u) false from rfl]at hgs;rw[hgs];clear hgs;have hw:=hwi u;have hh:=hha u;clear hwi hha hsp hm;generalize kH u n (bX n es) p=gs at *;generalize es.getD (eC p*n+u) false=eb at *;generalize n*n=nn at *;generalize eC p*n=ln at *;have e6:((ln:Nat):Int)+(u:Int)=((ln+u:Nat):Int):=by simp
     have f5:=sU (ns++gs);have hlt3:ln+u<es.length:=by omega
     cases eb with
     |false =>
      simp only[Bool.false_and,Bool.false_eq_true,if_false,List.append_nil];generalize hdp:decide (u∈p)=dp at hh;repeat' (first
       |((with_reducible show aF _);first|exact True.intro|(simp only[vb,lb,e,e5,e7,f1,f2,hlu,hli,hlt3,hh];and_intros<;>first|omega|(simp<;>omega)))
       |((with_reducible show aO _);first|exact True.intro|((try dsimp only[go_sem]);(simp only[vb,and_true,true_implies];(repeat' (first|(with_reducible assumption)|(with_reducible apply And.intro)|intro _|((fail_if_success (with_reducible show(_:Int)≤_));assumption)))<;>first|omega|rfl|(simp only[ab,e,e5,e7,f1,f2,hlu,hli,hlt3,hh];done))))
       |exact(rfl:some _=_)
       |(
        fail_if_success refine aV ?_
        refine dH [(152,fun _=>some (.bool dp))] [(79,{val:=some (.pv (.int .i64 (ln:Nat)))}),(81,{val:=some (.pv (.int .i64 (ln+u:Nat)))}),(83,{val:=some (.pv (.bool false))}),(88,{val:=some (.pv (lC p))}),(92,{val:=some (.pv (.bool false))})] ?_;repeat1' dsimp only[c131,bQ,go_sem]
        first
        |refine aW ?_ ?_ rfl ?_
        |apply aX
        |apply aY
        |(refine aZ (fun hc=>?_) fun hc=>?_<;>first|(cases hc;done)|(exfalso;(simp at hc<;>omega))|(try simp only[bn]at hc;try contradiction))
        |skip))
      exact⟨hlu,trivial,by (repeat' (first|exact trivial|refine And.intro (by first|rfl|(simp[get,Nat.beq];done)|(simp[get,Nat.beq];omega)|(dsimp only[get];congr 1<;>first|rfl|omega|(simp;done)|(simp;omega))) ?_)),[],by simp⟩
     |true =>
      by_cases hup:u∈p
      ·simp only[hup,decide_true,Bool.not_true,Bool.and_false,Bool.false_eq_true,if_false,List.append_nil];simp only[hup,decide_true]at hh;repeat' (first
        |((with_reducible show aF _);first|exact True.intro|(simp only[vb,lb,e,e5,e7,f1,f2,hlu,hli,hlt3,hh];and_intros<;>first|omega|(simp<;>omega)))
        |((with_reducible show aO _);first|exact True.intro|((try dsimp only[go_sem]);(simp only[vb,and_true,true_implies];(repeat' (first|(with_reducible assumption)|(with_reducible apply And.intro)|intro _|((fail_if_success (with_reducible show(_:Int)≤_));assumption)))<;>first|omega|rfl|(simp only[ab,e,e5,e7,f1,f2,hlu,hli,hlt3,hh];done))))
        |exact(rfl:some _=_)
        |(
         fail_if_success refine aV ?_
         refine dH [(152,fun _=>some (.bool true))] [(79,{val:=some (.pv (.int .i64 (ln:Nat)))}),(81,{val:=some (.pv (.int .i64 (ln+u:Nat)))}),(83,{val:=some (.pv (.bool true))}),(88,{val:=some (.pv (lC p))}),(92,{val:=some (.pv (.bool false))})] ?_;repeat1' dsimp only[c131,bQ,go_sem]
         first
         |refine aW ?_ ?_ rfl ?_
         |apply aX
         |apply aY
         |(refine aZ (fun hc=>?_) fun hc=>?_<;>first|(cases hc;done)|(exfalso;(simp at hc<;>omega))|(try simp only[bn]at hc;try contradiction))
         |skip))
       exact⟨hlu,trivial,by (repeat' (first|exact trivial|refine And.intro (by first|rfl|(simp[get,Nat.beq];done)|(simp[get,Nat.beq];omega)|(dsimp only[get];congr 1<;>first|rfl|omega|(simp;done)|(simp;omega))) ?_)),[],by simp⟩
      ·simp only[hup,decide_false,Bool.not_false,Bool.and_true,if_true];simp only[hup,decide_false]at hh;repeat' (first
        |((with_reducible show aF _);first|exact True.intro|(simp only[vb,lb,e,e5,e7,f1,f2,f5,hlu,hli,hlt3,hh,hw];and_intros<;>first|omega|(simp<;>omega)))
        |((with_reducible show aO _);first|exact True.intro|((try dsimp only[go_sem]);(simp only[vb,and_true,true_implies];(repeat' (first|(with_reducible assumption)|(with_reducible apply And.intro)|intro _|((fail_if_success (with_reducible show(_:Int)≤_));assumption)))<;>first|omega|rfl|(simp only[ab,e,e5,e7,f1,f2,f5,hlu,hli,hlt3,hh,hw];done))))
        |exact(rfl:some _=_)
        |(
         fail_if_success refine aV ?_
         refine dH [(152,fun _=>some (.bool false)),(153,fun _=>some (lC (p++[u])))] [(79,{val:=some (.pv (.int .i64 (ln:Nat)))}),(81,{val:=some (.pv (.int .i64 (ln+u:Nat)))}),(83,{val:=some (.pv (.bool true))}),(88,{val:=some (.pv (lC p))}),(92,{val:=some (.pv (.bool true))}),(97,{val:=some (.pv (lC p))}),(101,{mode:=1})] ?_;repeat1' dsimp only[c131,bQ,go_sem]
         first
         |refine aW ?_ ?_ rfl ?_
         |apply aX
         |apply aY
         |(refine aZ (fun hc=>?_) fun hc=>?_<;>first|(cases hc;done)|(exfalso;(simp at hc<;>omega))|(try simp only[bn]at hc;try contradiction))
         |skip))
       exact⟨hlu,trivial,by (rw[←List.append_assoc];(repeat' (first|exact trivial|refine And.intro (by first|rfl|(simp[get,Nat.beq];done)|(simp[get,Nat.beq];omega)|(dsimp only[get];congr 1<;>first|rfl|omega|(simp;done)|(simp;omega))) ?_)));all_goals omega,[],by simp[th,Nat.add_assoc]⟩
    ·obtain rfl:u=n:=by omega
     repeat' (first
      |((with_reducible show aF _);first|exact True.intro|(simp only[vb,lb,hlu];and_intros<;>first|omega|(simp<;>omega)))
      |((with_reducible show aO _);exact True.intro)
      |exact(rfl:some _=_)
      |(
       fail_if_success refine aV ?_
       refine a7 ?_;repeat1' dsimp only[c131,bQ,go_sem]
       first
       |refine aW ?_ ?_ rfl ?_
       |apply aX
       |apply aY
       |(refine aZ (fun hc=>?_) fun hc=>?_<;>first|(cases hc;done)|(exfalso;(simp at hc<;>omega))|(try simp only[bn]at hc;try contradiction))
       |skip))
     exact⟨hli,hQ,by (repeat' (first|exact trivial|refine And.intro (by first|rfl|(simp[get,Nat.beq];done)|(simp[get,Nat.beq];omega)|(dsimp only[get];congr 1<;>first|rfl|omega|(simp;done)|(simp;omega))) ?_)),[],rfl⟩
  ·obtain rfl:i=ps.length:=by omega
   rw[List.drop_length]at hQ;simp only[List.find?_nil]at hQ;have hnl:=nJ n (bX n es) ps;have hn6:ps.length*n≤6 ^ 6*6:=Nat.mul_le_mul (Nat.le_trans hll h6) h2;have f3:=sU (gM n (bX n es) ps);simp only[List.take_length];generalize gM n (bX n es) ps=ns at *
   refine bH [(11,.ref 0 ns.length 0 ns.length),(0,.pv (.int .i64 n)),(1,.pv (bQ es)),(3,.pv (.int .i64 v)),(9,.pv (zQ ps)),(10,.pv (.int .i64 k)),(12,.pv (.int .i64 ps.length))] (by (repeat' (first|exact trivial|refine And.intro (by first|rfl|(simp[get,Nat.beq];done)|(simp[get,Nat.beq];omega)|(dsimp only[get];congr 1<;>first|rfl|omega|(simp;done)|(simp;omega))) ?_))) ?_;refine(lY (μ:=[]) (ps:=ns.flatMap th) (n:=ns.length) (g:=ns.length) (t:=11) (sz:=1) rfl (Nat.zero_le _) (by omega) f3 (fun _=>rfl) rfl ?_);repeat' (first
    |((with_reducible show aF _);first|exact True.intro|(simp only[vb,lb,hli,hlt];and_intros<;>first|omega|(simp<;>omega)))
    |((with_reducible show aO _);exact True.intro)
    |exact(rfl:some _=_)
    |(
     fail_if_success refine aV ?_
     refine a7 ?_;repeat1' dsimp only[c131,bQ,go_sem]
     first
     |refine aW ?_ ?_ rfl ?_
     |apply aX
     |apply aY
     |(refine aZ (fun hc=>?_) fun hc=>?_<;>first|(cases hc;done)|(exfalso;(simp at hc<;>omega))|(try simp only[bn]at hc;try contradiction))
     |skip))
   exact⟨hlt,by rw[show n-(k+1)=g by omega];exact hQ,by (repeat' (first|exact trivial|refine And.intro (by first|rfl|(simp[get,Nat.beq];done)|(simp[get,Nat.beq];omega)|(dsimp only[get];congr 1<;>first|rfl|omega|(simp;done)|(simp;omega))) ?_)),[],rfl⟩
 ·obtain rfl:k=n:=by omega
  rw[Nat.sub_self,jN]at hP;subst hP;repeat' (first
   |((with_reducible first|show aF _|show aO _);simp[vb,hlt]<;>omega)
   |exact(rfl:some _=_)
   |(
    fail_if_success refine aV ?_
    refine a7 ?_;repeat1' dsimp only[c131,bQ,go_sem]
    first
    |refine aW ?_ ?_ rfl ?_
    |apply aX
    |apply aY
    |(refine aZ (fun hc=>?_) fun hc=>?_<;>first|(cases hc;done)|(exfalso;simp[hlt]at hc<;>omega)|(try simp only[bn]at hc;try contradiction))
    |skip))
end Pur
end
section
namespace Rf
theorem uo {n:Nat} {e:Nat→Nat→Bool} {v:Nat} {p:List Nat}:∀(f:Nat) (ps:List (List Nat)),(∀q∈ps,0<q.length)→jN n e v f ps=some p→0<p.length
 |0,_,_,h=>by simp[jN]at h
 |f+1,ps,hq,h=>by
  rw[jN]at h;split at h
  ·rename_i x hx;injection h with h
   subst h;exact hq _ (List.mem_of_find?_eq_some hx)
  ·refine uo f _ (fun q hm=>?_) h;rw[gM,List.mem_flatMap]at hm;obtain⟨r,-,hr⟩:=hm;obtain⟨u,-,-,-,rfl⟩:=si.mp hr;simp
end Rf
namespace Pur
open Go.RowKit
attribute [local go_sem] bG eW bN bu dt fP List.map a8 aH get put tmpsOf dD iL gy im conds ev cond_true cond_false Nat.beq Nat.ble Nat.add quiet dE cB cC ox List.append_eq List.nil_append List.cons_append dC cf cg cj ck cp cu eV eQ di iN dB calm quiet.isCallK cF List.getElem?_cons_zero List.getElem?_cons_succ bk bW cellsOf List.all bA List.length_cons List.length_nil eI bc List.drop List.take List.getD Option.getD_some qc qd pz qe qf qg ef fZ eg eh setAt List.set Nat.reduceAdd Nat.reduceMul cx bq refsOf bD bJ scalar cw dZ bT cv aM after freeze gV gF aS dm dK dd ew cR cS bZ cT cU cX cY cZ c6 c7 c8 da db dc b6 b7 b8 dj iO bytesOf bE cM aR bB dP bw bO cG still bM dY du dR bL ey List.isEmpty b9 ca cd Int.reduceToNat Nat.mul_one Nat.reduceSub nY cN bY dL cE look dM strip guarded fC eA eH cL dQ dk gP cV cW Bool.or_false Bool.or_true Bool.and_true Bool.and_false Nat.blt fQ fq fU dG idxOf gG gH iM eT aM my
open Rf
def sV:az:=(⟨_,by conv=>(lhs;reduce;try simp only[ei,Int.cast_ofNat_Int,Int.reduceNegSucc,UInt8.reduceOfNat])⟩:{x // codeOf Tryz.prog 110 (fun _=>false)=some x}).1
theorem xj:bF Tryz.prog 110 (fun _=>false)=some (sV,[.cell 6 2 true],61,true):=by kernel_rfl
set_option maxHeartbeats 4000000 in
theorem Dq (b : List Rg) (g : Gr) (k : Nat) (hg : bS b.length g = true) (hbx : dF b = true) (hk : k < g.least.length) : ai ctx 110 [.agg [.int .i64 g.first, .int .i64 g.size, aj g.least], ah b, .int .i64 k] (.agg [.int .i64 (tc g b k).lo, .int .i64 (tc g b k).hi]) := by
  have hb : b.length ≤ 128 := by
    simp only [dF, Bool.and_eq_true, decide_eq_true_eq] at hbx
    exact hbx.2
  have hpr := yO b g hg (by omega)
  simp only [bS, aK, Bool.and_eq_true, decide_eq_true_eq] at hg
  obtain ⟨⟨⟨⟨⟨g1, g2⟩, g3⟩, g4⟩, g5⟩, g6⟩ := hg
  have hsq := nP g1 g2
  obtain ⟨n, hn⟩ : ∃ n : Nat, g.size = n := ⟨g.size.toNat, by omega⟩
  obtain ⟨fi, hfi⟩ : ∃ fi : Nat, g.first = fi := ⟨g.first.toNat, by omega⟩
  have hlen : g.least.length = n * n := by rw [hn] at g5; have : (n : Int) * n = ((n * n : Nat) : Int) := by simp
                                           omega
  have hpl := mg g b
  have hn1 : 0 < n := by omega
  have hd1 : k % n < n := Nat.mod_lt _ hn1
  have hd2 : k / n < n := by rw [Nat.div_lt_iff_lt_mul hn1]; omega
  have hpa := Bo n (eL g b) (k % n) (k / n) (by omega) (by omega) (by omega) hd1 hd2
  have hcl : jA g b k = true ↔ (jN n (bX n (eL g b)) (k / n) n [[k % n]]).isSome = true := by
    unfold jA
    rw [hn, sH, qn hd1]
    rfl
  have hpos : ∀ p, jN n (bX n (eL g b)) (k / n) n [[k % n]] = some p → 0 < p.length := fun p => uo n _ (by simp)
  have hle : -4000000 ≤ g.least.getD k 0 ∧ g.least.getD k 0 ≤ 4000000 := by
    have := List.all_eq_true.mp g6 _ (aQ (d := 0) hk)
    simpa only [gm, aK, Bool.and_eq_true, decide_eq_true_eq] using this
  have hx := kY (ig hbx (fi + k))
  have hself : k / n = k % n → jA g b k = true := fun h => by
    rw [hcl, qn hd1, h]
    exact .here
  have hlt2 : fi + k < b.length := by omega
  have e := kF b ((fi + k : Nat) : Int) (by omega) (by omega)
  have e1 := je (g := cA) (fun _ => rfl) g.least k 0 default hk
  rw [Int.toNat_natCast] at e
  unfold tc
  rw [show g.first.toNat = fi by omega]
  generalize hrs : jN n (bX n (eL g b)) (k / n) n [[k % n]] = res at *
  generalize jA g b k = q at *
  have f1 := eM g.least
  have f2 := cz b
  obtain ⟨_, _, le⟩ := g
  simp only at *
  subst hn hfi
  generalize eL ⟨fi, n, le⟩ b = ps at *
  generalize b.getD (fi + k) zr = x at *
  generalize le.getD k 0 = lk at *
  have hz1 : ¬ n = 0 := by omega
  have e6 : ((k : Nat) : Int).tdiv (n : Nat) = ((k / n : Nat) : Int) := by simp [Int.tdiv_eq_ediv]
  have e7 : ((k : Nat) : Int).tmod (n : Nat) = ((k % n : Nat) : Int) := by simp [Int.tmod_eq_emod]
  have e8 : ((k : Nat) : Int) % ((n : Nat) : Int) = ((k % n : Nat) : Int) := by simp
  have e9 : ((k : Nat) : Int) / ((n : Nat) : Int) = ((k / n : Nat) : Int) := by simp
  unfold bQ at hpr hpa
  generalize k / n = kd at *
  generalize k % n = km at *
  by_cases hlk : lk ≤ x.hi
  · by_cases hkk : kd = km
    · rw [hself hkk]
      simp only [if_true]
      cases res with
      | none =>
        unfold sT at hpa
        refine af (C := ctx) (Fn.of xj rfl) rfl ?_
        unfold sV
        repeat' (first
          | ((with_reducible show aF _); first | exact True.intro | (simp only [vb, lb, e, e1, e6, e7, e8, e9, f1, f2, hz1, hlt2, hk, hpr, hpa, hlk, hkk]; and_intros <;> first | omega | (simp <;> omega)))
          | ((with_reducible show aO _); first | exact True.intro | ((try dsimp only [go_sem]); first | (simp [vb, e, e1, e6, e7, e8, e9, f1, f2, hz1, hlt2, hk, hpr, hpa, hlk, hkk] <;> omega) | (simp only [vb, and_true, true_implies]; (repeat' (first | (with_reducible assumption) | (with_reducible apply And.intro) | intro _ | ((fail_if_success (with_reducible show (_ : Int) ≤ _)); assumption))) <;> first | omega | rfl | (simp only [ab, e, e1, e6, e7, e8, e9, f1, f2, hz1, hlt2, hk, hpr, hpa, hlk, hkk]; done) | (simp [Nat.mul_one, e, e1, e6, e7, e8, e9, f1, f2, hz1, hlt2, hk, hpr, hpa, hlk, hkk] <;> omega) | (simp_all; done))))
          | exact (rfl : some _ = _)
          | (
            fail_if_success refine aV ?_
            refine dH [(132, fun _ => some (.sl ps.length (ps.flatMap fe))), (131, fun _ => some (.nilsl))] [(14, { val := some (.pv (.int .i64 (fi + k : Nat))) }), (16, { val := some (.pv (.agg [.int .i64 x.lo, .int .i64 x.hi])) }), (20, { val := some (.pv (.int .i64 kd)) }), (24, { val := some (.pv (.int .i64 km)) }), (31, { val := some (.pv (.int .i64 lk)) }), (32, { val := some (.pv (.bool true)) }), (36, { val := some (.pv (.bool true)) }), (56, { val := some (.pv (.int .i64 lk)) }), (49, { val := some (.pv (.bool true)) })] ?_
            repeat1' dsimp only [sV, aj, ah, go_sem]
            first
            | refine aW ?_ ?_ rfl ?_
            | apply aX
            | apply aY
            | (refine aZ (fun hc => ?_) fun hc => ?_ <;> first | (cases hc; done) | (try simp only [bn] at hc; try contradiction))
            | skip))
        rw [fL]
      | some p =>
        unfold sT at hpa
        have hp0 := hpos p rfl
        refine af (C := ctx) (Fn.of xj rfl) rfl ?_
        unfold sV
        repeat' (first
          | ((with_reducible show aF _); first | exact True.intro | (simp only [vb, lb, e, e1, e6, e7, e8, e9, f1, f2, hz1, hlt2, hk, hpr, hpa, hlk, hkk, hp0]; and_intros <;> first | omega | (simp <;> omega)))
          | ((with_reducible show aO _); first | exact True.intro | ((try dsimp only [go_sem]); first | (simp [vb, e, e1, e6, e7, e8, e9, f1, f2, hz1, hlt2, hk, hpr, hpa, hlk, hkk, hp0] <;> omega) | (simp only [vb, and_true, true_implies]; (repeat' (first | (with_reducible assumption) | (with_reducible apply And.intro) | intro _ | ((fail_if_success (with_reducible show (_ : Int) ≤ _)); assumption))) <;> first | omega | rfl | (simp only [ab, e, e1, e6, e7, e8, e9, f1, f2, hz1, hlt2, hk, hpr, hpa, hlk, hkk, hp0]; done) | (simp [Nat.mul_one, e, e1, e6, e7, e8, e9, f1, f2, hz1, hlt2, hk, hpr, hpa, hlk, hkk, hp0] <;> omega) | (simp_all; done))))
          | exact (rfl : some _ = _)
          | (
            fail_if_success refine aV ?_
            refine dH [(132, fun _ => some (.sl ps.length (ps.flatMap fe))), (131, fun _ => some (lC p))] [(14, { val := some (.pv (.int .i64 (fi + k : Nat))) }), (16, { val := some (.pv (.agg [.int .i64 x.lo, .int .i64 x.hi])) }), (20, { val := some (.pv (.int .i64 kd)) }), (24, { val := some (.pv (.int .i64 km)) }), (31, { val := some (.pv (.int .i64 lk)) }), (32, { val := some (.pv (.bool true)) }), (36, { val := some (.pv (.bool true)) }), (56, { val := some (.pv (.int .i64 lk)) }), (49, { val := some (.pv (.bool true)) })] ?_
            repeat1' dsimp only [sV, aj, ah, go_sem]
            first
            | refine aW ?_ ?_ rfl ?_
            | apply aX
            | apply aY
            | (refine aZ (fun hc => ?_) fun hc => ?_ <;> first | (cases hc; done) | (try simp only [bn] at hc; try contradiction))
            | skip))
        rw [fL]
    · have hkk' : ¬((kd : Nat) : Int) = ((km : Nat) : Int) := by omega
      cases res with
      | none =>
        obtain rfl : q = false := by rw [Bool.eq_false_iff]; intro h; rw [hcl] at h; simp at h
        simp only [Bool.false_eq_true, if_false]
        unfold sT at hpa
        refine af (C := ctx) (Fn.of xj rfl) rfl ?_
        unfold sV
        repeat' (first
          | ((with_reducible show aF _); first | exact True.intro | (simp only [vb, lb, e, e1, e6, e7, e8, e9, f1, f2, hz1, hlt2, hk, hpr, hpa, hlk, hkk, hkk']; and_intros <;> first | omega | (simp <;> omega)))
          | ((with_reducible show aO _); first | exact True.intro | ((try dsimp only [go_sem]); first | (simp [vb, e, e1, e6, e7, e8, e9, f1, f2, hz1, hlt2, hk, hpr, hpa, hlk, hkk, hkk'] <;> omega) | (simp only [vb, and_true, true_implies]; (repeat' (first | (with_reducible assumption) | (with_reducible apply And.intro) | intro _ | ((fail_if_success (with_reducible show (_ : Int) ≤ _)); assumption))) <;> first | omega | rfl | (simp only [ab, e, e1, e6, e7, e8, e9, f1, f2, hz1, hlt2, hk, hpr, hpa, hlk, hkk, hkk']; done) | (simp [Nat.mul_one, e, e1, e6, e7, e8, e9, f1, f2, hz1, hlt2, hk, hpr, hpa, hlk, hkk, hkk'] <;> omega))))
          | exact (rfl : some _ = _)
          | (
            fail_if_success refine aV ?_
            refine dH [(132, fun _ => some (.sl ps.length (ps.flatMap fe))), (131, fun _ => some (.nilsl))] [(14, { val := some (.pv (.int .i64 (fi + k : Nat))) }), (16, { val := some (.pv (.agg [.int .i64 x.lo, .int .i64 x.hi])) }), (20, { val := some (.pv (.int .i64 kd)) }), (24, { val := some (.pv (.int .i64 km)) }), (31, { val := some (.pv (.int .i64 lk)) }), (32, { val := some (.pv (.bool true)) }), (36, { val := some (.pv (.bool false)) }), (56, { val := some (.pv (.int .i64 lk)) }), (49, { val := some (.pv (.bool false)) })] ?_
            repeat1' dsimp only [sV, aj, ah, go_sem]
            first
            | refine aW ?_ ?_ rfl ?_
            | apply aX
            | apply aY
            | (refine aZ (fun hc => ?_) fun hc => ?_ <;> first | (cases hc; done) | (try simp only [bn] at hc; try contradiction))
            | skip))
      | some p =>
        obtain rfl : q = true := by rw [hcl]; rfl
        simp only [if_true]
        unfold sT at hpa
        have hp0 := hpos p rfl
        refine af (C := ctx) (Fn.of xj rfl) rfl ?_
        unfold sV
        repeat' (first
          | ((with_reducible show aF _); first | exact True.intro | (simp only [vb, lb, e, e1, e6, e7, e8, e9, f1, f2, hz1, hlt2, hk, hpr, hpa, hlk, hkk, hkk', hp0]; and_intros <;> first | omega | (simp <;> omega)))
          | ((with_reducible show aO _); first | exact True.intro | ((try dsimp only [go_sem]); first | (simp [vb, e, e1, e6, e7, e8, e9, f1, f2, hz1, hlt2, hk, hpr, hpa, hlk, hkk, hkk', hp0] <;> omega) | (simp only [vb, and_true, true_implies]; (repeat' (first | (with_reducible assumption) | (with_reducible apply And.intro) | intro _ | ((fail_if_success (with_reducible show (_ : Int) ≤ _)); assumption))) <;> first | omega | rfl | (simp only [ab, e, e1, e6, e7, e8, e9, f1, f2, hz1, hlt2, hk, hpr, hpa, hlk, hkk, hkk', hp0]; done) | (simp [Nat.mul_one, e, e1, e6, e7, e8, e9, f1, f2, hz1, hlt2, hk, hpr, hpa, hlk, hkk, hkk', hp0] <;> omega))))
          | exact (rfl : some _ = _)
          | (
            fail_if_success refine aV ?_
            refine dH [(132, fun _ => some (.sl ps.length (ps.flatMap fe))), (131, fun _ => some (lC p))] [(14, { val := some (.pv (.int .i64 (fi + k : Nat))) }), (16, { val := some (.pv (.agg [.int .i64 x.lo, .int .i64 x.hi])) }), (20, { val := some (.pv (.int .i64 kd)) }), (24, { val := some (.pv (.int .i64 km)) }), (31, { val := some (.pv (.int .i64 lk)) }), (32, { val := some (.pv (.bool true)) }), (36, { val := some (.pv (.bool false)) }), (56, { val := some (.pv (.int .i64 lk)) }), (49, { val := some (.pv (.bool true)) })] ?_
            repeat1' dsimp only [sV, aj, ah, go_sem]
            first
            | refine aW ?_ ?_ rfl ?_
            | apply aX
            | apply aY
            | (refine aZ (fun hc => ?_) fun hc => ?_ <;> first | (cases hc; done) | (try simp only [bn] at hc; try contradiction))
            | skip))
        rw [fL]
  · have hxq : (if q = true then (⟨x.lo, min x.hi (lk - 1)⟩ : Rg) else x) = x := by
      split
      · rw [show min x.hi (lk - 1) = x.hi by omega]
      · rfl
    rw [hxq]
    refine af (C := ctx) (Fn.of xj rfl) rfl ?_
    unfold sV
    repeat' (first
      | ((with_reducible show aF _); first | exact True.intro | (simp only [vb, lb, e, e1, e6, e7, e8, e9, f1, f2, hz1, hlt2, hk, hpr, hpa, hlk]; and_intros <;> first | omega | (simp <;> omega)))
      | ((with_reducible show aO _); first | exact True.intro | ((try dsimp only [go_sem]); first | (simp [vb, e, e1, e6, e7, e8, e9, f1, f2, hz1, hlt2, hk, hpr, hpa, hlk] <;> omega) | (simp only [vb, and_true, true_implies]; (repeat' (first | (with_reducible assumption) | (with_reducible apply And.intro) | intro _ | ((fail_if_success (with_reducible show (_ : Int) ≤ _)); assumption))) <;> first | omega | rfl | (simp only [ab, e, e1, e6, e7, e8, e9, f1, f2, hz1, hlt2, hk, hpr, hpa, hlk]; done) | (simp [Nat.mul_one, e, e1, e6, e7, e8, e9, f1, f2, hz1, hlt2, hk, hpr, hpa, hlk] <;> omega) | (simp_all; done))))
      | exact (rfl : some _ = _)
      | (
        fail_if_success refine aV ?_
        refine dH [(132, fun _ => some (.sl ps.length (ps.flatMap fe))), (131, fun _ => some (.nilsl))] [(14, { val := some (.pv (.int .i64 (fi + k : Nat))) }), (16, { val := some (.pv (.agg [.int .i64 x.lo, .int .i64 x.hi])) }), (20, { val := some (.pv (.int .i64 kd)) }), (24, { val := some (.pv (.int .i64 km)) }), (31, { val := some (.pv (.int .i64 lk)) }), (32, { val := some (.pv (.bool false)) }), (36, { val := some (.pv (.bool false)) }), (56, { val := some (.pv (.int .i64 lk)) }), (49, { val := some (.pv (.bool false)) })] ?_
        repeat1' dsimp only [sV, aj, ah, go_sem]
        first
        | refine aW ?_ ?_ rfl ?_
        | apply aX
        | apply aY
        | (refine aZ (fun hc => ?_) fun hc => ?_ <;> first | (cases hc; done) | (try simp only [bn] at hc; try contradiction))
        | skip))
end Pur
end
end Go.Proofs.YtaleoeblooeglaaGreatDoor
