/-
  RefutationSmaller: a smaller system has no more answers. (RfY RfH RfZ RfZA RfG2 RfG3 RfMA RfI RfZB RfMB RfPb RfMC RfAx RfAy RfMD RfG4 RfMo)
-/
import Derived.Test.YtaleoeblooeglaaGreatDoorS03
set_option maxRecDepth 10000
set_option linter.unusedSimpArgs false
set_option linter.unusedVariables false
namespace Go.Proofs.YtaleoeblooeglaaGreatDoor
section
namespace Rf
open Pur
def stS (k:Int) (_:Int) (t:Tree):Bool×Int:=(true,IntKind.i64.wrap (k+t.steps.length))
def stD (k:Int) (lev:Int) (_:Tree):Bool×Int:=(true,if k<lev then lev else k)
theorem wrap_in {n:Int} (h1:0≤n) (h2:n≤4000000000):IntKind.i64.wrap n=n:=wrap64_id (by unfold minI;omega) (by unfold maxI;omega)
mutual
theorem vis_stS:∀(t:Tree) (k lev:Int),0≤k→k+wt t≤3000000000→vis stS k lev t=(true,k+stepsN t)
 | .node kd s c a l,k,lev,h0,h1=>by
  rw[wt_node]at h1;rw[vis,stepsN_node];show(match stS k lev (.node kd s c a l) with|(false,k1)=>(false,k1)|(true,k1)=>visK stS k1 (lev+1) l)=_;have hs:stS k lev (.node kd s c a l)=(true,k+s.length):=by
   simp only[stS,Tree.steps];rw[wrap_in (by omega) (by omega)]
  rw[hs];show visK stS _ _ l=_;rw[visK_stS l _ _ (by omega) (by push_cast at h1;omega)];simp only[Prod.mk.injEq,true_and];push_cast;omega
theorem visK_stS:∀(l:List Tree) (k lev:Int),0≤k→k+wts l≤3000000000→visK stS k lev l=(true,k+stepsNs l)
 |[],k,lev,h0,h1=>by rw[visK];simp[stepsNs]
 |t::r,k,lev,h0,h1=>by
  rw[wts]at h1;have:=stepsN_wt t;rw[visK,vis_stS t k lev h0 (by push_cast at h1;omega)];show visK stS _ _ r=_;rw[visK_stS r _ _ (by omega) (by push_cast at h1;omega),stepsNs];simp only[Prod.mk.injEq,true_and];push_cast;omega
end
mutual
theorem vis_stD:∀(t:Tree) (k lev:Int),lev-1≤k→vis stD k lev t=(true,if k<lev+depthN t-1 then lev+depthN t-1 else k)
 | .node kd s c a l,k,lev,h0=>by
  rw[vis,depthN_node];show visK stD (if k<lev then lev else k) (lev+1) l=_;rw[visK_stD l _ _ (by split<;>omega)];simp only[Prod.mk.injEq,true_and];(repeat' split)<;>omega
theorem visK_stD:∀(l:List Tree) (k lev:Int),lev-1≤k→visK stD k lev l=(true,if k<lev+depthNs l-1 then lev+depthNs l-1 else k)
 |[],k,lev,h0=>by
  rw[visK];simp only[depthNs,Prod.mk.injEq,true_and];(repeat' split)<;>omega
 |t::r,k,lev,h0=>by
  rw[visK,vis_stD t k lev h0];show visK stD _ lev r=_;rw[visK_stD r _ _ (by split<;>omega),depthNs];simp only[Prod.mk.injEq,true_and];rcases Nat.le_total (depthN t) (depthNs r) with h|h
  ·rw[Nat.max_eq_right h];(repeat' split)<;>omega
  ·rw[Nat.max_eq_left h];(repeat' split)<;>omega
end
def stV (k:Int×Bool) (lev:Int) (t:Tree):Bool×Int×Bool :=
 let c:=IntKind.i64.wrap (k.1+(1+t.steps.length))
 let bad:=bif decide (lev>4096) then true else bif decide (c>65536) then true else !nodeB t
 (!bad,c,bad)
theorem bif_tt (a b:Bool):(bif a then true else b)=(a||b):=by cases a<;>rfl
mutual
theorem vis_stV:∀(t:Tree) (c lev:Int),0≤c→c+wt t≤3000000000→(vis stV (c,false) lev t).2.2= !(vis stV (c,false) lev t).1 ∧
  ((vis stV (c,false) lev t).1=true↔(lev+depthN t≤4097∧c+wt t≤65536∧formedB t=true))∧((vis stV (c,false) lev t).1=true→(vis stV (c,false) lev t).2=(c+wt t,false))
 | .node kd s x a l,c,lev,h0,h1=>by
  rw[wt_node]at h1 ⊢;rw[vis,depthN_node,formedB_node];have hs:stV (c,false) lev (.node kd s x a l)=(!(decide (lev>4096)||(decide (c+(1+s.length)>65536)|| !(s.all rstepOk&&tailOk kd x a l.length))),c+(1+s.length),decide (lev>4096)||(decide (c+(1+s.length)>65536)|| !(s.all rstepOk&&tailOk kd x a l.length))):=by
   have hw:IntKind.i64.wrap (c+(1+s.length))=c+(1+s.length):=wrap_in (by omega) (by push_cast at h1;omega);simp only[stV,nodeB,Tree.steps,Tree.kind,Tree.cell,Tree.pos,Tree.kids,bif_tt,hw]
  rw[hs];cases hb:decide (lev>4096)||(decide (c+(1+s.length)>65536)|| !(s.all rstepOk&&tailOk kd x a l.length)) with
  |true =>
   refine⟨rfl,⟨(fun h=>by cases h),fun ⟨g1,g2,g3⟩=>?_⟩,(fun h=>by cases h)⟩;exfalso;simp only[Bool.and_eq_true]at g3;simp only[Bool.or_eq_true,decide_eq_true_eq,Bool.not_eq_true',Bool.and_eq_false_iff]at hb;rw[g3.1.1,g3.1.2]at hb;push_cast at g1 g2;simp at hb;omega
  |false =>
   simp only[Bool.or_eq_false_iff,decide_eq_false_iff_not,Bool.not_eq_false']at hb;obtain⟨b1,b2,b3⟩:=hb;obtain⟨q1,q2,q3⟩:=visK_stV l (c+(1+s.length)) (lev+1) (by omega) (by push_cast at h1;omega) (by omega) (by omega);refine⟨q1,q2.trans ?_,fun h=>(q3 h).trans ?_⟩
   ·rw[b3,Bool.true_and];push_cast;constructor
    ·rintro⟨g1,g2,g3⟩;exact⟨by omega,by omega,g3⟩
    ·rintro⟨g1,g2,g3⟩;exact⟨by omega,by omega,g3⟩
   ·push_cast;rw[Prod.mk.injEq];exact⟨by omega,rfl⟩
theorem visK_stV:∀(l:List Tree) (c lev:Int),0≤c→c+wts l≤3000000000→c≤65536→lev≤4097→(visK stV (c,false) lev l).2.2= !(visK stV (c,false) lev l).1 ∧
  ((visK stV (c,false) lev l).1=true↔(lev+depthNs l≤4097∧c+wts l≤65536∧l.all formedB=true))∧((visK stV (c,false) lev l).1=true→(visK stV (c,false) lev l).2=(c+wts l,false))
 |[],c,lev,h0,h1,h2,h3=>by
  rw[visK];refine⟨rfl,⟨fun _=>⟨by simp[depthNs];omega,by simp[wts];omega,rfl⟩,fun _=>rfl⟩,fun _=>by simp[wts]⟩
 |t::r,c,lev,h0,h1,h2,h3=>by
  rw[wts]at h1 ⊢;rw[visK,depthNs,List.all_cons];obtain⟨q1,q2,q3⟩:=vis_stV t c lev h0 (by push_cast at h1;omega);generalize vis stV (c,false) lev t=v at *;obtain⟨b,k1⟩:=v;simp only at q1 q2 q3;cases b with
  |false =>
   refine⟨q1,⟨(fun h=>by cases h),fun ⟨g1,g2,g3⟩=>?_⟩,(fun h=>by cases h)⟩;rw[Bool.and_eq_true]at g3;have:=Nat.le_max_left (depthN t) (depthNs r);exact absurd (q2.mpr ⟨by omega,by push_cast at g2;omega,g3.1⟩) (by simp)
  |true =>
   obtain⟨g1,g2,g3⟩:=q2.mp rfl;obtain rfl:=q3 rfl;obtain⟨p1,p2,p3⟩:=visK_stV r (c+wt t) lev (by omega) (by push_cast at h1;omega) (by omega) h3;refine⟨p1,p2.trans ?_,fun h=>(p3 h).trans ?_⟩
   ·rw[g3,Bool.true_and];push_cast;constructor
    ·rintro⟨e1,e2,e3⟩;exact⟨by rcases Nat.le_total (depthN t) (depthNs r) with h|h<;>simp only[Nat.max_eq_right h,Nat.max_eq_left h]<;>omega,by omega,e3⟩
    ·rintro⟨e1,e2,e3⟩;exact⟨by have:=Nat.le_max_right (depthN t) (depthNs r);omega,by omega,e3⟩
   ·push_cast;rw[Prod.mk.injEq];exact⟨by omega,rfl⟩
end
theorem valid_eq (t:Tree) (h:wt t≤1000000000):(vis stV (0,false) 1 t).2.2= !validB t:=by
 obtain⟨q1,q2,-⟩:=vis_stV t 0 1 (by omega) (by omega);rw[q1];congr 1;rw[Bool.eq_iff_iff,q2];simp only[validB,Bool.and_eq_true,decide_eq_true_eq];constructor
 ·rintro⟨a,b,c⟩;exact⟨⟨by omega,by omega⟩,c⟩
 ·rintro⟨⟨a,b⟩,c⟩;exact⟨by omega,by omega,c⟩
end Rf
namespace Pur
open Go.RowKit
attribute [local go_sem] evOps evOp evOpV evRun evK argF List.map hintAt stripped get put tmpsOf tmpOf tmpO tmpL tmpP conds ev cond_true cond_false Nat.beq Nat.ble Nat.add quiet After thenR blockR IfD List.append_eq List.nil_append List.cons_append evInt exactI_a exactI_b exactI_c exactI_d exactI_e exactI_f evBin evStr evBool evUn guardC calm quiet.isCallK evPick List.getElem?_cons_zero List.getElem?_cons_succ fromCells fromPVs cellsOf List.all oneCell List.length_cons List.length_nil mkAgg plains List.drop List.take List.getD Option.getD_some bo1 bo2 ba1 ba2 bn1 bn2 kk_i64 kk_u8 kk_i32 kk_u64 setAt List.set Nat.reduceAdd Nat.reduceMul evCall safeCall refsOf refsIn scalarA scalar scalarL thawL mapAll thawArg thawRef after freeze RetD RetE evResult evRess evRes1 thaw_pv mkTup nilOf_a nilOf_b nilOf_bb nilOf_c nilOf_d nilOf_e nilOf_f nilOf_g nilOf_h nilOf_i nilOf_j nilOf_k nilOf_l nilOf_m eqLeaf_a eqLeaf_b eqLeaf_c eqOffs evMM bytesOf evOpsF AfterF footOf footRefs notIn indepF footAt freeOk still evParts fillA zeros intOfA boundA srcOf List.isEmpty appNil_0 appNil_1 appNil_2 Int.reduceToNat Nat.mul_one Nat.reduceSub evC evOpsT evOpsTF autoH tabHint look hintD strip guarded RetPD RetRD mpLen keysOk leafKA leafK bitI nilOf_n nilOf_o Bool.or_false Bool.or_true Bool.and_true Bool.and_false Nat.blt renF renM renB renV idxOf solF solM solA solV thawRef ev1
open Rf
def cntB (k:Int):Blk:=⟨[.pv (.int .i64 k)],0,1,3,false⟩
theorem cnt_lit (k:Int):∀b∈[cntB k],LitB b:=by
 intro b hb;rw[List.mem_singleton.mp hb];exact⟨by simp[cntB,litV],rfl,rfl,by simp[cntB]⟩
set_option maxHeartbeats 2000000 in
theorem steps_ok (t:Tree) (hw:wt t≤1000000000):PureOK ctx 15 [treeP t] (.int .i64 (stepsN t)):=by
 refine pure_bodyM (C:=ctx) (Fn.of fn15 rfl) rfl ?_;unfold c15;refine awM_seq (awM_lift fun D=>?_);refine evA ?_;dsimp only[treeP,go_sem];try dsimp only[treeP,go_sem]
 refine⟨(by simp[vb]<;>omega),(by simp[vb]<;>omega),?_⟩;refine awM_seq (awM_lift fun D=>?_);refine evA ?_;dsimp only[treeP,go_sem];try dsimp only[treeP,go_sem]
 refine⟨(by simp[vb]<;>omega),(by simp[vb]<;>omega),?_⟩;refine awM_seq (awM_seq (awM_lift fun D=>?_));have hn:=(nodes_ok t [treeB t,cntB 0] rfl).atD D;refine evH [(7,{val:=some (.fn 67 [.ptr 2 0 0]),mem:=some ([treeB t,cntB 0]++[treeB t])})] ?_;dsimp only[treeP,treeB,cntB,go_sem];try dsimp only[treeP,treeB,cntB,go_sem]
 refine⟨(by simp[vb]<;>omega),?_,?_⟩
 ·exact⟨hn,trivial⟩
 refine awM_keep [1,2] rfl ?_;dsimp only[renF,renM,renB,renV,idxOf,go_sem]
 refine awM_block (awM_range (σ:=Int) (q:=1) (bt:=1) (k0:=0) (k':=stepsN t) (fo:=fun k=>[cntB k]) (stop:=fun _=>false) (junk:=[treeB t]) (kb:=treeB t) (cells:=[.int .i64 t.kind,rstepsP t.steps,.int .i64 t.cell,.int .i64 t.pos,kidsP t.kids]) (g0:=[(3,.ptr 0 0 0)]) (rv:=.pv (.tup [])) rfl (by omega) rfl rfl rfl (by simp[treeB]) (by kernel_rfl) (fun _=>rfl) cnt_lit rfl rfl (by (repeat' (first|exact trivial|refine And.intro (by first|rfl|(simp[get,Nat.beq];done)|(simp[get,Nat.beq];omega)|(dsimp only[get];congr 1<;>first|rfl|omega|(simp;done)|(simp;omega))) ?_))) (by omega) (by omega) (by omega) ?_ (fun _=>?_) (fun h=>by cases h))
 ·intro w0 w1 S γ l L hX hround;have:=nodes1_ok (X:=⟨_,hX.hE,_⟩) l stS (fun _=>True) (fun _ _ _ _ _=>trivial) (fun k lev u μ _ hμ hwu hl0 hl1=>hround (.int .i64 lev) (treeP u) k _ true μ rfl rfl ?_) t hw 0 trivial
  ·rw[vis_stS t 0 1 (by omega) (by omega)]at this;rw[Int.zero_add]at this;exact this
  ·refine awR_reg false [] ?_;dsimp only[treeP,rstepsP,kidsP,cntB,thenR,go_sem];refine⟨by simp[VCs],by simp[All],?_⟩;refine awR_block (awR_reg false [(4,{mode:=1})] ?_);dsimp only[treeP,rstepsP,kidsP,cntB,thenR,go_sem];refine⟨by simp[VCs],by simp[All],?_⟩;exact⟨rfl,_,rfl⟩
 ·refine awM_lift fun D=>?_
  repeat' (first
   |((with_reducible first|show VCs _|show All _);simp[vb]<;>omega)
   |exact(rfl:some _=_)
   |(
    fail_if_success refine awL ?_
    refine evA ?_;repeat1' dsimp only[c15,cntB,go_sem]
    first
    |refine aw4 ?_ ?_ rfl ?_
    |apply aw3
    |apply aw2
    |(refine awB (fun hc=>?_) fun hc=>?_<;>first|(cases hc;done)|(exfalso;simp at hc<;>omega)|(try simp only[bn]at hc;try contradiction))
    |skip))
set_option maxHeartbeats 2000000 in
theorem depth_ok (t:Tree) (hw:wt t≤1000000000):PureOK ctx 17 [treeP t] (.int .i64 (depthN t)):=by
 refine pure_bodyM (C:=ctx) (Fn.of fn17 rfl) rfl ?_;unfold c17;refine awM_seq (awM_lift fun D=>?_);refine evA ?_;dsimp only[treeP,go_sem];try dsimp only[treeP,go_sem]
 refine⟨(by simp[vb]<;>omega),(by simp[vb]<;>omega),?_⟩;refine awM_seq (awM_lift fun D=>?_);refine evA ?_;dsimp only[treeP,go_sem];try dsimp only[treeP,go_sem]
 refine⟨(by simp[vb]<;>omega),(by simp[vb]<;>omega),?_⟩;refine awM_seq (awM_seq (awM_lift fun D=>?_));have hn:=(nodes_ok t [treeB t,cntB 0] rfl).atD D;refine evH [(6,{val:=some (.fn 67 [.ptr 2 0 0]),mem:=some ([treeB t,cntB 0]++[treeB t])})] ?_;dsimp only[treeP,treeB,cntB,go_sem];try dsimp only[treeP,treeB,cntB,go_sem]
 refine⟨(by simp[vb]<;>omega),?_,?_⟩
 ·exact⟨hn,trivial⟩
 refine awM_keep [1,2] rfl ?_;dsimp only[renF,renM,renB,renV,idxOf,go_sem]
 refine awM_block (awM_range (σ:=Int) (q:=1) (bt:=1) (k0:=0) (k':=depthN t) (fo:=fun k=>[cntB k]) (stop:=fun _=>false) (junk:=[treeB t]) (kb:=treeB t) (cells:=[.int .i64 t.kind,rstepsP t.steps,.int .i64 t.cell,.int .i64 t.pos,kidsP t.kids]) (g0:=[(3,.ptr 0 0 0)]) (rv:=.pv (.tup [])) rfl (by omega) rfl rfl rfl (by simp[treeB]) (by kernel_rfl) (fun _=>rfl) cnt_lit rfl rfl (by (repeat' (first|exact trivial|refine And.intro (by first|rfl|(simp[get,Nat.beq];done)|(simp[get,Nat.beq];omega)|(dsimp only[get];congr 1<;>first|rfl|omega|(simp;done)|(simp;omega))) ?_))) (by omega) (by omega) (by omega) ?_ (fun _=>?_) (fun h=>by cases h))
 ·intro w0 w1 S γ l L hX hround;have:=nodes1_ok (X:=⟨_,hX.hE,_⟩) l stD (fun _=>True) (fun _ _ _ _ _=>trivial) (fun k lev u μ _ hμ hwu hl0 hl1=>hround (.int .i64 lev) (treeP u) k _ true μ rfl rfl ?_) t hw 0 trivial
  ·rw[vis_stD t 0 1 (by omega)]at this;have e:(if (0:Int)<1+depthN t-1 then (1:Int)+depthN t-1 else 0)=depthN t:=by split<;>omega
   rw[e]at this;exact this
  ·refine awR_reg false [] ?_;dsimp only[treeP,rstepsP,kidsP,cntB,thenR,go_sem];refine⟨by simp[VCs],by simp[All],?_⟩;refine awR_block (awR_reg false [] ?_);dsimp only[treeP,rstepsP,kidsP,cntB,thenR,go_sem];refine⟨by simp[VCs],by simp[All],?_⟩;exact⟨rfl,[],rfl⟩
 ·refine awM_lift fun D=>?_
  repeat' (first
   |((with_reducible first|show VCs _|show All _);simp[vb]<;>omega)
   |exact(rfl:some _=_)
   |(
    fail_if_success refine awL ?_
    refine evA ?_;repeat1' dsimp only[c17,cntB,go_sem]
    first
    |refine aw4 ?_ ?_ rfl ?_
    |apply aw3
    |apply aw2
    |(refine awB (fun hc=>?_) fun hc=>?_<;>first|(cases hc;done)|(exfalso;simp at hc<;>omega)|(try simp only[bn]at hc;try contradiction))
    |skip))
def valB (k:Int×Bool):AM:=[⟨[.pv (.bool false)],0,1,4,false⟩,cntB k.1]
theorem val_lit (k:Int×Bool):∀b∈valB k,LitB b:=by
 intro b hb;simp only[valB,List.mem_cons,List.not_mem_nil,or_false]at hb;rcases hb with rfl|rfl
 ·exact⟨by simp[litV],rfl,rfl,by simp⟩
 ·exact⟨by simp[cntB,litV],rfl,rfl,by simp[cntB]⟩
set_option maxHeartbeats 4000000 in
theorem valid_ok (t:Tree) (hw:wt t≤1000000000):PureOK ctx 13 [treeP t] (.bool (validB t)):=by
 refine pure_bodyM (C:=ctx) (Fn.of fn13 rfl) rfl ?_;unfold c13;refine awM_seq (awM_lift fun D=>?_);refine evA ?_;dsimp only[treeP,go_sem];try dsimp only[treeP,go_sem]
 refine⟨(by simp[vb]<;>omega),(by simp[vb]<;>omega),?_⟩;refine awM_seq (awM_lift fun D=>?_);refine evA ?_;dsimp only[treeP,go_sem];try dsimp only[treeP,go_sem]
 refine⟨(by simp[vb]<;>omega),(by simp[vb]<;>omega),?_⟩;refine awM_seq (awM_seq (awM_lift fun D=>?_));have hn:=(nodes_ok t ([treeB t]++valB (0,false)) rfl).atD D;refine evH [(7,{val:=some (.fn 67 [.ptr 3 0 0]),mem:=some (([treeB t]++valB (0,false))++[treeB t])})] ?_;dsimp only[treeP,treeB,cntB,valB,go_sem];try dsimp only[treeP,treeB,cntB,valB,go_sem]
 refine⟨(by simp[vb]<;>omega),?_,?_⟩
 ·exact⟨hn,trivial⟩
 refine awM_keep [1,2,3] rfl ?_;dsimp only[renF,renM,renB,renV,idxOf,go_sem];have hve:=valid_eq t hw
 refine awM_block (awM_range (σ:=Int×Bool) (q:=2) (bt:=2) (k0:=(0,false)) (k':=(vis stV (0,false) 1 t).2) (fo:=valB) (stop:=fun k=>k.2) (junk:=[treeB t]) (kb:=treeB t) (cells:=[.int .i64 t.kind,rstepsP t.steps,.int .i64 t.cell,.int .i64 t.pos,kidsP t.kids]) (g0:=[(2,.ptr 0 0 0),(3,.ptr 1 0 0)]) (rv:=.pv (.tup [])) rfl (by omega) rfl rfl rfl (by simp[treeB]) (by kernel_rfl) (fun _=>rfl) val_lit rfl rfl (by (repeat' (first|exact trivial|refine And.intro (by first|rfl|(simp[get,Nat.beq];done)|(simp[get,Nat.beq];omega)|(dsimp only[get];congr 1<;>first|rfl|omega|(simp;done)|(simp;omega))) ?_))) (by omega) (by omega) (by omega) ?_ (fun hst=>?_) (fun hst=>?_))
 ·intro w0 w1 S γ l L hX hround;refine nodes1_ok (X:=⟨_,hX.hE,_⟩) l stV (fun k=>k.2=false) (fun k lev u hk hst=>?_) (fun k lev u μ hk hμ hwu hl0 hl1=>hround (.int .i64 lev) (treeP u) k _ (stV k lev u).1 μ hk ?_ ?_) t hw (0,false) rfl
  ·simp only[stV,Bool.not_eq_true']at hst ⊢;exact hst
  ·simp only[stV,Bool.not_not]
  ·refine awR_seq (awR_reg false [] ?_);dsimp only[treeP,rstepsP,kidsP,cntB,valB,thenR,go_sem];refine⟨by simp[VCs],by simp[All],?_⟩;refine awR_reg false [] ?_;dsimp only[treeP,rstepsP,kidsP,cntB,valB,thenR,go_sem];refine⟨by simp[VCs],by simp[All],?_⟩;have hnode:=node_ok u hwu;refine awR_block (awR_seq (awR_reg false [(5,{mode:=1})] ?_));dsimp only[treeP,rstepsP,kidsP,cntB,valB,thenR,go_sem];have hsl:u.steps.length≤1000000000:=by
    obtain⟨kd,s,c,a,ks⟩:=u;rw[wt_node]at hwu;simp only[Tree.steps];omega
   refine⟨by simp[VCs,minI,maxI];omega,by simp[All],?_⟩;have hst:stV k lev u=(!(bif decide (4096<lev) then true else bif decide (65536<IntKind.i64.wrap (k.1+(1+(u.steps.length:Int)))) then true else !nodeB u),IntKind.i64.wrap (k.1+(1+u.steps.length)),bif decide (4096<lev) then true else bif decide (65536<IntKind.i64.wrap (k.1+(1+(u.steps.length:Int)))) then true else !nodeB u):=rfl;rw[hst];unfold treeP rstepsP kidsP at hnode;refine awR_seq (awR_reg true [(8,{val:=some (.pv (.bool (nodeB u)))})] ?_);dsimp only[treeP,rstepsP,kidsP,cntB,valB,thenR,go_sem];generalize decide (4096<lev)=A
   generalize decide (65536<IntKind.i64.wrap (k.1+(1+(u.steps.length:Int))))=B;generalize nodeB u=N at *;refine⟨by simp[VCs],by cases A<;>cases B<;>simp[All,VCs]<;>exact hnode,?_⟩;refine awR_cond rfl ?_;cases A<;>cases B<;>cases N;all_goals first
    |(
     refine awR_skip ?_;exact⟨rfl,_,rfl⟩)
    |(
     refine awR_seq (awR_reg false [] ?_);dsimp only[treeP,rstepsP,kidsP,cntB,valB,thenR,go_sem];refine⟨by simp[VCs],by simp[All],?_⟩;refine awR_ret ?_;exact⟨rfl,_,rfl⟩)
 ·rw[hve,Bool.not_eq_false']at hst;refine awM_lift fun D=>?_
  repeat' (first
   |((with_reducible first|show VCs _|show All _);simp[vb]<;>omega)
   |exact(rfl:some _=_)
   |(
    fail_if_success refine awL ?_
    refine evA ?_;repeat1' dsimp only[c13,cntB,valB,go_sem]
    first
    |refine aw4 ?_ ?_ rfl ?_
    |apply aw3
    |apply aw2
    |(refine awB (fun hc=>?_) fun hc=>?_<;>first|(cases hc;done)|(exfalso;simp at hc<;>omega)|(try simp only[bn]at hc;try contradiction))
    |skip))
  rw[hst]
 ·rw[hve,Bool.not_eq_true']at hst;rw[hst];dsimp only[blockR,thenR,valB,cntB,go_sem];exact⟨by simp[VCs],rfl⟩
end Pur
end
section
namespace Rf
def rstT (x:RStep):List UInt8:=(if x.kind=1 then [103,114,97,112,104,32] else [114,111,119,32])++Lib.itoa x.index++[32]++Lib.itoa x.cell++[10]
def tailT (k c a:Int) (n:Nat):List UInt8 :=
 if k=1 then [115,112,108,105,116,32]++Lib.itoa c++[32]++Lib.itoa a++[10]
 else if k=2 then [99,97,115,101,115,32]++Lib.itoa n++[10]
 else [99,108,111,115,101,100,10]
def textN:Tree→List UInt8
 | .node k s c a l=>(s.map rstT).flatten++tailT k c a l.length++(l.attach.map fun x=>textN x.1).flatten
decreasing_by
 have:=List.sizeOf_lt_of_mem x.2;simp;omega
theorem textN_node (k:Int) (s:List RStep) (c a:Int) (l:List Tree):textN (.node k s c a l)=(s.map rstT).flatten++tailT k c a l.length++(l.map textN).flatten:=by
 rw[textN,attach_map]
end Rf
namespace Pur
open Go.RowKit
attribute [local go_sem] evOps evOp evOpV evRun evK argF List.map hintAt stripped get put tmpsOf tmpOf tmpO tmpL tmpP conds ev cond_true cond_false Nat.beq Nat.ble Nat.add quiet After thenR blockR IfD List.append_eq List.nil_append List.cons_append evInt exactI_a exactI_b exactI_c exactI_d exactI_e exactI_f evBin evStr evBool evUn guardC calm quiet.isCallK evPick List.getElem?_cons_zero List.getElem?_cons_succ fromCells fromPVs cellsOf List.all oneCell List.length_cons List.length_nil mkAgg plains List.drop List.take List.getD Option.getD_some bo1 bo2 ba1 ba2 bn1 bn2 kk_i64 kk_u8 kk_i32 kk_u64 setAt List.set Nat.reduceAdd Nat.reduceMul evCall safeCall refsOf refsIn scalarA scalar scalarL thawL mapAll thawArg thawRef after freeze RetD RetE evResult evRess evRes1 thaw_pv mkTup nilOf_a nilOf_b nilOf_bb nilOf_c nilOf_d nilOf_e nilOf_f nilOf_g nilOf_h nilOf_i nilOf_j nilOf_k nilOf_l nilOf_m eqLeaf_a eqLeaf_b eqLeaf_c eqOffs evMM bytesOf evOpsF AfterF footOf footRefs notIn indepF footAt freeOk still evParts fillA zeros intOfA boundA srcOf List.isEmpty appNil_0 appNil_1 appNil_2 Int.reduceToNat Nat.mul_one Nat.reduceSub evC evOpsT evOpsTF autoH tabHint look hintD strip guarded RetPD RetRD mpLen keysOk leafKA leafK bitI nilOf_n nilOf_o Bool.or_false Bool.or_true Bool.and_true Bool.and_false Nat.blt renF renM renB renV idxOf solF solM solA solV thawRef ev1
open Rf
theorem rstep_bounds {x:RStep} (h:rstepOk x=true):(0≤x.index∧x.index≤2048)∧(-1≤x.cell∧x.cell≤127):=by
 simp only[rstepOk,insideB,Bool.and_eq_true,decide_eq_true_eq]at h;split at h<;>omega
theorem tail_bounds {k c a:Int} {n:Nat} (h:tailOk k c a n=true):(0≤c∧c≤127)∧(-1000000≤a∧a≤1000000):=by
 simp only[tailOk,insideB]at h;(repeat' split at h)<;>simp only[Bool.and_eq_true,decide_eq_true_eq,Bool.false_eq_true]at h<;>omega
theorem rstT_len {x:RStep} (h:rstepOk x=true):(rstT x).length≤60:=by
 have h1:=rstep_bounds h;have h2:=itoa_len x.index (by omega) (by omega);have h3:=itoa_len x.cell (by omega) (by omega);unfold rstT;split<;>simp only[List.length_append,List.length_cons,List.length_nil]<;>omega
theorem tailT_len {k c a:Int} {n:Nat} (h:tailOk k c a n=true) (hn:n≤1000000000):(tailT k c a n).length≤60:=by
 have h1:=tail_bounds h;have h2:=itoa_len c (by omega) (by omega);have h3:=itoa_len a (by omega) (by omega);have h4:=itoa_len n (by omega) (by omega);unfold tailT;(repeat' split)<;>simp only[List.length_append,List.length_cons,List.length_nil]<;>omega
theorem stepsT_len:∀(s:List RStep),s.all rstepOk=true→(s.map rstT).flatten.length≤60*s.length
 |[],_=>by simp
 |x::r,h=>by
  rw[List.all_cons,Bool.and_eq_true]at h;have h1:=rstT_len h.1;have h2:=stepsT_len r h.2;rw[List.map_cons,List.flatten_cons,List.length_append,List.length_cons];omega
theorem kidsT_len:∀(l:List Tree),(∀t∈l,(textN t).length≤60*wt t)→(l.map textN).flatten.length≤60*wts l
 |[],_=>by simp
 |t::r,h=>by
  have h1:=h t (by simp);have h2:=kidsT_len r fun x hx=>h x (by simp[hx])
  rw[List.map_cons,List.flatten_cons,List.length_append,wts];omega
theorem textN_len:∀(t:Tree),formedB t=true→wt t≤1000000000→(textN t).length≤60*wt t:=by
 refine Tree.ind fun k s c a l ih h hw=>?_
 rw[formedB_node,Bool.and_eq_true,Bool.and_eq_true]at h;rw[wt_node]at hw;have hl:=wts_len l;have h1:=stepsT_len s h.1.1;have h2:=tailT_len h.1.2 (by omega);have:∀(l:List Tree),(∀t∈l,formedB t=true→wt t≤1000000000→(textN t).length≤60*wt t)→l.all formedB=true→wts l≤1000000000→(l.map textN).flatten.length≤60*wts l:=fun l=>by
  induction l with
  |nil=>intro _ _ _;simp
  |cons t r ihr =>
   intro hh ha hb;rw[List.all_cons,Bool.and_eq_true]at ha;rw[wts]at hb ⊢;have h3:=hh t (by simp) ha.1 (by omega);have h4:=ihr (fun x hx=>hh x (by simp[hx])) ha.2 (by omega);rw[List.map_cons,List.flatten_cons,List.length_append];omega
 have h5:=this l ih h.2 (by omega);rw[textN_node,wt_node];simp only[List.length_append];omega
def c53:ACode:=(⟨_,by conv=>(lhs;reduce;try simp only[lt1,Int.cast_ofNat_Int,Int.reduceNegSucc,UInt8.reduceOfNat])⟩:{x // codeOf Tryz.prog 53 (fun _=>false)=some x}).1
end Pur
end
section
namespace Rf
def lineT (w:List UInt8) (ns:List Int):List UInt8:=w++(ns.map fun n=>32::Lib.itoa n).flatten++[10]
def numsT (ns:List Int):List UInt8:=(ns.map fun n=>32::Lib.itoa n).flatten
theorem numsT_snoc (l:List Int) (n:Int):numsT (l++[n])=numsT l++32::Lib.itoa n:=by simp[numsT]
end Rf
namespace Pur
open Go.RowKit
attribute [local go_sem] evOps evOp evOpV evRun evK argF List.map hintAt stripped get put tmpsOf tmpOf tmpO tmpL tmpP conds ev cond_true cond_false Nat.beq Nat.ble Nat.add quiet After thenR blockR IfD List.append_eq List.nil_append List.cons_append evInt exactI_a exactI_b exactI_c exactI_d exactI_e exactI_f evBin evStr evBool evUn guardC calm quiet.isCallK evPick List.getElem?_cons_zero List.getElem?_cons_succ fromCells fromPVs cellsOf List.all oneCell List.length_cons List.length_nil mkAgg plains List.drop List.take List.getD Option.getD_some bo1 bo2 ba1 ba2 bn1 bn2 kk_i64 kk_u8 kk_i32 kk_u64 setAt List.set Nat.reduceAdd Nat.reduceMul evCall safeCall refsOf refsIn scalarA scalar scalarL thawL mapAll thawArg thawRef after freeze RetD RetE evResult evRess evRes1 thaw_pv mkTup nilOf_a nilOf_b nilOf_bb nilOf_c nilOf_d nilOf_e nilOf_f nilOf_g nilOf_h nilOf_i nilOf_j nilOf_k nilOf_l nilOf_m eqLeaf_a eqLeaf_b eqLeaf_c eqOffs evMM bytesOf evOpsF AfterF footOf footRefs notIn indepF footAt freeOk still evParts fillA zeros intOfA boundA srcOf List.isEmpty appNil_0 appNil_1 appNil_2 Int.reduceToNat Nat.mul_one Nat.reduceSub evC evOpsT evOpsTF autoH tabHint look hintD strip guarded RetPD RetRD mpLen keysOk leafKA leafK bitI nilOf_n nilOf_o Bool.or_false Bool.or_true Bool.and_true Bool.and_false Nat.blt renF renM renB renV idxOf solF solM solA solV thawRef ev1
open Rf
def bst (μ:AM) (b g r:Nat) (out:List UInt8) (j:Nat):AM:=(μ.set r (rowB out j)).set b (bldB (.ptr b g 0) (.ref r j 0 out.length) g)
def bcell (b g:Nat):Blk:=⟨[.ptr b g 0],0,1,75,false⟩
theorem bst_len {μ:AM} {b g r j:Nat} {out:List UInt8}:(bst μ b g r out j).length=μ.length:=by simp[bst]
theorem bst_b {μ:AM} {b g r j:Nat} {out:List UInt8} (hb:b<μ.length):(bst μ b g r out j)[b]?=some (bldB (.ptr b g 0) (.ref r j 0 out.length) g):=by
 unfold bst;exact List.getElem?_set_self (by simpa using hb)
theorem bst_r {μ:AM} {b g r j:Nat} {out:List UInt8} (hr:r<μ.length) (hne:r≠b):(bst μ b g r out j)[r]?=some (rowB out j):=by
 unfold bst;rw[List.getElem?_set_ne (Ne.symm hne)];exact List.getElem?_set_self hr
theorem bst_o {μ:AM} {b g r j c:Nat} {out:List UInt8} (hb:c≠b) (hr:c≠r):(bst μ b g r out j)[c]?=μ[c]?:=by
 unfold bst;rw[List.getElem?_set_ne (Ne.symm hb),List.getElem?_set_ne (Ne.symm hr)]
theorem bst_bst {μ:AM} {b g r j j':Nat} {out out':List UInt8} (hne:r≠b):bst (bst μ b g r out j) b g r out' j'=bst μ b g r out' j':=by
 unfold bst;rw[List.set_comm _ _ (Ne.symm hne),List.set_set,List.set_set]
theorem bst_ok {μ:AM} {b g r j m:Nat} {out:List UInt8} (h:okMem μ m=true) (hb:b<m) (hr:r<m):okMem (bst μ b g r out j) m=true:=by
 unfold bst;refine okMem_set (okMem_set h (byteA_bnd _ _)) ?_;simp[bldB,bnd,Nat.blt_eq,hb,hr,Nat.blt,Nat.ble_eq,Nat.succ_le_iff]
theorem write_bst {μ:AM} (hμ:okMem μ μ.length=true) {b g r j:Nat} {old:List UInt8} (hb:b<μ.length) (hr:r<μ.length) (hne:r≠b) (l:List UInt8) (hl:old.length+l.length≤140737488355328) :
  RefOK ctx 83 [.ptr b g 0,.pv (.str l)] (bst μ b g r old j) (.pv (.tup [.int .i64 l.length,.val .nilIface])) (bst μ b g r (old++l) (j+1)):=by
 have:=write_more (μ:=bst μ b g r old j) (by rw[bst_len];exact bst_ok hμ hb hr) hne (bst_b hb) (bst_r hr hne) l hl;have e:((bst μ b g r old j).set r (rowB (old++l) (j+1))).set b (bldB (.ptr b g 0) (.ref r (j+1) 0 (old.length+l.length)) g)=bst μ b g r (old++l) (j+1):=by
  have:=bst_bst (μ:=μ) (b:=b) (g:=g) (r:=r) (j:=j) (j':=j+1) (out:=old) (out':=old++l) hne;rw[←this];conv=>rhs;unfold bst
  rw[List.length_append];rfl
 rw[e]at this;exact this
def c82:ACode:=(⟨_,by conv=>(lhs;reduce;try simp only[lt1,Int.cast_ofNat_Int,Int.reduceNegSucc,UInt8.reduceOfNat])⟩:{x // codeOf Tryz.prog 82 (fun _=>false)=some x}).1
theorem fn82:fnOf Tryz.prog 82 (fun _=>false)=some (c82,[],24,true):=by kernel_rfl
def c82t:ACode:=(⟨_,by conv=>(lhs;reduce;try simp only[lt1,Int.cast_ofNat_Int,Int.reduceNegSucc,UInt8.reduceOfNat])⟩:{x // (codeOf Tryz.prog 82 (fun _=>false)).map (fun y=>y.sub [1])=some x}).1
theorem nums_len (ns:List Int) (hns:∀n∈ns,-10000000000≤n∧n≤10000000000):∀k,k≤ns.length→(numsT (ns.take k)).length≤22*k:=by
 intro k;induction k with
 |zero=>intro _;simp[numsT]
 |succ k ih =>
  intro hk;rw[take_succ_getD ns k 0 (by omega),numsT_snoc,List.length_append,List.length_cons];have:=itoa_len (ns.getD k 0) (hns _ (getD_mem (by omega))).1 (hns _ (getD_mem (by omega))).2;have:=ih (by omega);omega
set_option maxHeartbeats 4000000 in
theorem line_rest {μ:AM} (hμ:okMem μ μ.length=true) {m b g r j c:Nat} {old:List UInt8} (hmm:m≤μ.length) (hb:b<μ.length) (hr:r<μ.length) (hne:r≠b) (hcb:c≠b) (hcr:c≠r) (hc:μ[c]?=some (bcell b g)) (ns:List Int) (hn:ns.length≤1000) (hns:∀n∈ns,-10000000000≤n∧n≤10000000000) (ho:old.length≤10000001000) {f:AF} (hf:Sub [(1,.pv (.sl ns.length (ns.map (.int .i64)))),(2,.ptr c 0 0)] f) :
  Aw ctx (fun _=>false) 24 m c82t (RetRD [] (.pv (.tup [])) (bst μ b g r (old++numsT ns++[10]) (j+(ns.length+1)))) f (bst μ b g r old j):=by
 have hcl:c<μ.length:=(List.getElem?_eq_some_iff.mp hc).1;have hcell:∀o i,(bst μ b g r o i)[c]?=some (bcell b g):=fun o i=>(bst_o hcb hcr).trans hc
 have hnl:=nums_len ns hns;refine aw_frame _ hf ?_;unfold c82t;refine evA ?_;simp only[hcell,bcell,mem2_get,mem2_last,mem2_set0,mem2_set1,mem_last,mem_set,mem_len,go_sem];try simp only[hcell,bcell,mem2_get,mem2_last,mem2_set0,mem2_set1,mem_last,mem_set,mem_len,go_sem]
 refine⟨(by simp[vb]<;>omega),(by simp[vb]<;>omega),?_⟩;refine aw_block ?_
 refine aw_forJ ns.length (fun _=>True) (fun k=>[(2,.ptr c 0 0),(10,.pv (.sl ns.length (ns.map (.int .i64)))),(11,.pv (.int .i64 ns.length)),(12,.pv (.int .i64 k))]) (fun k=>bst μ b g r (old++numsT (ns.take k)) (j+k)) trivial (by (repeat' (first|exact trivial|refine And.intro (by first|rfl|(simp[get,Nat.beq];done)|(simp[get,Nat.beq];omega)|(dsimp only[get];congr 1<;>first|rfl|omega|(simp;done)|(simp;omega))) ?_))) ⟨[],by simp[numsT]⟩ (fun k=>⟨by rw[bst_len];omega,by simp[okFrame,bnd,bst_len,Nat.blt,Nat.succ_le_iff,hcl],by rw[bst_len];exact bst_ok hμ hb hr⟩) fun k hk _=>?_
 by_cases hlt:k<ns.length
 ·have hnk:=hns _ (getD_mem (d:=0) hlt);have e:(ns.map (PV.int .i64))[k]?=some (.int .i64 (ns.getD k 0)):=by rw[List.getElem?_map,List.getD,List.getElem?_eq_getElem hlt];rfl
  have e2:=take_succ_getD ns k 0 hlt;have e0:ns[k]=ns.getD k 0:=by rw[List.getD,List.getElem?_eq_getElem hlt];rfl
  have hli:=itoa_len (ns.getD k 0) hnk.1 hnk.2;have hi:=itoa_ok (ns.getD k 0) (by omega) (by omega);have hnum:=hnl k hk;generalize ns.getD k 0=n at *;have h2:=write_bst (g:=g) (j:=j+k) (old:=old++numsT (ns.take k)) hμ hb hr hne (32::Lib.itoa n) (by simp only[List.length_append,List.length_cons];omega);iterate 7 first
   |refine⟨fun _=>?_,fun h=>by simp at h<;>omega⟩
   |refine⟨by simp[vb,e,e0,hlt]<;>omega,by simp[vb,e,e0,hlt]<;>omega,?_⟩
   |(refine evH [(15,{val:=some (.pv (.int .i64 n))})] ?_;iterate 2 (try simp only[hcell,bcell,mem2_get,mem2_last,mem2_set0,mem2_set1,mem_last,mem_set,mem_len,go_sem]))
  refine aw_regT (T:=[(84,fun _=>some (.str (Lib.itoa n)))]) (H:=[(20,{val:=some (.pv (.tup [.int .i64 (32::Lib.itoa n).length,.val .nilIface])),mem:=some (bst μ b g r (old++numsT (ns.take k)++32::Lib.itoa n) (j+k+1))})]) (by rfl) ?_;simp only[evOpsTail,go_sem,hcell,bcell];refine⟨by simp[VCs,maxI];omega,⟨h2,hi,trivial⟩,?_⟩;refine evA ?_;simp only[hcell,bcell,mem2_get,mem2_last,mem2_set0,mem2_set1,mem_last,mem_set,mem_len,go_sem];try simp only[hcell,bcell,mem2_get,mem2_last,mem2_set0,mem2_set1,mem_last,mem_set,mem_len,go_sem]
  refine⟨(by simp[vb]<;>omega),(by simp[vb]<;>omega),?_⟩;exact⟨hlt,trivial,by (repeat' (first|exact trivial|refine And.intro (by first|rfl|(simp[get,Nat.beq];done)|(simp[get,Nat.beq];omega)|(dsimp only[get];congr 1<;>first|rfl|omega|(simp;done)|(simp;omega))) ?_)),[],by rw[e2,numsT_snoc,List.append_nil,List.append_assoc,Nat.add_assoc j k 1]⟩
 ·obtain rfl:k=ns.length:=by omega
  rw[List.take_length];have h3:=write_bst (g:=g) (j:=j+ns.length) (old:=old++numsT ns) hμ hb hr hne [10] (by have:=hnl _ (Nat.le_refl _);rw[List.take_length]at this;simp only[List.length_append,List.length_cons,List.length_nil];omega);iterate 5 first
   |refine⟨fun h=>by simp at h<;>omega,fun _=>?_⟩
   |refine⟨by simp[vb]<;>omega,by simp[vb]<;>omega,?_⟩
   |(refine evA ?_;iterate 2 (try simp only[hcell,bcell,mem2_get,mem2_last,mem2_set0,mem2_set1,mem_last,mem_set,mem_len,go_sem]))
  refine evH [(23,{val:=some (.pv (.tup [.int .i64 1,.val .nilIface])),mem:=some (bst μ b g r (old++numsT ns++[10]) (j+ns.length+1))})] ?_;simp only[hcell,bcell,mem2_get,mem2_last,mem2_set0,mem2_set1,mem_last,mem_set,mem_len,go_sem];try simp only[hcell,bcell,mem2_get,mem2_last,mem2_set0,mem2_set1,mem_last,mem_set,mem_len,go_sem]
  refine⟨(by simp[vb]<;>omega),?_,?_⟩
  ·exact⟨h3,trivial⟩
  exact⟨⟨trivial,trivial⟩,[],by simp[Nat.add_assoc]⟩
set_option maxHeartbeats 4000000 in
theorem lineM {μ:AM} (hμ:okMem μ μ.length=true) {b g r j c:Nat} {old:List UInt8} (hb:b<μ.length) (hr:r<μ.length) (hne:r≠b) (hcb:c≠b) (hcr:c≠r) (hc:μ[c]?=some (bcell b g)) (w:List UInt8) (ns:List Int) (hn:ns.length≤1000) (hns:∀n∈ns,-10000000000≤n∧n≤10000000000) (hw:w.length≤100) (ho:old.length≤10000000000) :
  RefOK ctx 82 [.pv (.str w),.pv (.sl ns.length (ns.map (.int .i64))),.ptr c 0 0] (bst μ b g r old j) (.pv (.tup [])) (bst μ b g r (old++lineT w ns) (j+(ns.length+2))):=by
 have hcell:∀o i,(bst μ b g r o i)[c]?=some (bcell b g):=fun o i=>(bst_o hcb hcr).trans hc
 refine ref_body' (C:=ctx) (Fn.of fn82 rfl) rfl (by rw[bst_len,bst_len];omega) rfl (by rw[bst_len];exact bst_ok hμ hb hr) ?_;rw[bst_len];unfold c82;have h1:=write_bst (g:=g) (j:=j) (old:=old) hμ hb hr hne w (by omega);refine evH [(9,{val:=some (.pv (.tup [.int .i64 w.length,.val .nilIface])),mem:=some (bst μ b g r (old++w) (j+1))})] ?_;simp only[hcell,bcell,mem2_get,mem2_last,mem2_set0,mem2_set1,mem_last,mem_set,mem_len,go_sem];try simp only[hcell,bcell,mem2_get,mem2_last,mem2_set0,mem2_set1,mem_last,mem_set,mem_len,go_sem]
 refine⟨(by simp[vb]<;>omega),?_,?_⟩
 ·exact⟨h1,trivial⟩
 have:=line_rest hμ (m:=μ.length) (b:=b) (g:=g) (r:=r) (j:=j+1) (c:=c) (old:=old++w) (Nat.le_refl _) hb hr hne hcb hcr hc ns hn hns (by rw[List.length_append];omega) (f:=[(9,.pv (.tup [.int .i64 w.length,.val .nilIface])),(8,.pv (.str w)),(7,.ptr b g 0),(0,.pv (.str w)),(1,.pv (.sl ns.length (ns.map (.int .i64)))),(2,.ptr c 0 0)]) (by (repeat' (first|exact trivial|refine And.intro (by first|rfl|(simp[get,Nat.beq];done)|(simp[get,Nat.beq];omega)|(dsimp only[get];congr 1<;>first|rfl|omega|(simp;done)|(simp;omega))) ?_)))
 rw[List.append_assoc old w,List.append_assoc old,show j+1+(ns.length+1)=j+(ns.length+2) by omega]at this;exact this
set_option maxHeartbeats 4000000 in
theorem lineF {μ:AM} (hμ:okMem μ μ.length=true) {b g c:Nat} (hk:μ[b]?=some (bldB (.pv (.val (.pointer none))) (.pv .nilsl) g)) (hcb:c≠b) (hc:μ[c]?=some (bcell b g)) (w:List UInt8) (ns:List Int) (hn:ns.length≤1000) (hns:∀n∈ns,-10000000000≤n∧n≤10000000000) (hw0:1≤w.length) (hw:w.length≤100) :
  RefOK ctx 82 [.pv (.str w),.pv (.sl ns.length (ns.map (.int .i64))),.ptr c 0 0] μ (.pv (.tup [])) (bst (μ++[rowB [] 0]) b g μ.length (lineT w ns) (ns.length+1)):=by
 have hb:b<μ.length:=(List.getElem?_eq_some_iff.mp hk).1;have hcl:c<μ.length:=(List.getElem?_eq_some_iff.mp hc).1;have hl:(μ++[rowB [] 0]).length=μ.length+1:=by simp
 have hok:okMem (μ++[rowB [] 0]) (μ++[rowB [] 0]).length=true:=by rw[hl];exact okMem_add (okMem_more hμ (by omega)) rfl
 have hc1:(μ++[rowB [] 0])[c]?=some (bcell b g):=by rw[List.getElem?_append_left hcl];exact hc
 have h1:=write_first hμ hk w hw0 (by omega);have e:μ.set b (bldB (.ptr b g 0) (.ref μ.length 0 0 w.length) g)++[rowB w 0]=bst (μ++[rowB [] 0]) b g μ.length w 0:=by
  unfold bst;rw[mem_set,List.set_append_left _ _ hb]
 rw[e]at h1;refine ref_body' (C:=ctx) (Fn.of fn82 rfl) rfl (by rw[bst_len,hl];omega) rfl (by rw[bst_len];exact bst_ok hok (by omega) (by omega)) ?_;unfold c82;refine evH [(9,{val:=some (.pv (.tup [.int .i64 w.length,.val .nilIface])),mem:=some (bst (μ++[rowB [] 0]) b g μ.length w 0)})] ?_;simp only[hc,bcell,mem2_get,mem2_last,mem2_set0,mem2_set1,mem_last,mem_set,mem_len,go_sem];try simp only[hc,bcell,mem2_get,mem2_last,mem2_set0,mem2_set1,mem_last,mem_set,mem_len,go_sem]
 refine⟨(by simp[vb]<;>omega),?_,?_⟩
 ·exact⟨h1,trivial⟩
 have:=line_rest hok (m:=μ.length) (b:=b) (g:=g) (r:=μ.length) (j:=0) (c:=c) (old:=w) (by omega) (by omega) (by omega) (by omega) hcb (by omega) hc1 ns hn hns (by omega) (f:=[(9,.pv (.tup [.int .i64 w.length,.val .nilIface])),(8,.pv (.str w)),(7,.ptr b g 0),(0,.pv (.str w)),(1,.pv (.sl ns.length (ns.map (.int .i64)))),(2,.ptr c 0 0)]) (by (repeat' (first|exact trivial|refine And.intro (by first|rfl|(simp[get,Nat.beq];done)|(simp[get,Nat.beq];omega)|(dsimp only[get];congr 1<;>first|rfl|omega|(simp;done)|(simp;omega))) ?_)));rw[Nat.zero_add]at this;exact this
theorem RefOK.weak {C:Ctx} {g:FuncId} {al al':List AV} {μ μ':AM} {r:AV} (h:RefOK C g al μ r μ') (hw:PW CW al' al):RefOK C g al' μ r μ' :=
 ⟨h.1,fun w0 S γ w vs hW hp=>h.2 w0 S γ w vs hW ⟨hw.len.symm.trans hp.len,fun i a v ha hv=>by
  have hi:i<al'.length:=by rw[hw.len];exact(List.getElem?_eq_some_iff.mp ha).1
  exact hw.at_ i _ a (List.getElem?_eq_getElem hi) ha w S γ v (hp.at_ i _ v (List.getElem?_eq_getElem hi) hv)⟩⟩
end Pur
end
section
namespace Rf
def tailW (k:Int):Nat:=if k=1 then 4 else if k=2 then 3 else 2
def writesN:Tree→Nat
 | .node k s c a l=>4*s.length+tailW k+(l.attach.map fun x=>writesN x.1).sum
decreasing_by
 have:=List.sizeOf_lt_of_mem x.2;simp;omega
theorem writesN_node (k:Int) (s:List RStep) (c a:Int) (l:List Tree):writesN (.node k s c a l)=4*s.length+tailW k+(l.map writesN).sum:=by
 rw[writesN,attach_map]
def kidsT (l:List Tree):List UInt8:=(l.map textN).flatten
theorem kidsT_snoc (l:List Tree) (t:Tree):kidsT (l++[t])=kidsT l++textN t:=by simp[kidsT]
def kidsW (l:List Tree):Nat:=(l.map writesN).sum
theorem kidsW_snoc (l:List Tree) (t:Tree):kidsW (l++[t])=kidsW l+writesN t:=by simp[kidsW]
def stepsT (s:List RStep):List UInt8:=(s.map rstT).flatten
theorem stepsT_snoc (s:List RStep) (x:RStep):stepsT (s++[x])=stepsT s++rstT x:=by simp[stepsT]
theorem rstT_line (x:RStep):rstT x=if x.kind=1 then lineT [103,114,97,112,104] [x.index,x.cell] else lineT [114,111,119] [x.index,x.cell]:=by
 unfold rstT lineT;split<;>simp
theorem tailT_line (k c a:Int) (n:Nat):tailT k c a n=if k=1 then lineT [115,112,108,105,116] [c,a] else if k=2 then lineT [99,97,115,101,115] [(n:Int)] else lineT [99,108,111,115,101,100] []:=by
 unfold tailT lineT;split
 ·simp
 ·split<;>simp
end Rf
namespace Pur
open Go.RowKit
attribute [local go_sem] evOps evOp evOpV evRun evK argF List.map hintAt stripped get put tmpsOf tmpOf tmpO tmpL tmpP conds ev cond_true cond_false Nat.beq Nat.ble Nat.add quiet After thenR blockR IfD List.append_eq List.nil_append List.cons_append evInt exactI_a exactI_b exactI_c exactI_d exactI_e exactI_f evBin evStr evBool evUn guardC calm quiet.isCallK evPick List.getElem?_cons_zero List.getElem?_cons_succ fromCells fromPVs cellsOf List.all oneCell List.length_cons List.length_nil mkAgg plains List.drop List.take List.getD Option.getD_some bo1 bo2 ba1 ba2 bn1 bn2 kk_i64 kk_u8 kk_i32 kk_u64 setAt List.set Nat.reduceAdd Nat.reduceMul evCall safeCall refsOf refsIn scalarA scalar scalarL thawL mapAll thawArg thawRef after freeze RetD RetE evResult evRess evRes1 thaw_pv mkTup nilOf_a nilOf_b nilOf_bb nilOf_c nilOf_d nilOf_e nilOf_f nilOf_g nilOf_h nilOf_i nilOf_j nilOf_k nilOf_l nilOf_m eqLeaf_a eqLeaf_b eqLeaf_c eqOffs evMM bytesOf evOpsF AfterF footOf footRefs notIn indepF footAt freeOk still evParts fillA zeros intOfA boundA srcOf List.isEmpty appNil_0 appNil_1 appNil_2 Int.reduceToNat Nat.mul_one Nat.reduceSub evC evOpsT evOpsTF autoH tabHint look hintD strip guarded RetPD RetRD mpLen keysOk leafKA leafK bitI nilOf_n nilOf_o Bool.or_false Bool.or_true Bool.and_true Bool.and_false Nat.blt renF renM renB renV idxOf solF solM solA solV thawRef ev1
open Rf
theorem bst_app {μ:AM} {b g r j:Nat} {o:List UInt8} (hb:b<μ.length) (hr:r<μ.length) (tl:AM):bst μ b g r o j++tl=bst (μ++tl) b g r o j:=by
 unfold bst;rw[List.set_append_left _ _ hr,List.set_append_left _ _ (by simpa using hb)]
def c50:ACode:=(⟨_,by conv=>(lhs;reduce;try simp only[lt1,Int.cast_ofNat_Int,Int.reduceNegSucc,UInt8.reduceOfNat])⟩:{x // codeOf Tryz.prog 50 (fun _=>false)=some x}).1
theorem fn50:fnOf Tryz.prog 50 (fun _=>false)=some (c50,[],67,true):=by kernel_rfl
def c50s:ACode:=(⟨_,by conv=>(lhs;reduce;try simp only[lt1,Int.cast_ofNat_Int,Int.reduceNegSucc,UInt8.reduceOfNat])⟩:{x // (codeOf Tryz.prog 50 (fun _=>false)).map (fun y=>y.sub [1,1,0,1,0,0])=some x}).1
def c50t:ACode:=(⟨_,by conv=>(lhs;reduce;try simp only[lt1,Int.cast_ofNat_Int,Int.reduceNegSucc,UInt8.reduceOfNat])⟩:{x // (codeOf Tryz.prog 50 (fun _=>false)).map (fun y=>y.sub [1,1,1])=some x}).1
def c50k:ACode:=(⟨_,by conv=>(lhs;reduce;try simp only[lt1,Int.cast_ofNat_Int,Int.reduceNegSucc,UInt8.reduceOfNat])⟩:{x // (codeOf Tryz.prog 50 (fun _=>false)).map (fun y=>y.sub [1,1,1,1])=some x}).1
structure WrSt (μ:AM) (b g r:Nat) (t:Tree):Prop where
 ok:okMem μ μ.length=true
 hb:b<μ.length
 hr:r<μ.length
 ne:r≠b
 hf:formedB t=true
 hw:wt t≤1000000
def wrM (μ:AM) (b g:Nat) (t:Tree):AM:=μ++[bcell b g,treeB t]
section
variable {μ:AM} {b g r:Nat} {t:Tree}
theorem wrM_len:(wrM μ b g t).length=μ.length+2:=by simp[wrM]
theorem wrM_c (h:WrSt μ b g r t) (o:List UInt8) (i:Nat):(bst (wrM μ b g t) b g r o i)[μ.length]?=some (bcell b g):=by
 rw[bst_o (by have:=h.hb;omega) (by have:=h.hr;omega),wrM,List.getElem?_append_right (Nat.le_refl _),Nat.sub_self];rfl
theorem wrM_t (h:WrSt μ b g r t) (o:List UInt8) (i:Nat):(bst (wrM μ b g t) b g r o i)[μ.length+1]?=some (treeB t):=by
 rw[bst_o (by have:=h.hb;omega) (by have:=h.hr;omega),wrM,List.getElem?_append_right (by omega),show μ.length+1-μ.length=1 by omega];rfl
theorem wrM_ok (h:WrSt μ b g r t):okMem (wrM μ b g t) (wrM μ b g t).length=true:=by
 rw[wrM_len];have h1:=okMem_more h.ok (m':=μ.length+2) (by omega);have h2:=okMem_add (k:=bcell b g) h1 (by have:=h.hb;simp only[bcell,List.all_cons,List.all_nil,Bool.and_true,bnd];exact Nat.blt_eq.mpr (by omega));have h3:=okMem_add (k:=treeB t) h2 rfl;simpa [wrM]using h3
theorem bst_get_lt {x:Blk} {o:List UInt8} {i q:Nat} (hq:q<(wrM μ b g t).length):(bst (wrM μ b g t) b g r o i++[x])[q]?=(bst (wrM μ b g t) b g r o i)[q]?:=List.getElem?_append_left (by rw[bst_len];exact hq)
end
def stB (x:RStep):Blk:=⟨[.pv (.int .i64 x.kind),.pv (.int .i64 x.index),.pv (.int .i64 x.cell)],0,3,66,false⟩
def wrF (n:Nat) (s:List RStep) (k:Nat):AF:=[(2,.ptr n 0 0),(3,.ptr (n+1) 0 0),(4,.fn 82 [.ptr n 0 0]),(11,.pv (.sl s.length (s.flatMap rstepC))),(12,.pv (.int .i64 s.length)),(13,.pv (.int .i64 k))]
theorem line_wr {μ:AM} {b g r:Nat} {t:Tree} (h:WrSt μ b g r t) (tl:AM) (htl:okMem (wrM μ b g t++tl) (wrM μ b g t++tl).length=true) (w:List UInt8) (ns:List Int) (o:List UInt8) (j:Nat) (hn:ns.length≤1000) (hns:∀n∈ns,-10000000000≤n∧n≤10000000000) (hw:w.length≤100) (ho:o.length≤10000000000) :
  RefOK ctx 82 [.pv (.str w),.pv (.sl ns.length (ns.map (.int .i64))),.ptr μ.length 0 0] (bst (wrM μ b g t) b g r o j++tl) (.pv (.tup [])) (bst (wrM μ b g t) b g r (o++lineT w ns) (j+(ns.length+2))++tl):=by
 have hl:=wrM_len (μ:=μ) (b:=b) (g:=g) (t:=t);have hb:=h.hb;have hr:=h.hr;have e:∀o j,bst (wrM μ b g t) b g r o j++tl=bst (wrM μ b g t++tl) b g r o j:=fun o j=>bst_app (by omega) (by omega) tl
 rw[e,e];refine lineM htl (by rw[List.length_append];omega) (by rw[List.length_append];omega) h.ne (by omega) (by omega) ?_ w ns hn hns hw ho;rw[List.getElem?_append_left (by omega)];simp[wrM]
set_option maxHeartbeats 4000000 in
theorem write_step {μ:AM} {b g r:Nat} {kd c a:Int} {s:List RStep} {ks:List Tree} (h:WrSt μ b g r (.node kd s c a ks)) {m:Nat} {R:Exit→AF→AM→Prop} {o:List UInt8} {j k:Nat} (hlt:k<s.length) (ho:o.length≤1000000000) :
  Aw ctx (fun _=>false) 67 m c50s (thenR (fun f' μ'=>Sub (wrF μ.length s (k+1)) f'∧∃junk,μ'=bst (wrM μ b g (.node kd s c a ks)) b g r (o++rstT (s.getD k zs)) (j+4)++junk) R) (wrF μ.length s k) (bst (wrM μ b g (.node kd s c a ks)) b g r o j):=by
 have hf:=h.hf;rw[formedB_node]at hf;simp only[Bool.and_eq_true]at hf;have hxo:rstepOk (s.getD k zs)=true:=List.all_eq_true.mp hf.1.1 _ (getD_mem hlt);have hw:=h.hw;rw[wt_node]at hw;have e:=fm_take rstepC_len s k zs hlt;have hle:=rsteps_len s;generalize s.getD k zs=x at *;obtain⟨b1,b2⟩:=rstep_bounds hxo;have hkind:x.kind=0∨x.kind=1:=by
  simp[rstepOk,insideB]at hxo;omega
 have hok3:okMem (wrM μ b g (.node kd s c a ks)++[stB x]) (wrM μ b g (.node kd s c a ks)++[stB x]).length=true:=by
  rw[List.length_append,List.length_singleton];exact okMem_add (okMem_more (wrM_ok h) (by omega)) rfl
 have hc:=wrM_c h;have hlen:∀o i,(bst (wrM μ b g (.node kd s c a ks)) b g r o i).length=μ.length+2:=fun o i=>by rw[bst_len,wrM_len]
 unfold c50s wrF;obtain⟨xk,xi,xc⟩:=x;simp only at b1 b2 hkind;have hb2:∀n∈[xi,xc],-10000000000≤n∧n≤10000000000:=by
  intro n hn;simp only[List.mem_cons,List.not_mem_nil,or_false]at hn;rcases hn with rfl|rfl<;>omega
 have h6:=line_wr h [stB ⟨xk,xi,xc⟩] hok3 [114,111,119] [xi,xc] o j (by simp) hb2 (by decide) (by omega);have h7:=line_wr h [stB ⟨xk,xi,xc⟩] hok3 [103,114,97,112,104] [xi,xc] o j (by simp) hb2 (by decide) (by omega);rw[rstT_line];simp only;rcases hkind with rfl|rfl
 ·iterate 9 first
   |refine⟨fun _=>?_,fun h=>by simp at h<;>omega⟩
   |refine⟨by simp[vb,e,hle,hlt,rstepC]<;>omega,by simp[vb,e,hle,hlt,rstepC]<;>omega,?_⟩
   |(refine evH [(16,{val:=some (.pv (.agg (rstepC ⟨0,xi,xc⟩)))})] ?_;iterate 2 (try simp only[bcell,rstepC,mem2_get,mem2_last,mem2_set0,mem2_set1,mem_last,mem_set,mem_len,go_sem]))
  refine evH [(26,{val:=some (.pv (.tup [])),mem:=some (bst (wrM μ b g (.node kd s c a ks)) b g r (o++lineT [114,111,119] [xi,xc]) (j+4)++[stB ⟨0,xi,xc⟩])})] ?_;simp only[bcell,rstepC,mem2_get,mem2_last,mem2_set0,mem2_set1,mem_last,mem_set,mem_len,go_sem];refine⟨fun _=>?_,fun h=>by simp at h<;>omega⟩;refine evH [(26,{val:=some (.pv (.tup [])),mem:=some (bst (wrM μ b g (.node kd s c a ks)) b g r (o++lineT [114,111,119] [xi,xc]) (j+4)++[stB ⟨0,xi,xc⟩])})] ?_;simp only[bcell,rstepC,mem2_get,mem2_last,mem2_set0,mem2_set1,mem_last,mem_set,mem_len,go_sem]
  try simp only[bcell,rstepC,mem2_get,mem2_last,mem2_set0,mem2_set1,mem_last,mem_set,mem_len,go_sem]
  refine⟨(by simp[vb,e,hle,hlt]<;>omega),?_,?_⟩
  ·exact⟨h6,trivial⟩
  refine evA ?_;simp only[bcell,rstepC,mem2_get,mem2_last,mem2_set0,mem2_set1,mem_last,mem_set,mem_len,go_sem];try simp only[bcell,rstepC,mem2_get,mem2_last,mem2_set0,mem2_set1,mem_last,mem_set,mem_len,go_sem]
  refine⟨(by simp[vb,e,hle,hlt]<;>omega),(by simp[vb,e,hle,hlt]<;>omega),?_⟩;exact⟨by (repeat' (first|exact trivial|refine And.intro (by first|rfl|(simp[get,Nat.beq];done)|(simp[get,Nat.beq];omega)|(dsimp only[get];congr 1<;>first|rfl|omega|(simp;done)|(simp;omega))) ?_)),_,rfl⟩
 ·iterate 9 first
   |refine⟨fun _=>?_,fun h=>by simp at h<;>omega⟩
   |refine⟨by simp[vb,e,hle,hlt,rstepC]<;>omega,by simp[vb,e,hle,hlt,rstepC]<;>omega,?_⟩
   |(refine evH [(16,{val:=some (.pv (.agg (rstepC ⟨1,xi,xc⟩)))})] ?_;iterate 2 (try simp only[bcell,rstepC,mem2_get,mem2_last,mem2_set0,mem2_set1,mem_last,mem_set,mem_len,go_sem]))
  refine evH [(33,{val:=some (.pv (.tup [])),mem:=some (bst (wrM μ b g (.node kd s c a ks)) b g r (o++lineT [103,114,97,112,104] [xi,xc]) (j+4)++[stB ⟨1,xi,xc⟩])})] ?_;simp only[bcell,rstepC,mem2_get,mem2_last,mem2_set0,mem2_set1,mem_last,mem_set,mem_len,go_sem];refine⟨fun h=>by simp at h<;>omega,fun _=>?_⟩;refine evH [(33,{val:=some (.pv (.tup [])),mem:=some (bst (wrM μ b g (.node kd s c a ks)) b g r (o++lineT [103,114,97,112,104] [xi,xc]) (j+4)++[stB ⟨1,xi,xc⟩])})] ?_;simp only[bcell,rstepC,mem2_get,mem2_last,mem2_set0,mem2_set1,mem_last,mem_set,mem_len,go_sem]
  try simp only[bcell,rstepC,mem2_get,mem2_last,mem2_set0,mem2_set1,mem_last,mem_set,mem_len,go_sem]
  refine⟨(by simp[vb,e,hle,hlt]<;>omega),?_,?_⟩
  ·exact⟨h7,trivial⟩
  refine evA ?_;simp only[bcell,rstepC,mem2_get,mem2_last,mem2_set0,mem2_set1,mem_last,mem_set,mem_len,go_sem];try simp only[bcell,rstepC,mem2_get,mem2_last,mem2_set0,mem2_set1,mem_last,mem_set,mem_len,go_sem]
  refine⟨(by simp[vb,e,hle,hlt]<;>omega),(by simp[vb,e,hle,hlt]<;>omega),?_⟩;exact⟨by (repeat' (first|exact trivial|refine And.intro (by first|rfl|(simp[get,Nat.beq];done)|(simp[get,Nat.beq];omega)|(dsimp only[get];congr 1<;>first|rfl|omega|(simp;done)|(simp;omega))) ?_)),_,rfl⟩
theorem okMem_tr {μ:AM} (h:okMem μ μ.length=true) (t:Tree):okMem (μ++[treeB t]) (μ++[treeB t]).length=true:=by
 rw[List.length_append,List.length_singleton];exact okMem_add (okMem_more h (by omega)) rfl
def WriteOK (x:Tree):Prop:=∀(μ:AM) (b g r:Nat) (o:List UInt8) (j:Nat),WrSt μ b g r x→o.length+60*wt x≤1000000000 →
 RefOK ctx 50 [.ptr b g 0,.pv (treeP x)] (bst μ b g r o j) (.pv (.tup [])) (bst μ b g r (o++textN x) (j+writesN x))
theorem wrM_app {μ:AM} {b g r:Nat} {t:Tree} (h:WrSt μ b g r t) (o:List UInt8) (j:Nat):bst (wrM μ b g t) b g r o j=bst μ b g r o j++[bcell b g,treeB t]:=(bst_app h.hb h.hr _).symm
set_option maxHeartbeats 4000000 in
theorem write_kids {μ:AM} {b g r:Nat} {kd c a:Int} {s:List RStep} {ks:List Tree} (h:WrSt μ b g r (.node kd s c a ks)) {m:Nat} (hm:m≤μ.length) (ih:∀x∈ks,WriteOK x) {o:List UInt8} {j:Nat} (ho:o.length+60*wts ks≤1000000000) {f:AF} (hf:Sub [(2,.ptr μ.length 0 0),(3,.ptr (μ.length+1) 0 0)] f) :
  Aw ctx (fun _=>false) 67 m c50k (RetRD [] (.pv (.tup [])) (bst μ b g r (o++kidsT ks) (j+kidsW ks))) f (bst (wrM μ b g (.node kd s c a ks)) b g r o j):=by
 have hft:=h.hf;rw[formedB_node]at hft;simp only[Bool.and_eq_true]at hft;have hw:=h.hw;rw[wt_node]at hw;have hwl:=wts_len ks;have hb:=h.hb;have hr:=h.hr;have hc:=wrM_c h;have ht:=wrM_t h;have hL:=wrM_len (μ:=μ) (b:=b) (g:=g) (t:=.node kd s c a ks);have htx:∀l:List Tree,(∀x∈l,x∈ks)→(kidsT l).length≤60*wts l:=fun l hl=>kidsT_len l fun x hx=>textN_len x (List.all_eq_true.mp hft.2 _ (hl x hx)) (by have:=wt_mem (hl x hx);omega)
 refine aw_frame _ hf ?_;unfold c50k;refine evA ?_;simp only[ht,treeB,Tree.kind,Tree.steps,Tree.cell,Tree.pos,Tree.kids,kidsP,mem2_get,mem2_last,mem2_set0,mem2_set1,mem_last,mem_set,mem_len,go_sem];try simp only[ht,treeB,Tree.kind,Tree.steps,Tree.cell,Tree.pos,Tree.kids,kidsP,mem2_get,mem2_last,mem2_set0,mem2_set1,mem_last,mem_set,mem_len,go_sem]
 refine⟨(by simp[vb]<;>omega),(by simp[vb]<;>omega),?_⟩;refine aw_block ?_
 refine aw_forJ ks.length (fun _=>True) (fun k=>[(2,.ptr μ.length 0 0),(57,.pv (.sl ks.length (ks.flatMap treeC))),(58,.pv (.int .i64 ks.length)),(59,.pv (.int .i64 k))]) (fun k=>bst (wrM μ b g (.node kd s c a ks)) b g r (o++kidsT (ks.take k)) (j+kidsW (ks.take k))) trivial (by (repeat' (first|exact trivial|refine And.intro (by first|rfl|(simp[get,Nat.beq];done)|(simp[get,Nat.beq];omega)|(dsimp only[get];congr 1<;>first|rfl|omega|(simp;done)|(simp;omega))) ?_))) ⟨[],by simp[kidsT,kidsW]⟩ (fun k=>⟨by rw[bst_len,hL];omega,by simp only[okFrame,List.all_cons,List.all_nil,bnd,bst_len,hL,Bool.and_true];exact Nat.blt_eq.mpr (by omega),by rw[bst_len];exact bst_ok (wrM_ok h) (by omega) (by omega)⟩) fun k hk _=>?_
 by_cases hlt:k<ks.length
 ·have e:=kid_take ks k hlt;have hle:=kids_len ks;have hmem:=getD_mem (d:=zt) hlt;have hx:=ih _ hmem;have hfx:=List.all_eq_true.mp hft.2 _ hmem;have hwx:=wt_mem hmem;have e2:=take_succ_getD ks k zt hlt;have htk:=htx (ks.take k) fun x hx=>List.mem_of_mem_take hx
  have hws:wts (ks.take k)+wt (ks.getD k zt)≤wts ks:=by
   have h1:=wts_take ks (k+1);rw[e2,wts_append]at h1;simpa [wts]using h1
  generalize ks.getD k zt=x at *;have hok3:=okMem_tr (wrM_ok h) x;have hcall:=hx (wrM μ b g (.node kd s c a ks)++[treeB x]) b g r (o++kidsT (ks.take k)) (j+kidsW (ks.take k)) ⟨hok3,by rw[List.length_append];omega,by rw[List.length_append];omega,h.ne,hfx,by omega⟩ (by rw[List.length_append];omega);rw[←bst_app (by omega) (by omega),←bst_app (by omega) (by omega)]at hcall;obtain⟨xk,xs,xc,xa,xl⟩:=x;simp only[Tree.kind,Tree.steps,Tree.cell,Tree.pos,Tree.kids]at e;iterate 7 first
   |refine⟨fun _=>?_,fun h=>by simp at h<;>omega⟩
   |refine⟨by simp[vb,e,hle,hlt,rstepsP,kidsP]<;>omega,by simp[vb,e,hle,hlt,rstepsP,kidsP]<;>omega,?_⟩
   |(refine evH [(62,{val:=some (.pv (.agg [.int .i64 xk,rstepsP xs,.int .i64 xc,.int .i64 xa,kidsP xl]))})] ?_;iterate 2 (try simp only[ht,treeB,rstepsP,kidsP,mem2_get,mem2_last,mem2_set0,mem2_set1,mem_last,mem_set,mem_len,go_sem]))
  have hc2:∀(o:List UInt8) (i:Nat) (y:Blk),(bst (wrM μ b g (.node kd s c a ks)) b g r o i++[y])[μ.length]?=some (bcell b g):=fun o i y=>(bst_get_lt (by omega)).trans (hc o i)
  refine evH [(65,{val:=some (.pv (.tup [])),mem:=some (bst (wrM μ b g (.node kd s c a ks)) b g r (o++kidsT (ks.take k)++textN (.node xk xs xc xa xl)) (j+kidsW (ks.take k)+writesN (.node xk xs xc xa xl))++[treeB (.node xk xs xc xa xl)])})] ?_;simp only[hc2,bcell,mem2_get,mem2_last,mem2_set0,mem2_set1,mem_last,mem_set,mem_len,go_sem];try simp only[hc2,bcell,mem2_get,mem2_last,mem2_set0,mem2_set1,mem_last,mem_set,mem_len,go_sem]
  refine⟨(by simp[vb]<;>omega),?_,?_⟩
  ·exact⟨hcall,trivial⟩
  refine evA ?_;simp only[ht,mem2_get,mem2_last,mem2_set0,mem2_set1,mem_last,mem_set,mem_len,go_sem];try simp only[ht,mem2_get,mem2_last,mem2_set0,mem2_set1,mem_last,mem_set,mem_len,go_sem]
  refine⟨(by simp[vb,hlt]<;>omega),(by simp[vb,hlt]<;>omega),?_⟩;exact⟨hlt,trivial,by (repeat' (first|exact trivial|refine And.intro (by first|rfl|(simp[get,Nat.beq];done)|(simp[get,Nat.beq];omega)|(dsimp only[get];congr 1<;>first|rfl|omega|(simp;done)|(simp;omega))) ?_)),_,by rw[e2,kidsT_snoc,kidsW_snoc,List.append_assoc o,Nat.add_assoc j]⟩
 ·obtain rfl:k=ks.length:=by omega
  rw[List.take_length];iterate 5 first
   |refine⟨fun h=>by simp at h<;>omega,fun _=>?_⟩
   |refine⟨by simp[vb,hlt]<;>omega,by simp[vb,hlt]<;>omega,?_⟩
   |(refine evA ?_;iterate 2 (try simp only[ht,mem2_get,mem2_last,mem2_set0,mem2_set1,mem_last,mem_set,mem_len,go_sem]))
  exact⟨⟨trivial,trivial⟩,_,wrM_app h _ _⟩
theorem tail_kinds {k c a:Int} {n:Nat} (h:Rf.tailOk k c a n=true):(k=0∧n=0)∨k=1∨(k=2∧n≤1024):=by
 unfold Rf.tailOk at h;split at h
 ·simp at h;omega
 ·split at h
  ·omega
  ·split at h
   ·simp at h;omega
   ·cases h
set_option maxHeartbeats 4000000 in
theorem write_tail {μ:AM} {b g r:Nat} {kd c a:Int} {s:List RStep} {ks:List Tree} (h:WrSt μ b g r (.node kd s c a ks)) {m:Nat} (hm:m≤μ.length) (ih:∀x∈ks,WriteOK x) {o:List UInt8} {j:Nat} (ho:o.length+60+60*wts ks≤1000000000) {f:AF} (hf:Sub [(2,.ptr μ.length 0 0),(3,.ptr (μ.length+1) 0 0),(4,.fn 82 [.ptr μ.length 0 0])] f) :
  Aw ctx (fun _=>false) 67 m c50t (RetRD [] (.pv (.tup [])) (bst μ b g r (o++tailT kd c a ks.length++kidsT ks) (j+tailW kd+kidsW ks))) f (bst (wrM μ b g (.node kd s c a ks)) b g r o j):=by
 have hft:=h.hf;rw[formedB_node]at hft;simp only[Bool.and_eq_true]at hft;have hw:=h.hw;rw[wt_node]at hw;have hwl:=wts_len ks;have hc:=wrM_c h;have ht:=wrM_t h;obtain⟨b1,b2⟩:=tail_bounds hft.1.2;have htl:=tailT_len hft.1.2 (by omega);have hkk:=fun f hf=>write_kids h (m:=m) hm ih (o:=o++tailT kd c a ks.length) (j:=j+tailW kd) (by rw[List.length_append];omega) (f:=f) hf
 have hln:=fun w ns hn hns hw=>line_wr h [] (by rw[List.append_nil];exact wrM_ok h) w ns o j hn hns hw (by omega)
 simp only[List.append_nil]at hln;refine aw_frame _ hf ?_;rw[tailT_line]at hkk ⊢;unfold c50t;rcases tail_kinds hft.1.2 with⟨rfl,h0⟩|rfl|⟨rfl,h2⟩
 ·have h1:=(hln [99,108,111,115,101,100] [] (by simp) (by simp) (by decide)).weak (al':=[.pv (.str [99,108,111,115,101,100]),.pv .nilsl,.ptr μ.length 0 0]) ⟨rfl,fun i x y hx hy=>by
   match i,hx,hy with
   |0,hx,hy=>injection hx with hx;injection hy with hy;subst hx hy;exact .refl _
   |1,hx,hy=>injection hx with hx;injection hy with hy;subst hx hy;exact CW.nil
   |2,hx,hy=>injection hx with hx;injection hy with hy;subst hx hy;exact .refl _
   |_+3,hx,_=>simp at hx⟩
  refine evA ?_;simp only[ht,treeB,Tree.kind,Tree.steps,Tree.cell,Tree.pos,Tree.kids,mem2_get,mem2_last,mem2_set0,mem2_set1,mem_last,mem_set,mem_len,go_sem];try simp only[ht,treeB,Tree.kind,Tree.steps,Tree.cell,Tree.pos,Tree.kids,mem2_get,mem2_last,mem2_set0,mem2_set1,mem_last,mem_set,mem_len,go_sem]
  refine⟨(by simp[vb]<;>omega),(by simp[vb]<;>omega),?_⟩;refine evA ?_;simp only[ht,treeB,Tree.kind,Tree.steps,Tree.cell,Tree.pos,Tree.kids,mem2_get,mem2_last,mem2_set0,mem2_set1,mem_last,mem_set,mem_len,go_sem];try simp only[ht,treeB,Tree.kind,Tree.steps,Tree.cell,Tree.pos,Tree.kids,mem2_get,mem2_last,mem2_set0,mem2_set1,mem_last,mem_set,mem_len,go_sem]
  refine⟨(by simp[vb]<;>omega),(by simp[vb]<;>omega),?_⟩;refine evH [(46,{val:=some (.pv (.tup [])),mem:=some (bst (wrM μ b g (.node 0 s c a ks)) b g r (o++lineT [99,108,111,115,101,100] []) (j+2))})] ?_;simp only[ht,treeB,Tree.kind,Tree.steps,Tree.cell,Tree.pos,Tree.kids,mem2_get,mem2_last,mem2_set0,mem2_set1,mem_last,mem_set,mem_len,go_sem];refine⟨fun _=>?_,fun h=>by simp at h<;>omega⟩;refine evH [(46,{val:=some (.pv (.tup [])),mem:=some (bst (wrM μ b g (.node 0 s c a ks)) b g r (o++lineT [99,108,111,115,101,100] []) (j+2))})] ?_
  simp only[ht,treeB,Tree.kind,Tree.steps,Tree.cell,Tree.pos,Tree.kids,mem2_get,mem2_last,mem2_set0,mem2_set1,mem_last,mem_set,mem_len,go_sem];try simp only[ht,treeB,Tree.kind,Tree.steps,Tree.cell,Tree.pos,Tree.kids,mem2_get,mem2_last,mem2_set0,mem2_set1,mem_last,mem_set,mem_len,go_sem]
  refine⟨(by simp[vb]<;>omega),?_,?_⟩
  ·exact⟨h1,trivial⟩
  exact hkk _ (by (repeat' (first|exact trivial|refine And.intro (by first|rfl|(simp[get,Nat.beq];done)|(simp[get,Nat.beq];omega)|(dsimp only[get];congr 1<;>first|rfl|omega|(simp;done)|(simp;omega))) ?_)))
 ·have h1:=hln [115,112,108,105,116] [c,a] (by simp) (by intro n hn;simp only[List.mem_cons,List.not_mem_nil,or_false]at hn;rcases hn with rfl|rfl<;>omega) (by decide);refine evA ?_;simp only[ht,treeB,Tree.kind,Tree.steps,Tree.cell,Tree.pos,Tree.kids,mem2_get,mem2_last,mem2_set0,mem2_set1,mem_last,mem_set,mem_len,go_sem];try simp only[ht,treeB,Tree.kind,Tree.steps,Tree.cell,Tree.pos,Tree.kids,mem2_get,mem2_last,mem2_set0,mem2_set1,mem_last,mem_set,mem_len,go_sem]
  refine⟨(by simp[vb]<;>omega),(by simp[vb]<;>omega),?_⟩;refine evA ?_;simp only[ht,treeB,Tree.kind,Tree.steps,Tree.cell,Tree.pos,Tree.kids,mem2_get,mem2_last,mem2_set0,mem2_set1,mem_last,mem_set,mem_len,go_sem];try simp only[ht,treeB,Tree.kind,Tree.steps,Tree.cell,Tree.pos,Tree.kids,mem2_get,mem2_last,mem2_set0,mem2_set1,mem_last,mem_set,mem_len,go_sem]
  refine⟨(by simp[vb]<;>omega),(by simp[vb]<;>omega),?_⟩;refine evA ?_;simp only[ht,treeB,Tree.kind,Tree.steps,Tree.cell,Tree.pos,Tree.kids,mem2_get,mem2_last,mem2_set0,mem2_set1,mem_last,mem_set,mem_len,go_sem];refine⟨fun h=>by simp at h<;>omega,fun _=>?_⟩;refine evA ?_;simp only[ht,treeB,Tree.kind,Tree.steps,Tree.cell,Tree.pos,Tree.kids,mem2_get,mem2_last,mem2_set0,mem2_set1,mem_last,mem_set,mem_len,go_sem];try simp only[ht,treeB,Tree.kind,Tree.steps,Tree.cell,Tree.pos,Tree.kids,mem2_get,mem2_last,mem2_set0,mem2_set1,mem_last,mem_set,mem_len,go_sem]
  refine⟨(by simp[vb]<;>omega),(by simp[vb]<;>omega),?_⟩;refine evH [(55,{val:=some (.pv (.tup [])),mem:=some (bst (wrM μ b g (.node 1 s c a ks)) b g r (o++lineT [115,112,108,105,116] [c,a]) (j+4))})] ?_;simp only[ht,treeB,Tree.kind,Tree.steps,Tree.cell,Tree.pos,Tree.kids,mem2_get,mem2_last,mem2_set0,mem2_set1,mem_last,mem_set,mem_len,go_sem];refine⟨fun _=>?_,fun h=>by simp at h<;>omega⟩;refine evH [(55,{val:=some (.pv (.tup [])),mem:=some (bst (wrM μ b g (.node 1 s c a ks)) b g r (o++lineT [115,112,108,105,116] [c,a]) (j+4))})] ?_
  simp only[ht,treeB,Tree.kind,Tree.steps,Tree.cell,Tree.pos,Tree.kids,mem2_get,mem2_last,mem2_set0,mem2_set1,mem_last,mem_set,mem_len,go_sem];try simp only[ht,treeB,Tree.kind,Tree.steps,Tree.cell,Tree.pos,Tree.kids,mem2_get,mem2_last,mem2_set0,mem2_set1,mem_last,mem_set,mem_len,go_sem]
  refine⟨(by simp[vb]<;>omega),?_,?_⟩
  ·exact⟨h1,trivial⟩
  exact hkk _ (by (repeat' (first|exact trivial|refine And.intro (by first|rfl|(simp[get,Nat.beq];done)|(simp[get,Nat.beq];omega)|(dsimp only[get];congr 1<;>first|rfl|omega|(simp;done)|(simp;omega))) ?_)))
 ·have h1:=hln [99,97,115,101,115] [(ks.length:Int)] (by simp) (by intro n hn;simp only[List.mem_cons,List.not_mem_nil,or_false]at hn;subst hn;omega) (by decide);refine evA ?_;simp only[ht,treeB,Tree.kind,Tree.steps,Tree.cell,Tree.pos,Tree.kids,kidsP,mem2_get,mem2_last,mem2_set0,mem2_set1,mem_last,mem_set,mem_len,go_sem];try simp only[ht,treeB,Tree.kind,Tree.steps,Tree.cell,Tree.pos,Tree.kids,kidsP,mem2_get,mem2_last,mem2_set0,mem2_set1,mem_last,mem_set,mem_len,go_sem]
  refine⟨(by simp[vb]<;>omega),(by simp[vb]<;>omega),?_⟩;refine evA ?_;simp only[ht,treeB,Tree.kind,Tree.steps,Tree.cell,Tree.pos,Tree.kids,kidsP,mem2_get,mem2_last,mem2_set0,mem2_set1,mem_last,mem_set,mem_len,go_sem];try simp only[ht,treeB,Tree.kind,Tree.steps,Tree.cell,Tree.pos,Tree.kids,kidsP,mem2_get,mem2_last,mem2_set0,mem2_set1,mem_last,mem_set,mem_len,go_sem]
  refine⟨(by simp[vb]<;>omega),(by simp[vb]<;>omega),?_⟩;refine evA ?_;simp only[ht,treeB,Tree.kind,Tree.steps,Tree.cell,Tree.pos,Tree.kids,kidsP,mem2_get,mem2_last,mem2_set0,mem2_set1,mem_last,mem_set,mem_len,go_sem];refine⟨fun h=>by simp at h<;>omega,fun _=>?_⟩;refine evA ?_;simp only[ht,treeB,Tree.kind,Tree.steps,Tree.cell,Tree.pos,Tree.kids,kidsP,mem2_get,mem2_last,mem2_set0,mem2_set1,mem_last,mem_set,mem_len,go_sem];try simp only[ht,treeB,Tree.kind,Tree.steps,Tree.cell,Tree.pos,Tree.kids,kidsP,mem2_get,mem2_last,mem2_set0,mem2_set1,mem_last,mem_set,mem_len,go_sem]
  refine⟨(by simp[vb]<;>omega),(by simp[vb]<;>omega),?_⟩;refine evH [(42,{val:=some (.pv (.tup [])),mem:=some (bst (wrM μ b g (.node 2 s c a ks)) b g r (o++lineT [99,97,115,101,115] [(ks.length:Int)]) (j+3))})] ?_;simp only[ht,treeB,Tree.kind,Tree.steps,Tree.cell,Tree.pos,Tree.kids,kidsP,mem2_get,mem2_last,mem2_set0,mem2_set1,mem_last,mem_set,mem_len,go_sem];refine⟨fun h=>by simp at h<;>omega,fun _=>?_⟩;refine evH [(42,{val:=some (.pv (.tup [])),mem:=some (bst (wrM μ b g (.node 2 s c a ks)) b g r (o++lineT [99,97,115,101,115] [(ks.length:Int)]) (j+3))})] ?_
  simp only[ht,treeB,Tree.kind,Tree.steps,Tree.cell,Tree.pos,Tree.kids,kidsP,mem2_get,mem2_last,mem2_set0,mem2_set1,mem_last,mem_set,mem_len,go_sem];try simp only[ht,treeB,Tree.kind,Tree.steps,Tree.cell,Tree.pos,Tree.kids,kidsP,mem2_get,mem2_last,mem2_set0,mem2_set1,mem_last,mem_set,mem_len,go_sem]
  refine⟨(by simp[vb]<;>omega),?_,?_⟩
  ·exact⟨h1,trivial⟩
  exact hkk _ (by (repeat' (first|exact trivial|refine And.intro (by first|rfl|(simp[get,Nat.beq];done)|(simp[get,Nat.beq];omega)|(dsimp only[get];congr 1<;>first|rfl|omega|(simp;done)|(simp;omega))) ?_)))
end Pur
end
section
namespace Pur
open Go.RowKit
attribute [local go_sem] evOps evOp evOpV evRun evK argF List.map hintAt stripped get put tmpsOf tmpOf tmpO tmpL tmpP conds ev cond_true cond_false Nat.beq Nat.ble Nat.add quiet After thenR blockR IfD List.append_eq List.nil_append List.cons_append evInt exactI_a exactI_b exactI_c exactI_d exactI_e exactI_f evBin evStr evBool evUn guardC calm quiet.isCallK evPick List.getElem?_cons_zero List.getElem?_cons_succ fromCells fromPVs cellsOf List.all oneCell List.length_cons List.length_nil mkAgg plains List.drop List.take List.getD Option.getD_some bo1 bo2 ba1 ba2 bn1 bn2 kk_i64 kk_u8 kk_i32 kk_u64 setAt List.set Nat.reduceAdd Nat.reduceMul evCall safeCall refsOf refsIn scalarA scalar scalarL thawL mapAll thawArg thawRef after freeze RetD RetE evResult evRess evRes1 thaw_pv mkTup nilOf_a nilOf_b nilOf_bb nilOf_c nilOf_d nilOf_e nilOf_f nilOf_g nilOf_h nilOf_i nilOf_j nilOf_k nilOf_l nilOf_m eqLeaf_a eqLeaf_b eqLeaf_c eqOffs evMM bytesOf evOpsF AfterF footOf footRefs notIn indepF footAt freeOk still evParts fillA zeros intOfA boundA srcOf List.isEmpty appNil_0 appNil_1 appNil_2 Int.reduceToNat Nat.mul_one Nat.reduceSub evC evOpsT evOpsTF autoH tabHint look hintD strip guarded RetPD RetRD mpLen keysOk leafKA leafK bitI nilOf_n nilOf_o Bool.or_false Bool.or_true Bool.and_true Bool.and_false Nat.blt renF renM renB renV idxOf solF solM solA solV thawRef ev1
section
open Rf
def cloneB (l:List Int):Blk:=⟨(l.flatMap intC).map .pv,1,1,3,false⟩
theorem cloneR0 (k:Nat) (cells:List PV) (hk:k≤1000000000) (hc:cells.length=(k+1)*1):RefOK ctx 167 [.pv (.sl (k+1) cells)] [] (.ref 0 1 0 (k+1)) [⟨cells.map .pv,1,1,3,false⟩]:=by
 refine ref_body' (C:=ctx) (Fn.of fn167 rfl) rfl (by simp) rfl (by simp[okMem,bnd]) ?_;unfold c167;iterate 9 first
  |refine⟨fun h=>by simp at h<;>omega,fun _=>?_⟩
  |refine⟨by simp[vb]<;>omega,by simp[vb]<;>omega,?_⟩
  |(refine evH [(7,{mode:=1})] ?_;iterate 2 (try dsimp only[go_sem]))
 refine evA ?_;dsimp only[go_sem];exact⟨⟨trivial,by simp⟩,[],rfl⟩
theorem cloneR (l:List Int) (h0:l≠[]) (hl:l.length≤1000000000) (μ:AM):RefOK ctx 167 [.pv (.sl l.length (l.flatMap intC))] μ (.ref μ.length 1 0 l.length) (μ++[cloneB l]):=by
 cases l with
 |nil=>exact absurd rfl h0
 |cons x r =>
  have h:=cloneR0 r.length ((x::r).flatMap intC) (by simp at hl;omega) (by rw[ints_len];rfl);have:=h.frame [] μ (by simp) (by simp) trivial rfl (by simp[bnd]) (by simp);have he:∀cs:List PV,(cs.map AV.pv).map (emV [] μ.length 3)=cs.map AV.pv:=fun cs=>by simp[emV,Function.comp_def]
  simpa [emV,emI,emU,emB,cloneB,he,Function.comp_def]using this
theorem edge_get (n:Nat) (es:List Bool) (a b:Nat) (hlen:es.length=n*n) (ha:a<n) (hb:b<n):(es.flatMap boolC)[a*n+b]?.getD default= .bool (edgeN n es a b):=by
 have hlt:a*n+b<es.length:=by
  rw[hlen];calc a*n+b<a*n+n:=by omega
   _=(a+1)*n:=by rw[Nat.add_mul,Nat.one_mul]
   _≤n*n:=Nat.mul_le_mul_right _ ha
 rw[fm_one (g:=boolC) (fun _=>rfl) es _ false default hlt];rfl
theorem has_ok (n:Nat) (es:List Bool) (a b:Nat) (hlen:es.length=n*n) (hn:n≤6) (ha:a<n) (hb:b<n) :
  PureOK ctx 166 [.agg [.int .i64 n,boolsQ es],.int .i64 a,.int .i64 b] (.bool (edgeN n es a b)):=by
 have e:=edge_get n es a b hlen ha hb;have f1:=bools_len es;generalize edgeN n es a b=q at *;have hlt:a*n+b<es.length:=by
  rw[hlen];calc a*n+b<a*n+n:=by omega
   _=(a+1)*n:=by rw[Nat.add_mul,Nat.one_mul]
   _≤n*n:=Nat.mul_le_mul_right _ ha
 have hm:a*n≤36:=by
  have:=Nat.mul_le_mul (show a≤6 by omega) hn;omega
 have ez:((a:Int)*(n:Int)+(b:Int))=((a*n+b:Nat):Int):=by simp
 have ez2:((a:Int)*(n:Int))=((a*n:Nat):Int):=by simp
 generalize a*n=m at *;refine pure_body' (C:=ctx) (Fn.of fn166 rfl) rfl ?_;unfold c166;repeat' (first
  |((with_reducible show VCs _);first|exact True.intro|(simp only[vb,lb];omega)|(simp only[vb,lb,e,f1,hlt,ez,ez2];and_intros<;>first|omega|(simp<;>omega))|(simp[vb,e,f1,hlt,ez,ez2]<;>omega))
  |((with_reducible show All _);first|exact True.intro|((try dsimp only[go_sem]);first|(simp[vb,e,f1,hlt,ez,ez2]<;>omega)|(simp only[vb,and_true,true_implies];(repeat' (first|(with_reducible assumption)|(with_reducible apply And.intro)|intro _|((fail_if_success (with_reducible show(_:Int)≤_));assumption)))<;>first|omega|rfl|(simp only[ab,e,f1,hlt,ez,ez2];done)|(simp[Nat.mul_one,e,f1,hlt,ez,ez2]<;>omega)|(simp_all;done))))
  |exact(rfl:some _=_)
  |(
   fail_if_success refine awL ?_
   refine evH [(12,{val:=some (.pv (.int .i64 m))}),(14,{val:=some (.pv (.int .i64 (m+b:Nat)))}),(16,{val:=some (.pv (.bool q))})] ?_;repeat1' dsimp only[c166,boolsQ,go_sem]
   first
   |refine aw4 ?_ ?_ rfl ?_
   |apply aw3
   |apply aw2
   |(refine awB (fun hc=>?_) fun hc=>?_<;>first|(cases hc;done)|(exfalso;first|(simp at hc<;>omega)|(simp[e,f1,hlt,ez,ez2]at hc;done))|(try simp only[bn]at hc;try contradiction))
   |skip))
end
section
open Rf
def own146:Nat→Bool:=fun d=>Nat.beq d 20||Nat.beq d 64
def c146q:ACode:=(⟨_,by conv=>(lhs;reduce;try simp only[lt1,Int.cast_ofNat_Int,Int.reduceNegSucc,UInt8.reduceOfNat])⟩:{x // codeOf Tryz.prog 146 own146=some x}).1
theorem fn146q:fnOf Tryz.prog 146 own146=some (c146q,[.t 6],67,true):=by kernel_rfl
def gphB (n:Nat) (es:List Bool):Blk:=⟨[.pv (.int .i64 n),.pv (boolsQ es)],0,2,187,false⟩
def seenB (s:List Bool):Blk:=⟨(s.flatMap boolC).map .pv,0,1,4,false⟩
def listsC (l:List (List Int)):List PV:=l.map intsQ
def listB (l:List (List Int)) (g:Nat):Blk:=⟨(listsC l).map .pv,g,1,49,false⟩
def resQ:List Int→PV
 |[]=>.nilsl
 |x::r=>intsQ (x::r)
theorem resQ_ne {l:List Int} (h:l≠[]):resQ l=intsQ l:=by
 cases l with
 |nil=>exact absurd rfl h
 |cons x r=>rfl
theorem snoc_last (l:List Int) (h:l≠[]):∃m u,l=m++[u]:=⟨l.dropLast,l.getLast h,(List.dropLast_concat_getLast h).symm⟩
theorem flatBool (s:List Bool):s.flatMap boolC=s.map PV.bool:=by
 induction s with
 |nil=>rfl
 |cons b r ih=>rw[List.flatMap_cons,ih];rfl
theorem bool_set (s:List Bool) (k:Nat):setAt ((s.flatMap boolC).map AV.pv) k [.pv (.bool true)]=((s.set k true).flatMap boolC).map AV.pv:=by
 rw[flatBool,flatBool,setAt,setAt,List.map_set,List.map_set]
theorem zeros_bool:∀n:Nat,zeros [.bool false] n=(List.replicate n false).flatMap boolC
 |0=>rfl
 |n+1=>by rw[zeros,zeros_bool n,List.replicate_succ,List.flatMap_cons];rfl
theorem seen_at (s:List Bool) (k:Nat) (hk:k<s.length):(s.flatMap boolC)[k]?=some (.bool (s.getD k false)):=by
 rw[flatBool,List.getElem?_map,List.getElem?_eq_getElem hk,List.getD,List.getElem?_eq_getElem hk];rfl
theorem list_at (pre:List (List Int)) (l:List Int) (r:List (List Int)):((listsC (pre++l::r)).map AV.pv)[pre.length]?.getD .any= .pv (intsQ l):=by
 simp[listsC]
theorem last_at (m:List Int) (u:Int):((m++[u]).flatMap intC)[m.length]?.getD default= .int .i64 u:=by
 rw[fm_one (g:=intC) (fun _=>rfl) (m++[u]) m.length 0 default (by simp)];simp
theorem ren_pv (keep:List Nat) (l:List PV):(l.map AV.pv).map (renV keep 3)=l.map AV.pv:=by
 simp[renV,Function.comp_def]
theorem aw_queued {own:Nat→Bool} {nn:Nat} {x:ACode} {R:Exit→AF→AM→Prop} {f:AF} {b0 b1 b4:Blk} {p0 p1 cs ps:List PV} {g g3 k:Nat} {e e3:TypeId} (h0:b0.cells=p0.map .pv) (h1:b1.cells=p1.map .pv) (hl:ps.length=k)
  (hr:renF [0,1,2,3] f=f) (hs:∀M,solF M 3 f=f) (ho:okFrame f 3=true)
  (h:Aw ctx own nn 0 x R f [b0,b1,⟨cs.map .pv++[.pv (.sl k ps)],g,1,e,false⟩]):Aw ctx own nn 0 x R f [b0,b1,⟨cs.map .pv++[.ref 3 g3 0 k],g,1,e,false⟩,⟨ps.map .pv,g3,1,e3,false⟩,b4]:=by
 refine aw_keep [0,1,2,3] rfl ?_;rw[hr];have hm:renM [0,1,2,3] [b0,b1,⟨cs.map .pv++[.ref 3 g3 0 k],g,1,e,false⟩,⟨ps.map .pv,g3,1,e3,false⟩,b4]=[b0,b1,⟨cs.map .pv++[.ref 3 g3 0 k],g,1,e,false⟩,⟨ps.map .pv,g3,1,e3,false⟩]:=by
  obtain⟨a0,a1,a2,a3,a4⟩:=b0;obtain⟨d0,d1,d2,d3,d4⟩:=b1;simp only at h0 h1;subst h0 h1;simp[renM,renB,renV,idxOf,Function.comp_def];rfl
 rw[hm];have hk:okMem [b0,b1] 2=true:=by simp[okMem,h0,h1,bnd]
 exact aw_rowDone (μ:=[b0,b1]) (c1:=cs) (c2:=[]) hk (Nat.zero_le _) (by simp) (by omega) hs ho h
set_option maxHeartbeats 8000000 in
theorem path0_ok (n:Nat) (es:List Bool) (fr tg:Nat) (hlen:es.length=n*n) (hn:n≤6) (hf:fr<n) (ht:tg<n) :
  PureOK ctx 146 [.agg [.int .i64 n,boolsQ es],.int .i64 fr,.int .i64 tg] (resQ (bfsN n (edgeN n es) tg (n+2) [[(fr:Int)]] (seen0 n fr))):=by
 generalize hres:bfsN n (edgeN n es) tg (n+2) [[(fr:Int)]] (seen0 n fr)=res;have hb0:=bfs_start (e:=edgeN n es) hf;have hz:=zeros_bool n;have hzl:(zeros [.bool false] n).length=n:=by rw[hz,bools_len];simp
 refine pure_body' (C:=ctx) (Fn.of fn146q rfl) rfl ?_;unfold c146q;repeat' (first
  |((with_reducible first|show VCs _|show All _);simp[vb,hf,hzl]<;>omega)
  |exact(rfl:some _=_)
  |(
   fail_if_success refine awL ?_
   refine evA ?_;repeat1' dsimp only[c146,boolsQ,go_sem]
   first
   |refine aw4 ?_ ?_ rfl ?_
   |apply aw3
   |apply aw2
   |(refine awB (fun hc=>?_) fun hc=>?_<;>first|(cases hc;done)|(exfalso;simp[hf,hzl]at hc<;>omega)|(try simp only[bn]at hc;try contradiction))
   |skip))
 refine aw_loopJ (σ:=List (List Int)×List (List Int)×List Bool×Nat×Nat)
  (fun s=>Bfs n (edgeN n es) fr s.2.1 s.2.2.1∧s.1.length+s.2.1.length+unseen s.2.2.1≤n+1∧bfsN n (edgeN n es) tg s.2.2.2.2 s.2.1 s.2.2.1=res∧s.2.1.length+unseen s.2.2.1<s.2.2.2.2)
  (fun s=>[(2,.pv (.int .i64 tg)),(3,.ptr 0 0 0),(7,.ref 1 0 0 n),(8,.ref 2 s.2.2.2.1 s.1.length s.2.1.length)])
  (fun s=>[gphB n es,seenB s.2.2.1,listB (s.1++s.2.1) s.2.2.2.1]) (fun s=>s.2.1.length+unseen s.2.2.1) ([],[[(fr:Int)]],seen0 n fr,0,n+2) ⟨hb0,?_,hres,?_⟩ (by (repeat' (first|exact trivial|refine And.intro (by first|rfl|(simp[get,Nat.beq];done)|(simp[get,Nat.beq];omega)|(dsimp only[get];congr 1<;>first|rfl|omega|(simp;done)|(simp;omega))) ?_))) ?_ (fun s _=>⟨Nat.zero_le _,rfl,by simp[okMem,gphB,seenB,listB,bnd]⟩) fun s hP=>?_
 ·have:=(hb0.ne [(fr:Int)] (by simp)).2.2.2.2;simp at this ⊢;omega
 ·have:=(hb0.ne [(fr:Int)] (by simp)).2.2.2.2;simp at this ⊢;omega
 ·refine⟨[],?_⟩;simp[gphB,seenB,listB,listsC,seen0,←bool_set,setAt,hz,intsQ,intC,boolsQ]
 obtain⟨pre,q,seen,g,f⟩:=s;obtain⟨p1,p2,p3,p4⟩:=hP;simp only at p1 p2 p3 p4 ⊢;cases q with
 |nil =>
  cases f with
  |zero=>omega
  |succ f =>
   rw[bfsN]at p3;subst p3;repeat' (first
    |((with_reducible first|show VCs _|show All _);simp[vb]<;>omega)
    |exact(rfl:some _=_)
    |(
     fail_if_success refine awL ?_
     refine evA ?_;repeat1' dsimp only[c146,resQ,go_sem]
     first
     |refine aw4 ?_ ?_ rfl ?_
     |apply aw3
     |apply aw2
     |(refine awB (fun hc=>?_) fun hc=>?_<;>first|(cases hc;done)|(exfalso;simp at hc<;>omega)|(try simp only[bn]at hc;try contradiction))
     |skip))
 |cons l r =>
  cases f with
  |zero=>omega
  |succ f =>
   obtain⟨q1,q2,q3,q4,q5⟩:=p1.ne l (by simp);obtain⟨m,u',rfl⟩:=snoc_last l q1;obtain⟨u,rfl⟩:∃u:Nat,u'=(u:Int):=⟨u'.toNat,by simp at q2;omega⟩
   obtain⟨hu,-⟩:=lastN_app m u;have e1:=list_at pre (m++[(u:Int)]) r;have e2:=last_at m (u:Int);have f1:=ints_len (m++[(u:Int)]);rw[bfsN,hu]at p3;rw[hu]at q3 q4;have hml:m.length≤7:=by simp at q5;omega
   by_cases hut:u=tg
   ·rw[if_pos hut]at p3;subst hut p3;repeat' (first
     |((with_reducible show VCs _);first|exact True.intro|(simp only[vb,lb];omega)|(simp only[vb,lb,e1,e2,f1,intsQ,listsC];and_intros<;>first|omega|(simp<;>omega))|(simp[vb,e1,e2,f1,intsQ,listsC]<;>omega))
     |((with_reducible show All _);first|exact True.intro|((try dsimp only[go_sem]);first|(simp[vb,e1,e2,f1,intsQ,listsC]<;>omega)|(simp only[vb,and_true,true_implies];(repeat' (first|(with_reducible assumption)|(with_reducible apply And.intro)|intro _|((fail_if_success (with_reducible show(_:Int)≤_));assumption)))<;>first|omega|rfl|(simp only[ab,e1,e2,f1,intsQ,listsC];done)|(simp[Nat.mul_one,e1,e2,f1,intsQ,listsC]<;>omega)|(simp_all;done))))
     |exact(rfl:some _=_)
     |(
      fail_if_success refine awL ?_
      refine evH [(28,{val:=some (.pv (.sl (m++[(u:Int)]).length ((m++[(u:Int)]).flatMap intC)))}),(34,{val:=some (.pv (.int .i64 u))})] ?_;repeat1' dsimp only[c146,gphB,listB,intsQ,go_sem]
      first
      |refine aw4 ?_ ?_ rfl ?_
      |apply aw3
      |apply aw2
      |(refine awB (fun hc=>?_) fun hc=>?_<;>first|(cases hc;done)|(exfalso;first|(simp at hc<;>omega)|(simp[e1,e2,f1,intsQ,listsC]at hc;done))|(try simp only[bn]at hc;try contradiction))
      |skip))
    rw[resQ_ne q1];rfl
   ·rw[if_neg hut]at p3;repeat' (first
     |((with_reducible show VCs _);first|exact True.intro|(simp only[vb,lb];omega)|(simp only[vb,lb,e1,e2,f1,intsQ,listsC];and_intros<;>first|omega|(simp<;>omega))|(simp[vb,e1,e2,f1,intsQ,listsC]<;>omega))
     |((with_reducible show All _);first|exact True.intro|((try dsimp only[go_sem]);first|(simp[vb,e1,e2,f1,intsQ,listsC]<;>omega)|(simp only[vb,and_true,true_implies];(repeat' (first|(with_reducible assumption)|(with_reducible apply And.intro)|intro _|((fail_if_success (with_reducible show(_:Int)≤_));assumption)))<;>first|omega|rfl|(simp only[ab,e1,e2,f1,intsQ,listsC];done)|(simp[Nat.mul_one,e1,e2,f1,intsQ,listsC]<;>omega)|(simp_all;done))))
     |exact(rfl:some _=_)
     |(
      fail_if_success refine awL ?_
      refine evH [(28,{val:=some (.pv (.sl (m++[(u:Int)]).length ((m++[(u:Int)]).flatMap intC)))}),(34,{val:=some (.pv (.int .i64 u))})] ?_;repeat1' dsimp only[c146,gphB,listB,intsQ,go_sem]
      first
      |refine aw4 ?_ ?_ rfl ?_
      |apply aw3
      |apply aw2
      |(refine awB (fun hc=>?_) fun hc=>?_<;>first|(cases hc;done)|(exfalso;first|(simp at hc<;>omega)|(simp[e1,e2,f1,intsQ,listsC]at hc;done))|(try simp only[bn]at hc;try contradiction))
      |skip))
    have hLl:(m++[(u:Int)]).length≤8:=by simp;omega
    have hX:=fun k hk=>expN_bfs p1 (l:=m++[(u:Int)]) (by simp) k hk
    rw[hu]at hX;clear e1 e2 q2 q4 hml hres hb0 hz hzl;generalize m++[(u:Int)]=L at *;have hX1:=fun k=>expN_succ k (edgeN n es) L u (L::r) seen
    have hX0:expN 0 (edgeN n es) L u (L::r) seen=(L::r,seen):=rfl;generalize hXX:(fun k=>expN k (edgeN n es) L u (L::r) seen)=X;have hXe:∀k,expN k (edgeN n es) L u (L::r) seen=X k:=fun k=>by rw[←hXX]
    simp only[hXe]at hX hX1 hX0 p3;clear hXe hXX;refine aw_loopJ (σ:=Nat×List (List Int)×Nat) (fun s=>s.1≤n∧s.2.1.length+(X s.1).1.length+unseen (X s.1).2≤n+1)
     (fun s=>[(2,.pv (.int .i64 tg)),(3,.ptr 0 0 0),(7,.ref 1 0 0 n),(8,.ref 2 s.2.2 s.2.1.length (X s.1).1.length),(9,.pv (.sl L.length (L.flatMap intC))),(10,.pv (.int .i64 u)),(40,.pv (.int .i64 n)),(41,.pv (.int .i64 s.1))])
     (fun s=>[gphB n es,seenB (X s.1).2,listB (s.2.1++(X s.1).1) s.2.2]) (fun s=>n-s.1) (0,pre,g) ⟨Nat.zero_le _,by simp only[hX0];exact p2⟩ (by simp only[hX0];(repeat' (first|exact trivial|refine And.intro (by first|rfl|(simp[get,Nat.beq];done)|(simp[get,Nat.beq];omega)|(dsimp only[get];congr 1<;>first|rfl|omega|(simp;done)|(simp;omega))) ?_))) ⟨[],by simp only[hX0];rfl⟩ (fun s _=>⟨Nat.zero_le _,rfl,by simp[okMem,gphB,seenB,listB,bnd]⟩) fun s hP=>?_
    obtain⟨k,pre,g⟩:=s;obtain⟨t1,t2⟩:=hP;simp only at t1 t2 ⊢;obtain⟨b1,b2,⟨mm,b3⟩,-,-,-⟩:=hX k t1;have hxl:=b1.len;by_cases hlt:k<n
    ·have hs1:=hX1 k;have hha:=has_ok n es u k hlen hn q3 hlt;have hsa:=seen_at (X k).2 k (by omega);have hse:=bool_set (X k).2 k;have f3:=bools_len (X k).2;have hsd:(X k).2.getD k true=(X k).2.getD k false:=by rw[List.getD,List.getD,List.getElem?_eq_getElem (by omega)];rfl
     unfold expF at hs1;rw[hsd]at hs1;generalize hsb:(X k).2.getD k false=sb at *;generalize edgeN n es u k=eb at *;have same:X (k+1)=X k→∃s',n-s'.1<n-k∧(s'.1≤n∧s'.2.1.length+(X s'.1).1.length+unseen (X s'.1).2≤n+1)∧s'=(k+1,pre,g):=fun h=>⟨(k+1,pre,g),by show n-(k+1)<n-k;omega,⟨by show k+1≤n;omega,by show pre.length+(X (k+1)).1.length+_≤_;rw[h];exact t2⟩,rfl⟩
     unfold boolsQ at hha;cases eb with
     |false =>
      have hs2:X (k+1)=X k:=by rw[hs1];simp
      obtain⟨s',w1,w2,rfl⟩:=same hs2;repeat' (first
       |((with_reducible show VCs _);first|exact True.intro|(simp only[vb,lb];omega)|(simp only[vb,lb,hha,hlt,hxl,f3];and_intros<;>first|omega|(simp<;>omega))|(simp[vb,hha,hlt,hxl,f3]<;>omega))
       |((with_reducible show All _);first|exact True.intro|((try dsimp only[go_sem]);first|(simp[vb,hha,hlt,hxl,f3]<;>omega)|(simp only[vb,and_true,true_implies];(repeat' (first|(with_reducible assumption)|(with_reducible apply And.intro)|intro _|((fail_if_success (with_reducible show(_:Int)≤_));assumption)))<;>first|omega|rfl|(simp only[ab,hha,hlt,hxl,f3];done)|(simp[Nat.mul_one,hha,hlt,hxl,f3]<;>omega)|(simp_all;done))))
       |exact(rfl:some _=_)
       |(
        fail_if_success refine awL ?_
        refine evTH [(166,fun _=>some (.bool false))] [(52,{val:=some (.pv (.bool false))})] ?_;repeat1' dsimp only[c146,gphB,seenB,boolsQ,go_sem]
        first
        |refine aw4 ?_ ?_ rfl ?_
        |apply aw3
        |apply aw2
        |(refine awB (fun hc=>?_) fun hc=>?_<;>first|(cases hc;done)|(exfalso;first|(simp at hc<;>omega)|(simp[hha,hlt,hxl,f3]at hc;done))|(try simp only[bn]at hc;try contradiction))
        |skip))
      exact⟨_,w1,w2,by simp only[hs2];(repeat' (first|exact trivial|refine And.intro (by first|rfl|(simp[get,Nat.beq];done)|(simp[get,Nat.beq];omega)|(dsimp only[get];congr 1<;>first|rfl|omega|(simp;done)|(simp;omega))) ?_)),[],by simp only[hs2]<;>rfl⟩
     |true =>
      cases sb with
      |true =>
       have hs2:X (k+1)=X k:=by rw[hs1];simp
       obtain⟨s',w1,w2,rfl⟩:=same hs2;repeat' (first
        |((with_reducible show VCs _);first|exact True.intro|(simp only[vb,lb];omega)|(simp only[vb,lb,hha,hlt,hsa,hxl,f3];and_intros<;>first|omega|(simp<;>omega))|(simp[vb,hha,hlt,hsa,hxl,f3]<;>omega))
        |((with_reducible show All _);first|exact True.intro|((try dsimp only[go_sem]);first|(simp[vb,hha,hlt,hsa,hxl,f3]<;>omega)|(simp only[vb,and_true,true_implies];(repeat' (first|(with_reducible assumption)|(with_reducible apply And.intro)|intro _|((fail_if_success (with_reducible show(_:Int)≤_));assumption)))<;>first|omega|rfl|(simp only[ab,hha,hlt,hsa,hxl,f3];done)|(simp[Nat.mul_one,hha,hlt,hsa,hxl,f3]<;>omega)|(simp_all;done))))
        |exact(rfl:some _=_)
        |(
         fail_if_success refine awL ?_
         refine evTH [(166,fun _=>some (.bool true))] [(52,{val:=some (.pv (.bool true))})] ?_;repeat1' dsimp only[c146,gphB,seenB,boolsQ,go_sem]
         first
         |refine aw4 ?_ ?_ rfl ?_
         |apply aw3
         |apply aw2
         |(refine awB (fun hc=>?_) fun hc=>?_<;>first|(cases hc;done)|(exfalso;first|(simp at hc<;>omega)|(simp[hha,hlt,hsa,hxl,f3]at hc;done))|(try simp only[bn]at hc;try contradiction))
         |skip))
       exact⟨_,w1,w2,by simp only[hs2];(repeat' (first|exact trivial|refine And.intro (by first|rfl|(simp[get,Nat.beq];done)|(simp[get,Nat.beq];omega)|(dsimp only[get];congr 1<;>first|rfl|omega|(simp;done)|(simp;omega))) ?_)),[],by simp only[hs2]<;>rfl⟩
      |false =>
       iterate 7 first
        |refine⟨fun _=>?_,fun h=>by simp at h<;>omega⟩
        |refine⟨by simp[vb,hha,hlt,hsa,hxl,f3]<;>omega,by simp[vb,hha,hlt,hsa,hxl,f3]<;>omega,?_⟩
        |(refine evTH [(166,fun _=>some (.bool true))] [(52,{val:=some (.pv (.bool false))})] ?_;iterate 2 (try dsimp only[gphB,seenB,boolsQ,go_sem]))
       refine aw_seq (aw_regX (T:=[(166,fun _=>some (.bool true))]) (H:=[(52,{val:=some (.pv (.bool false))})]) ?_);dsimp only[gphB,seenB,boolsQ,go_sem];try dsimp only[gphB,seenB,boolsQ,go_sem]
       refine⟨(by first|exact True.intro|(simp only[vb,lb];omega)|(simp only[vb,lb,hha,hlt,hsa,hxl,f3];and_intros<;>first|omega|(simp<;>omega))|(simp[vb,hha,hlt,hsa,hxl,f3]<;>omega)),(by first|exact True.intro|((try dsimp only[go_sem]);first|(simp[vb,hha,hlt,hsa,hxl,f3]<;>omega)|(simp only[vb,and_true,true_implies];(repeat' (first|(with_reducible assumption)|(with_reducible apply And.intro)|intro _|((fail_if_success (with_reducible show(_:Int)≤_));assumption)))<;>first|omega|rfl|(simp only[ab,hha,hlt,hsa,hxl,f3];done)|(simp[Nat.mul_one,hha,hlt,hsa,hxl,f3]<;>omega)|(simp_all;done)))),?_⟩
       refine evTH [(166,fun _=>some (.bool true))] [(52,{val:=some (.pv (.bool false))})] ?_;dsimp only[gphB,seenB,boolsQ,go_sem];refine⟨fun _=>?_,fun h=>by simp at h<;>omega⟩;refine evTH [(166,fun _=>some (.bool true))] [(52,{val:=some (.pv (.bool false))})] ?_;dsimp only[gphB,seenB,boolsQ,go_sem];try dsimp only[gphB,seenB,boolsQ,go_sem]
       refine⟨(by first|exact True.intro|(simp only[vb,lb];omega)|(simp only[vb,lb,hha,hlt,hsa,hxl,f3];and_intros<;>first|omega|(simp<;>omega))|(simp[vb,hha,hlt,hsa,hxl,f3]<;>omega)),(by first|exact True.intro|((try dsimp only[go_sem]);first|(simp[vb,hha,hlt,hsa,hxl,f3]<;>omega)|(simp only[vb,and_true,true_implies];(repeat' (first|(with_reducible assumption)|(with_reducible apply And.intro)|intro _|((fail_if_success (with_reducible show(_:Int)≤_));assumption)))<;>first|omega|rfl|(simp only[ab,hha,hlt,hsa,hxl,f3];done)|(simp[Nat.mul_one,hha,hlt,hsa,hxl,f3]<;>omega)|(simp_all;done)))),?_⟩
       have hcl:=fun μ=>cloneR L q1 (by omega) μ
       rw[show(((X k).2.flatMap boolC).map AV.pv).set (0+(k:Int).toNat*1) (.pv (.bool true))=(((X k).2.set k true).flatMap boolC).map AV.pv from by rw[←hse];simp[setAt]];refine aw_queue 7 false [(2,{val:=some (.ref 3 1 0 L.length),mem:=some ([⟨[.pv (.int .i64 n),.pv (.sl es.length (es.flatMap boolC))],0,2,187,false⟩,⟨(((X k).2.set k true).flatMap boolC).map .pv,0,1,4,false⟩,listB (pre++(X k).1) g]++[cloneB L])}),(5,{mode:=1})] [] ?_;iterate 3 (try dsimp only[QueueAt,listB,cloneB,go_sem])
       have hls:∀l:List (List Int),(listsC l).length=l.length:=fun l=>by simp[listsC]
       have hxk:X (k+1)=((X k).1++[L++[(k:Int)]],(X k).2.set k true):=by rw[hs1];simp
       have hun:=unseen_set (X k).2 k hsd;have fin:∀(pre':List (List Int)),pre'.length≤pre.length→∃s',n-s'.1<n-k∧(s'.1≤n∧s'.2.1.length+(X s'.1).1.length+unseen (X s'.1).2≤n+1)∧s'=(k+1,pre',g+1):=fun pre' h=>⟨(k+1,pre',g+1),by show n-(k+1)<n-k;omega,⟨by show k+1≤n;omega,by show pre'.length+(X (k+1)).1.length+unseen (X (k+1)).2≤n+1;rw[hxk];simp;omega⟩,rfl⟩
       have hps:(L.flatMap intC).map AV.pv++[.pv (.int .i64 k)]=((L++[(k:Int)]).flatMap intC).map AV.pv:=by simp[intC]
       rw[hps];have hcs:∀pre':List (List Int),(listsC (pre'++(X k).1)).map AV.pv++[.pv (.sl (L.length+1) ((L++[(k:Int)]).flatMap intC))]=(listsC (pre'++(X (k+1)).1)).map AV.pv:=fun pre'=>by rw[hxk];simp[listsC,intsQ]
       have c1:pre.length+(X k).1.length*1=((listsC (pre++(X k).1)).map AV.pv).length:=by simp[listsC]
       have c2:0<(X k).1.length:=by rw[b3];simp
       refine⟨by simp[vb,f1]<;>omega,⟨hcl _,trivial⟩,by simp[vb],⟨rfl,rfl,rfl,rfl,c1,c2,by omega,by omega⟩,⟨trivial,trivial,?_⟩,trivial,trivial,?_⟩
       ·refine aw_frame [(2,.pv (.int .i64 tg)),(3,.ptr 0 0 0),(7,.ref 1 0 0 n),(8,.ref 2 (g+1) pre.length ((X k).1.length+1)),(9,.pv (.sl L.length (L.flatMap intC))),(10,.pv (.int .i64 u)),(40,.pv (.int .i64 n)),(41,.pv (.int .i64 k))] (by (repeat' (first|exact trivial|refine And.intro (by first|rfl|(simp[get,Nat.beq];done)|(simp[get,Nat.beq];omega)|(dsimp only[get];congr 1<;>first|rfl|omega|(simp;done)|(simp;omega))) ?_))) ?_;refine aw_queued (p0:=[.int .i64 n,.sl es.length (es.flatMap boolC)]) rfl rfl (by rw[ints_len];simp) rfl (fun _=>rfl) rfl ?_;rw[hcs]
        obtain⟨s',w1,w2,rfl⟩:=fin pre (Nat.le_refl _);repeat' (first
         |((with_reducible show VCs _);first|exact True.intro|(simp only[vb,lb];omega)|(simp only[vb,lb,hlt];and_intros<;>first|omega|(simp<;>omega))|(simp[vb,hlt]<;>omega))
         |((with_reducible show All _);first|exact True.intro|((try dsimp only[go_sem]);first|(simp[vb,hlt]<;>omega)|(simp only[vb,and_true,true_implies];(repeat' (first|(with_reducible assumption)|(with_reducible apply And.intro)|intro _|((fail_if_success (with_reducible show(_:Int)≤_));assumption)))<;>first|omega|rfl|(simp only[ab,hlt];done)|(simp[Nat.mul_one,hlt]<;>omega)|(simp_all;done))))
         |exact(rfl:some _=_)
         |(
          fail_if_success refine awL ?_
          refine evA ?_;repeat1' dsimp only[c146,go_sem]
          first
          |refine aw4 ?_ ?_ rfl ?_
          |apply aw3
          |apply aw2
          |(refine awB (fun hc=>?_) fun hc=>?_<;>first|(cases hc;done)|(exfalso;first|(simp at hc<;>omega)|(simp[hlt]at hc;done))|(try simp only[bn]at hc;try contradiction))
          |skip))
        exact⟨_,w1,w2,by simp only[hxk];(repeat' (first|exact trivial|refine And.intro (by first|rfl|(simp[get,Nat.beq];done)|(simp[get,Nat.beq];omega)|(dsimp only[get];congr 1<;>first|rfl|omega|(simp;done)|(simp;omega))) ?_)),[],by simp only[hxk]<;>rfl⟩
       ·refine aw_frame [(2,.pv (.int .i64 tg)),(3,.ptr 0 0 0),(7,.ref 1 0 0 n),(8,.ref 2 (g+1) 0 ((X k).1.length+1)),(9,.pv (.sl L.length (L.flatMap intC))),(10,.pv (.int .i64 u)),(40,.pv (.int .i64 n)),(41,.pv (.int .i64 k))] (by (repeat' (first|exact trivial|refine And.intro (by first|rfl|(simp[get,Nat.beq];done)|(simp[get,Nat.beq];omega)|(dsimp only[get];congr 1<;>first|rfl|omega|(simp;done)|(simp;omega))) ?_))) ?_;rw[show((listsC (pre++(X k).1)).map AV.pv).drop pre.length=(listsC ([]++(X k).1)).map AV.pv from by simp[listsC]]
        refine aw_queued (p0:=[.int .i64 n,.sl es.length (es.flatMap boolC)]) rfl rfl (by rw[ints_len];simp) rfl (fun _=>rfl) rfl ?_;rw[hcs];obtain⟨s',w1,w2,rfl⟩:=fin [] (Nat.zero_le _);repeat' (first
         |((with_reducible show VCs _);first|exact True.intro|(simp only[vb,lb];omega)|(simp only[vb,lb,hlt];and_intros<;>first|omega|(simp<;>omega))|(simp[vb,hlt]<;>omega))
         |((with_reducible show All _);first|exact True.intro|((try dsimp only[go_sem]);first|(simp[vb,hlt]<;>omega)|(simp only[vb,and_true,true_implies];(repeat' (first|(with_reducible assumption)|(with_reducible apply And.intro)|intro _|((fail_if_success (with_reducible show(_:Int)≤_));assumption)))<;>first|omega|rfl|(simp only[ab,hlt];done)|(simp[Nat.mul_one,hlt]<;>omega)|(simp_all;done))))
         |exact(rfl:some _=_)
         |(
          fail_if_success refine awL ?_
          refine evA ?_;repeat1' dsimp only[c146,go_sem]
          first
          |refine aw4 ?_ ?_ rfl ?_
          |apply aw3
          |apply aw2
          |(refine awB (fun hc=>?_) fun hc=>?_<;>first|(cases hc;done)|(exfalso;first|(simp at hc<;>omega)|(simp[hlt]at hc;done))|(try simp only[bn]at hc;try contradiction))
          |skip))
        exact⟨_,w1,w2,by simp only[hxk];(repeat' (first|exact trivial|refine And.intro (by first|rfl|(simp[get,Nat.beq];done)|(simp[get,Nat.beq];omega)|(dsimp only[get];congr 1<;>first|rfl|omega|(simp;done)|(simp;omega))) ?_)),[],by simp only[hxk]<;>rfl⟩
    ·obtain rfl:k=n:=by omega
     repeat' (first
      |((with_reducible show VCs _);first|exact True.intro|(simp only[vb,lb];omega)|(simp only[vb,lb,hlt,b3];and_intros<;>first|omega|(simp<;>omega))|(simp[vb,hlt,b3]<;>omega))
      |((with_reducible show All _);first|exact True.intro|((try dsimp only[go_sem]);first|(simp[vb,hlt,b3]<;>omega)|(simp only[vb,and_true,true_implies];(repeat' (first|(with_reducible assumption)|(with_reducible apply And.intro)|intro _|((fail_if_success (with_reducible show(_:Int)≤_));assumption)))<;>first|omega|rfl|(simp only[ab,hlt,b3];done)|(simp[Nat.mul_one,hlt,b3]<;>omega)|(simp_all;done))))
      |exact(rfl:some _=_)
      |(
       fail_if_success refine awL ?_
       refine evA ?_;repeat1' dsimp only[c146,gphB,seenB,listB,go_sem]
       first
       |refine aw4 ?_ ?_ rfl ?_
       |apply aw3
       |apply aw2
       |(refine awB (fun hc=>?_) fun hc=>?_<;>first|(cases hc;done)|(exfalso;first|(simp at hc<;>omega)|(simp[hlt,b3]at hc;done))|(try simp only[bn]at hc;try contradiction))
       |skip))
     generalize X k=Z at *;obtain⟨Z1,Z2⟩:=Z;simp only at b1 b2 b3 t2 p3 ⊢;subst b3;refine⟨(pre++[L],r++mm,Z2,g,f),?_,⟨⟨b1.len,fun x hx=>b1.ne x (by simp only[List.cons_append,List.mem_cons];exact .inr hx),b1.sr⟩,?_,p3,?_⟩,?_,[],?_⟩
     ·simp at b2 ⊢;omega
     ·simp at t2 ⊢;omega
     ·simp at b2 p4 ⊢;omega
     ·simp only[List.length_append,List.length_cons,List.length_nil];(repeat' (first|exact trivial|refine And.intro (by first|rfl|(simp[get,Nat.beq];done)|(simp[get,Nat.beq];omega)|(dsimp only[get];congr 1<;>first|rfl|omega|(simp;done)|(simp;omega))) ?_))
     ·simp[gphB,seenB,listB]
end
section
open Rf
theorem drop_getD {α:Type} (l:List α) (k:Nat) (d:α) (hk:k<l.length):l.drop k=l.getD k d::l.drop (k+1):=by
 rw[List.drop_eq_getElem_cons hk,List.getD,List.getElem?_eq_getElem hk];rfl
theorem empty_ok (x:Rg):PureOK ctx 102 [.agg [.int .i64 x.lo,.int .i64 x.hi]] (.bool (emptyR x)):=by
 refine pure_body' (C:=ctx) (Fn.of fn102 rfl) rfl ?_;unfold c102;repeat' (first
  |((with_reducible first|show VCs _|show All _);simp[vb]<;>omega)
  |exact(rfl:some _=_)
  |(
   fail_if_success refine awL ?_
   refine evA ?_;repeat1' dsimp only[c102,emptyR,go_sem]
   first
   |refine aw4 ?_ ?_ rfl ?_
   |apply aw3
   |apply aw2
   |(refine awB (fun hc=>?_) fun hc=>?_<;>first|(cases hc;done)|(exfalso;simp at hc<;>omega)|(try simp only[bn]at hc;try contradiction))
   |skip))
theorem Empty_ok (b:List Rg) (hb:b.length≤1000000000):PureOK ctx 72 [boxP b] (.bool (emptyB b)):=by
 have hx:=any101_ok 102 b hb emptyR fun x _=>empty_ok x
 unfold emptyB;generalize b.any emptyR=q at *;unfold boxP at hx;refine pure_body' (C:=ctx) (Fn.of fn72 rfl) rfl ?_;unfold c72;repeat' (first
  |((with_reducible first|show VCs _|show All _);simp[vb,hx,boxP]<;>omega)
  |exact(rfl:some _=_)
  |(
   fail_if_success refine awL ?_
   refine evT [(101,fun _=>some (.bool q))] ?_;repeat1' dsimp only[c72,boxP,go_sem]
   first
   |refine aw4 ?_ ?_ rfl ?_
   |apply aw3
   |apply aw2
   |(refine awB (fun hc=>?_) fun hc=>?_<;>first|(cases hc;done)|(exfalso;simp[hx,boxP]at hc<;>omega)|(try simp only[bn]at hc;try contradiction))
   |skip))
theorem box_ok (b:List Rg) (hb:b.length≤1000000000):PureOK ctx 97 [boxP b] (.bool (boxOk b)):=by
 unfold boxOk;have f1:=box_len b;refine pure_body' (C:=ctx) (Fn.of fn97 rfl) rfl ?_;unfold c97;repeat' (first
  |((with_reducible first|show VCs _|show All _);simp[vb]<;>omega)
  |exact(rfl:some _=_)
  |(
   fail_if_success refine awL ?_
   refine evA ?_;repeat1' dsimp only[c97,boxP,go_sem]
   first
   |refine aw4 ?_ ?_ rfl ?_
   |apply aw3
   |apply aw2
   |(refine awB (fun hc=>?_) fun hc=>?_<;>first|(cases hc;done)|(exfalso;simp at hc<;>omega)|(try simp only[bn]at hc;try contradiction))
   |skip))
 refine aw_forJ b.length (fun k=>(b.take k).all rgOk=true) (fun k=>[(0,.pv (boxP b)),(5,.pv (boxP b)),(6,.pv (.int .i64 b.length)),(7,.pv (.int .i64 k))]) (fun _=>[]) rfl (by (repeat' (first|exact trivial|refine And.intro (by first|rfl|(simp[get,Nat.beq];done)|(simp[get,Nat.beq];omega)|(dsimp only[get];congr 1<;>first|rfl|omega|(simp;done)|(simp;omega))) ?_))) ⟨[],rfl⟩ (fun _=>⟨Nat.zero_le _,rfl,rfl⟩) fun k hk hP=>?_
 by_cases hlt:k<b.length
 ·have e:=fm_take rgC_len b k zr hlt;have h1:=all_step rgOk b k zr hlt;have h2:=all_no rgOk b k zr hlt;rw[h1,hP,Bool.true_and];clear h1;generalize b.getD k zr=x at *;repeat' (first
   |((with_reducible show VCs _);first|exact True.intro|(simp only[vb,lb];omega)|(simp only[vb,lb,e,f1,hlt,rgC];and_intros<;>first|omega|(simp<;>omega))|(simp[vb,e,f1,hlt,rgC]<;>omega))
   |((with_reducible show All _);first|exact True.intro|((try dsimp only[go_sem]);first|(simp[vb,e,f1,hlt,rgC]<;>omega)|(simp only[vb,and_true,true_implies];(repeat' (first|(with_reducible assumption)|(with_reducible apply And.intro)|intro _|((fail_if_success (with_reducible show(_:Int)≤_));assumption)))<;>first|omega|rfl|(simp only[ab,e,f1,hlt,rgC];done)|(simp[Nat.mul_one,e,f1,hlt,rgC]<;>omega)|(simp_all;done))))
   |exact(rfl:some _=_)
   |(
    fail_if_success refine awL ?_
    refine evH [(10,{val:=some (.pv (.agg [.int .i64 x.lo,.int .i64 x.hi]))})] ?_;repeat1' dsimp only[c97,boxP,go_sem]
    first
    |refine aw4 ?_ ?_ rfl ?_
    |apply aw3
    |apply aw2
    |(refine awB (fun hc=>?_) fun hc=>?_<;>first|(cases hc;done)|(exfalso;first|(simp at hc<;>omega)|(simp[e,f1,hlt,rgC]at hc;done))|(try simp only[bn]at hc;try contradiction))
    |skip))
  all_goals first
   |(rw[h2 (by
     cases h:rgOk x with
     |false=>rfl
     |true =>
      exfalso;simp only[rgOk,insideB,Bool.and_eq_true,decide_eq_true_eq]at h;omega),Bool.false_and];done)
   |(
    refine⟨hlt,?_,by (repeat' (first|exact trivial|refine And.intro (by first|rfl|(simp[get,Nat.beq];done)|(simp[get,Nat.beq];omega)|(dsimp only[get];congr 1<;>first|rfl|omega|(simp;done)|(simp;omega))) ?_)),_,rfl⟩;simp only[rgOk,insideB,Bool.and_eq_true,decide_eq_true_eq];omega)
 ·obtain rfl:k=b.length:=by omega
  rw[List.take_length]at hP;repeat' (first
   |((with_reducible show VCs _);first|exact True.intro|(simp only[vb,lb];omega)|(simp only[vb,lb,hlt];and_intros<;>first|omega|(simp<;>omega))|(simp[vb,hlt]<;>omega))
   |((with_reducible show All _);first|exact True.intro|((try dsimp only[go_sem]);first|(simp[vb,hlt]<;>omega)|(simp only[vb,and_true,true_implies];(repeat' (first|(with_reducible assumption)|(with_reducible apply And.intro)|intro _|((fail_if_success (with_reducible show(_:Int)≤_));assumption)))<;>first|omega|rfl|(simp only[ab,hlt];done)|(simp[Nat.mul_one,hlt]<;>omega)|(simp_all;done))))
   |exact(rfl:some _=_)
   |(
    fail_if_success refine awL ?_
    refine evA ?_;repeat1' dsimp only[c97,boxP,go_sem]
    first
    |refine aw4 ?_ ?_ rfl ?_
    |apply aw3
    |apply aw2
    |(refine awB (fun hc=>?_) fun hc=>?_<;>first|(cases hc;done)|(exfalso;first|(simp at hc<;>omega)|(simp[hlt]at hc;done))|(try simp only[bn]at hc;try contradiction))
    |skip))
  rw[hP,Bool.true_and];simp;omega
set_option maxHeartbeats 4000000 in
theorem fits_ok (n : Int) (r : Rw) (hr : r.terms.length ≤ 1000000000) : PureOK ctx 100 [.int .i64 n, .agg [termsP r.terms, .int .i64 r.bound]] (.bool (rowOk n r)) := by
  obtain ⟨ts, bd⟩ := r
  unfold rowOk
  simp only at hr ⊢
  generalize hq : termsOk n (-1) ts = q
  have f1 := terms_len ts
  refine pure_body' (C := ctx) (Fn.of fn100 rfl) rfl ?_
  unfold c100
  repeat' (first
    | ((with_reducible first | show VCs _ | show All _); simp [vb] <;> omega)
    | exact (rfl : some _ = _)
    | (
      fail_if_success refine awL ?_
      refine evA ?_
      repeat1' dsimp only [c100, termsP, go_sem]
      first
      | refine aw4 ?_ ?_ rfl ?_
      | apply aw3
      | apply aw2
      | (refine awB (fun hc => ?_) fun hc => ?_ <;> first | (cases hc; done) | (exfalso; simp at hc <;> omega) | (try simp only [bn] at hc; try contradiction))
      | skip))
  refine aw_loopJ (σ := Nat × Int) (fun s => s.1 ≤ ts.length ∧ termsOk n s.2 (ts.drop s.1) = q) (fun s => [(0, .pv (.int .i64 n)), (3, .ptr 0 0 0), (5, .pv (.int .i64 s.2)), (9, .pv (termsP ts)), (10, .pv (.int .i64 ts.length)), (11, .pv (.int .i64 s.1))]) (fun _ => [⟨[.pv (termsP ts), .pv (.int .i64 bd)], 0, 2, 62, false⟩]) (fun s => ts.length - s.1) (0, -1) ⟨Nat.zero_le _, hq⟩ (by (repeat' (first | exact trivial | refine And.intro (by first | rfl | (simp [get, Nat.beq]; done) | (simp [get, Nat.beq]; omega) | (dsimp only [get]; congr 1 <;> first | rfl | omega | (simp; done) | (simp; omega))) ?_))) ⟨[], rfl⟩ (fun _ _ => ⟨Nat.zero_le _, rfl, rfl⟩) fun s hP => ?_
  obtain ⟨k, last⟩ := s
  obtain ⟨p1, p2⟩ := hP
  simp only at p1 p2
  by_cases hlt : k < ts.length
  · have e := fm_take tmC_len ts k zm hlt
    rw [drop_getD ts k zm hlt, termsOk] at p2
    generalize ts.getD k zm = x at *
    generalize hq2 : termsOk n x.cell (ts.drop (k + 1)) = q2 at *
    repeat' (first
      | ((with_reducible show VCs _); first | exact True.intro | (simp only [vb, lb]; omega) | (simp only [vb, lb, e, f1, hlt, tmC]; and_intros <;> first | omega | (simp <;> omega)) | (simp [vb, e, f1, hlt, tmC] <;> omega))
      | ((with_reducible show All _); first | exact True.intro | ((try dsimp only [go_sem]); first | (simp [vb, e, f1, hlt, tmC] <;> omega) | (simp only [vb, and_true, true_implies]; (repeat' (first | (with_reducible assumption) | (with_reducible apply And.intro) | intro _ | ((fail_if_success (with_reducible show (_ : Int) ≤ _)); assumption))) <;> first | omega | rfl | (simp only [ab, e, f1, hlt, tmC]; done) | (simp [Nat.mul_one, e, f1, hlt, tmC] <;> omega) | (simp_all; done))))
      | exact (rfl : some _ = _)
      | (
        fail_if_success refine awL ?_
        refine evH [(14, { val := some (.pv (.agg [.int .i64 x.cell, .int .i64 x.fac])) })] ?_
        repeat1' dsimp only [c100, termsP, go_sem]
        first
        | refine aw4 ?_ ?_ rfl ?_
        | apply aw3
        | apply aw2
        | (refine awB (fun hc => ?_) fun hc => ?_ <;> first | (cases hc; done) | (exfalso; first | (simp at hc <;> omega) | (simp [e, f1, hlt, tmC] at hc; done)) | (try simp only [bn] at hc; try contradiction))
        | skip))
    all_goals first
      | (rw [← p2, show (decide (last < x.cell) && decide (x.cell < n) && decide (x.fac ≠ 0) && insideB x.fac (-1000) 1000) = false from by
          rw [Bool.eq_false_iff]
          simp only [insideB, ne_eq, Bool.and_eq_true, decide_eq_true_eq]
          omega]; rfl)
      | (
        refine ⟨(k + 1, x.cell), by show ts.length - (k + 1) < ts.length - k; omega, ⟨by show k + 1 ≤ _; omega, ?_⟩, by (repeat' (first | exact trivial | refine And.intro (by first | rfl | (simp [get, Nat.beq]; done) | (simp [get, Nat.beq]; omega) | (dsimp only [get]; congr 1 <;> first | rfl | omega | (simp; done) | (simp; omega))) ?_)), _, rfl⟩
        show termsOk n x.cell (ts.drop (k + 1)) = q
        rw [hq2, ← p2, show (decide (last < x.cell) && decide (x.cell < n) && decide (x.fac ≠ 0) && insideB x.fac (-1000) 1000) = true from by
         simp only [insideB, ne_eq, Bool.and_eq_true, decide_eq_true_eq]
         omega, Bool.true_and])
  · obtain rfl : k = ts.length := by omega
    rw [List.drop_length, termsOk] at p2
    subst p2
    repeat' (first
      | ((with_reducible show VCs _); first | exact True.intro | (simp only [vb, lb]; omega) | (simp only [vb, lb, hlt]; and_intros <;> first | omega | (simp <;> omega)) | (simp [vb, hlt] <;> omega))
      | ((with_reducible show All _); first | exact True.intro | ((try dsimp only [go_sem]); first | (simp [vb, hlt] <;> omega) | (simp only [vb, and_true, true_implies]; (repeat' (first | (with_reducible assumption) | (with_reducible apply And.intro) | intro _ | ((fail_if_success (with_reducible show (_ : Int) ≤ _)); assumption))) <;> first | omega | rfl | (simp only [ab, hlt]; done) | (simp [Nat.mul_one, hlt] <;> omega) | (simp_all; done))))
      | exact (rfl : some _ = _)
      | (
        fail_if_success refine awL ?_
        refine evA ?_
        repeat1' dsimp only [c100, termsP, go_sem]
        first
        | refine aw4 ?_ ?_ rfl ?_
        | apply aw3
        | apply aw2
        | (refine awB (fun hc => ?_) fun hc => ?_ <;> first | (cases hc; done) | (exfalso; first | (simp at hc <;> omega) | (simp [hlt] at hc; done)) | (try simp only [bn] at hc; try contradiction))
        | skip))
    all_goals simp [insideB]
theorem valid1_ok (b:List Rg) (r:Rw) (hr:r.terms.length≤1000000000):RefOK ctx 99 [.pv (.agg [termsP r.terms,.int .i64 r.bound]),.ptr 0 0 0] [⟨[.pv (boxP b)],0,1,31,false⟩] (.pv (.bool (!rowOk b.length r))) [⟨[.pv (boxP b)],0,1,31,false⟩]:=by
 have hx:=fits_ok b.length r hr;generalize rowOk b.length r=q at *;unfold termsP at hx;refine ref_body' (C:=ctx) (Fn.of fn99 rfl) rfl (by simp) rfl rfl ?_;unfold c99;repeat' (first
  |((with_reducible first|show VCs _|show All _);simp[vb,hx]<;>omega)
  |exact(rfl:some _=_)
  |(
   fail_if_success refine awL ?_
   refine evH [(7,{val:=some (.pv (.bool q))})] ?_;repeat1' dsimp only[c99,boxP,termsP,go_sem]
   first
   |refine aw4 ?_ ?_ rfl ?_
   |apply aw3
   |apply aw2
   |(refine awB (fun hc=>?_) fun hc=>?_<;>first|(cases hc;done)|(exfalso;simp[hx]at hc<;>omega)|(try simp only[bn]at hc;try contradiction))
   |skip))
 exact⟨⟨trivial,rfl⟩,_,rfl⟩
theorem Valid_ok (b:List Rg) (l:List Rw) (hb:b.length≤1000000000) (hl:l.length≤1000000000) (ht:∀r∈l,r.terms.length≤1000000000):PureOK ctx 71 [boxP b,rwsP l] (.bool (ivOk b l)):=by
 have h1:=box_ok b hb;have h2:=any98_ok 99 [⟨[.pv (boxP b)],0,1,31,false⟩] rfl 0 (by simp) l hl (fun r=>!rowOk b.length r) fun r hr=>valid1_ok b r (ht r hr)
 unfold ivOk;have e:l.all (rowOk b.length)= !(l.any fun r=>!rowOk b.length r):=by simp[List.any_eq_not_all_not]
 rw[e];clear e;generalize (l.any fun r=>!rowOk b.length r)=q at *;generalize boxOk b=q2 at *;unfold boxP rwsP at h2;unfold boxP at h1;cases q2 with
 |false =>
  refine pure_body' (C:=ctx) (Fn.of fn71 rfl) rfl ?_;unfold c71;refine evT [(97,fun _=>some (.bool false))] ?_;dsimp only[boxP,rwsP,go_sem];try dsimp only[boxP,rwsP,go_sem]
  refine⟨(by simp[vb,h1]<;>omega),(by simp[vb,h1]<;>omega),?_⟩;refine aw_seq (aw_regX (T:=[(97,fun _=>some (.bool false))]) (H:=[]) ?_);dsimp only[boxP,rwsP,go_sem];try dsimp only[boxP,rwsP,go_sem]
  refine⟨(by simp[vb,h1]<;>omega),(by simp[vb,h1]<;>omega),?_⟩;refine evT [(97,fun _=>some (.bool false))] ?_;dsimp only[boxP,rwsP,go_sem];exact⟨trivial,rfl⟩
 |true =>
  refine pure_body' (C:=ctx) (Fn.of fn71 rfl) rfl ?_;unfold c71;refine evTH [(97,fun _=>some (.bool true))] [(10,{val:=some (.pv (.bool q)),ro:=true})] ?_;dsimp only[boxP,rwsP,go_sem];try dsimp only[boxP,rwsP,go_sem]
  refine⟨(by simp[vb,h1,h2]<;>omega),(by simp[vb,h1,h2]<;>omega),?_⟩;refine aw_seq (aw_regX (T:=[(97,fun _=>some (.bool true))]) (H:=[(10,{val:=some (.pv (.bool q)),ro:=true})]) ?_);dsimp only[boxP,rwsP,go_sem];try dsimp only[boxP,rwsP,go_sem]
  refine⟨(by simp[vb,h1,h2]<;>omega),(by simp[vb,h1,h2]<;>omega),?_⟩;refine evTH [(97,fun _=>some (.bool true))] [(10,{val:=some (.pv (.bool q)),ro:=true})] ?_;dsimp only[boxP,rwsP,go_sem];exact⟨trivial,rfl⟩
theorem Valid_nil (b:List Rg) (hb:b.length≤1000000000):PureOK ctx 71 [boxP b,.nilsl] (.bool (boxOk b)):=by
 have h:=Valid_ok b [] hb (by simp) (by simp);rw[show ivOk b []=boxOk b by simp[ivOk]]at h;refine PureOK.canon_args 1 ?_;have e:∀l:List PV,l.map (canon 0)=l:=fun l=>by rw[show canon 0=id from funext fun _=>by simp[canon]];simp
 simpa [canon,boxP,rwsP,e]using h
end
section
open Rf
theorem valid_formed {t:Tree} (h:validB t=true):formedB t=true∧wt t≤65536:=by
 simp only[validB,Bool.and_eq_true,decide_eq_true_eq]at h;exact⟨h.2,h.1.2⟩
def formatN (t:Tree):List UInt8×Int:=if validB t then (if (textN t).length>65536 then ([],8) else (textN t,0)) else ([],1)
end
section
open Rf
theorem stepsT_len' (s:List RStep) (h:s.all rstepOk=true):∀k,k≤s.length→(stepsT (s.take k)).length≤60*k:=by
 intro k;induction k with
 |zero=>intro _;simp[stepsT]
 |succ k ih =>
  intro hk;rw[take_succ_getD s k zs (by omega),stepsT_snoc,List.length_append];have:=rstT_len (List.all_eq_true.mp h _ (getD_mem (d:=zs) (by omega:k<s.length)));have:=ih (by omega);omega
set_option maxHeartbeats 4000000 in
theorem write_ok:∀t,WriteOK t:=by
 refine Tree.ind fun kd s c a ks ih μ b g r o j h ho=>?_
 have hft:=h.hf;rw[formedB_node]at hft;simp only[Bool.and_eq_true]at hft;have hw:=h.hw;rw[wt_node]at hw ho;have hb:=h.hb;have hr:=h.hr;have ht:=wrM_t h;have hL:=wrM_len (μ:=μ) (b:=b) (g:=g) (t:=.node kd s c a ks);have hsl:=stepsT_len' s hft.1.1;refine ref_body' (C:=ctx) (Fn.of fn50 rfl) rfl (by rw[bst_len,bst_len];omega) rfl (by rw[bst_len];exact bst_ok h.ok hb hr) ?_;rw[bst_len,textN_node,writesN_node];unfold c50;refine evA ?_;simp only[treeP,Tree.kind,Tree.steps,Tree.cell,Tree.pos,Tree.kids,kidsP,rstepsP,mem2_get,mem2_last,mem2_set0,mem2_set1,mem_last,mem_set,mem_len,go_sem]
 try simp only[treeP,Tree.kind,Tree.steps,Tree.cell,Tree.pos,Tree.kids,kidsP,rstepsP,mem2_get,mem2_last,mem2_set0,mem2_set1,mem_last,mem_set,mem_len,go_sem]
 refine⟨(by simp[vb]<;>omega),(by simp[vb]<;>omega),?_⟩;have e:bst μ b g r o j++[⟨[.ptr b g 0],0,1,75,false⟩]++[⟨[.pv (.int .i64 kd),.pv (.sl s.length (s.flatMap rstepC)),.pv (.int .i64 c),.pv (.int .i64 a),.pv (.sl ks.length (ks.flatMap treeC))],0,5,25,false⟩]=bst (wrM μ b g (.node kd s c a ks)) b g r o j:=by
  rw[wrM_app h,List.append_assoc];rfl
 rw[e];simp only[List.length_append,List.length_cons,List.length_nil,bst_len];refine evA ?_;simp only[ht,treeB,Tree.kind,Tree.steps,Tree.cell,Tree.pos,Tree.kids,kidsP,rstepsP,mem2_get,mem2_last,mem2_set0,mem2_set1,mem_last,mem_set,mem_len,go_sem];try simp only[ht,treeB,Tree.kind,Tree.steps,Tree.cell,Tree.pos,Tree.kids,kidsP,rstepsP,mem2_get,mem2_last,mem2_set0,mem2_set1,mem_last,mem_set,mem_len,go_sem]
 refine⟨(by simp[vb]<;>omega),(by simp[vb]<;>omega),?_⟩;refine evA ?_;simp only[ht,treeB,Tree.kind,Tree.steps,Tree.cell,Tree.pos,Tree.kids,kidsP,rstepsP,mem2_get,mem2_last,mem2_set0,mem2_set1,mem_last,mem_set,mem_len,go_sem];try simp only[ht,treeB,Tree.kind,Tree.steps,Tree.cell,Tree.pos,Tree.kids,kidsP,rstepsP,mem2_get,mem2_last,mem2_set0,mem2_set1,mem_last,mem_set,mem_len,go_sem]
 refine⟨(by simp[vb]<;>omega),(by simp[vb]<;>omega),?_⟩;refine aw_block ?_
 refine aw_forJ s.length (fun _=>True) (wrF μ.length s) (fun k=>bst (wrM μ b g (.node kd s c a ks)) b g r (o++stepsT (s.take k)) (j+4*k)) trivial (by unfold wrF;(repeat' (first|exact trivial|refine And.intro (by first|rfl|(simp[get,Nat.beq];done)|(simp[get,Nat.beq];omega)|(dsimp only[get];congr 1<;>first|rfl|omega|(simp;done)|(simp;omega))) ?_))) ⟨[],by simp[stepsT]⟩ (fun k=>⟨by rw[bst_len,hL];omega,by simp only[wrF,okFrame,List.all_cons,List.all_nil,bnd,bst_len,hL,Bool.and_true,Bool.true_and,Bool.and_eq_true];exact⟨Nat.blt_eq.mpr (by omega),Nat.blt_eq.mpr (by omega),Nat.blt_eq.mpr (by omega)⟩,by rw[bst_len];exact bst_ok (wrM_ok h) (by omega) (by omega)⟩) fun k hk _=>?_
 have hsk:=hsl k hk;by_cases hlt:k<s.length
 ·have hs:=write_step h (m:=μ.length) (R:=blockR 0 (thenR (fun f μ'=>Aw ctx (fun _=>false) 67 μ.length c50t (RetRD [] (.pv (.tup [])) (bst μ b g r (o++((s.map rstT).flatten++tailT kd c a ks.length++(ks.map textN).flatten)) (j+(4*s.length+tailW kd+(ks.map writesN).sum)))) f μ') (RetRD [] (.pv (.tup [])) (bst μ b g r (o++((s.map rstT).flatten++tailT kd c a ks.length++(ks.map textN).flatten)) (j+(4*s.length+tailW kd+(ks.map writesN).sum)))))) (o:=o++stepsT (s.take k)) (j:=j+4*k) hlt (by rw[List.length_append];omega);refine aw_mono hs fun e' f' μ' hh=>?_
  cases e' with
  |normal =>
   obtain⟨h1,junk,h2⟩:=hh;refine⟨hlt,trivial,h1,junk,?_⟩;rw[h2,take_succ_getD s k zs hlt,stepsT_snoc,List.append_assoc o,show j+4*k+4=j+4*(k+1) by omega]
  |_=>exact hh
 ·obtain rfl:k=s.length:=by omega
  rw[List.take_length]at hsk ⊢;have htl:=fun f hf=>write_tail h (m:=μ.length) (Nat.le_refl _) ih (o:=o++stepsT s) (j:=j+4*s.length) (by rw[List.length_append];omega) (f:=f) hf
  unfold wrF;iterate 5 first
   |refine⟨fun h=>by simp at h<;>omega,fun _=>?_⟩
   |refine⟨by simp[vb]<;>omega,by simp[vb]<;>omega,?_⟩
   |(refine evA ?_;iterate 2 (try simp only[ht,mem2_get,mem2_last,mem2_set0,mem2_set1,mem_last,mem_set,mem_len,go_sem]))
  have:=htl [(14,.pv (.bool (decide ((s.length:Int)<s.length)))),(2,.ptr μ.length 0 0),(3,.ptr (μ.length+1) 0 0),(4,.fn 82 [.ptr μ.length 0 0]),(11,.pv (.sl s.length (s.flatMap rstepC))),(12,.pv (.int .i64 s.length)),(13,.pv (.int .i64 s.length))] (by (repeat' (first|exact trivial|refine And.intro (by first|rfl|(simp[get,Nat.beq];done)|(simp[get,Nat.beq];omega)|(dsimp only[get];congr 1<;>first|rfl|omega|(simp;done)|(simp;omega))) ?_)))
  rw[show o++stepsT s++tailT kd c a ks.length++kidsT ks=o++((s.map rstT).flatten++tailT kd c a ks.length++(ks.map textN).flatten) by simp[stepsT,kidsT],show j+4*s.length+tailW kd+kidsW ks=j+(4*s.length+tailW kd+(ks.map writesN).sum) by simp[kidsW];omega]at this;exact this
theorem ren_row (keep:List Nat) (d:Nat) (l:List UInt8):(byteA l).map (renV keep d)=byteA l:=by
 unfold byteA;rw[List.map_map];refine List.map_congr_left fun x _=>?_
 cases d<;>rfl
def bldF:Blk:=bldB (.pv (.val (.pointer none))) (.pv .nilsl) 0
def wf0 (s:List RStep):Nat→AF
 |0=>wrF 2 s 0
 |k+1=>wrF 3 s (k+1)
def wm0 (t:Tree) (s:List RStep):Nat→AM
 |0=>[treeB t,bldF,bcell 1 0,treeB t]
 |k+1=>bst (wrM [treeB t,bldF,rowB [] 0] 1 0 t) 1 0 2 (stepsT (s.take (k+1))) (4*(k+1)-1)
set_option maxHeartbeats 4000000 in
theorem write_new (t:Tree) (hf:formedB t=true) (hw:wt t≤1000000):RefOK ctx 50 [.ptr 1 0 0,.pv (treeP t)] [treeB t,bldF] (.pv (.tup [])) (bst [treeB t,bldF,rowB [] 0] 1 0 2 (textN t) (writesN t-1)):=by
 obtain⟨kd,s,c,a,ks⟩:=t;have h:WrSt [treeB (.node kd s c a ks),bldF,rowB [] 0] 1 0 2 (.node kd s c a ks):=⟨rfl,by simp,by simp,by simp,hf,hw⟩
 have hft:=hf;rw[formedB_node]at hft;simp only[Bool.and_eq_true]at hft;rw[wt_node]at hw;have hsl:=stepsT_len' s hft.1.1;have ih:∀x∈ks,WriteOK x:=fun x _=>write_ok x
 refine ref_body' (C:=ctx) (Fn.of fn50 rfl) rfl (by simp[bst_len]) rfl (by rw[bst_len];exact bst_ok (by rfl) (by simp) (by simp)) ?_;rw[textN_node,writesN_node];unfold c50;refine evA ?_;dsimp only[treeP,treeB,bldF,bldB,Tree.kind,Tree.steps,Tree.cell,Tree.pos,Tree.kids,kidsP,rstepsP,go_sem];try dsimp only[treeP,treeB,bldF,bldB,Tree.kind,Tree.steps,Tree.cell,Tree.pos,Tree.kids,kidsP,rstepsP,go_sem]
 refine⟨(by simp[vb]<;>omega),(by simp[vb]<;>omega),?_⟩;refine evA ?_;dsimp only[treeP,treeB,Tree.kind,Tree.steps,Tree.cell,Tree.pos,Tree.kids,kidsP,rstepsP,go_sem];try dsimp only[treeP,treeB,Tree.kind,Tree.steps,Tree.cell,Tree.pos,Tree.kids,kidsP,rstepsP,go_sem]
 refine⟨(by simp[vb]<;>omega),(by simp[vb]<;>omega),?_⟩;refine evA ?_;dsimp only[treeP,treeB,Tree.kind,Tree.steps,Tree.cell,Tree.pos,Tree.kids,kidsP,rstepsP,go_sem];try dsimp only[treeP,treeB,Tree.kind,Tree.steps,Tree.cell,Tree.pos,Tree.kids,kidsP,rstepsP,go_sem]
 refine⟨(by simp[vb]<;>omega),(by simp[vb]<;>omega),?_⟩;refine aw_block ?_;refine aw_loopJ (fun k=>k≤s.length) (wf0 s) (wm0 (.node kd s c a ks) s) (fun k=>s.length-k) 0 (Nat.zero_le _) (by unfold wf0 wrF;(repeat' (first|exact trivial|refine And.intro (by first|rfl|(simp[get,Nat.beq];done)|(simp[get,Nat.beq];omega)|(dsimp only[get];congr 1<;>first|rfl|omega|(simp;done)|(simp;omega))) ?_))) ⟨[],rfl⟩ (fun k hk=>?_) fun k hk=>?_
 ·cases k with
  |zero=>exact⟨by simp[wm0],rfl,rfl⟩
  |succ k=>exact⟨by simp[wm0,bst_len,wrM],by simp only[wm0,bst_len,wrM];rfl,by simp only[wm0];rw[bst_len];exact bst_ok (wrM_ok h) (by simp[wrM]) (by simp[wrM])⟩
 have hsk:=hsl k hk;by_cases hlt:k<s.length
 ·cases k with
  |succ k =>
   have hs:=write_step h (m:=2) (R:=blockR 0 (thenR (fun f μ'=>Aw ctx (fun _=>false) 67 2 c50t (RetRD [] (.pv (.tup [])) (bst [treeB (.node kd s c a ks),bldF,rowB [] 0] 1 0 2 ((s.map rstT).flatten++tailT kd c a ks.length++(ks.map textN).flatten) (4*s.length+tailW kd+(ks.map writesN).sum-1))) f μ') (RetRD [] (.pv (.tup [])) (bst [treeB (.node kd s c a ks),bldF,rowB [] 0] 1 0 2 ((s.map rstT).flatten++tailT kd c a ks.length++(ks.map textN).flatten) (4*s.length+tailW kd+(ks.map writesN).sum-1))))) (o:=stepsT (s.take (k+1))) (j:=4*(k+1)-1) hlt (by omega);refine aw_mono hs fun e' f' μ' hh=>?_
   cases e' with
   |normal =>
    obtain⟨h1,junk,h2⟩:=hh;refine⟨k+1+1,by omega,by omega,h1,junk,?_⟩;rw[h2,wm0,take_succ_getD s (k+1) zs hlt,stepsT_snoc,show 4*(k+1)-1+4=4*(k+1+1)-1 by omega]
   |_=>exact hh
  |zero =>
   have hxo:rstepOk (s.getD 0 zs)=true:=List.all_eq_true.mp hft.1.1 _ (getD_mem hlt);have e:=fm_take rstepC_len s 0 zs hlt;rw[Nat.zero_mul,List.drop_zero]at e;have hle:=rsteps_len s;have e1:=take_succ_getD s 0 zs hlt;generalize s.getD 0 zs=x at *;obtain⟨b1,b2⟩:=rstep_bounds hxo;have hkind:x.kind=0∨x.kind=1:=by
    simp[rstepOk,insideB]at hxo;omega
   obtain⟨xk,xi,xc⟩:=x;simp only at b1 b2 hkind;have hb2:∀n∈[xi,xc],-10000000000≤n∧n≤10000000000:=by
    intro n hn;simp only[List.mem_cons,List.not_mem_nil,or_false]at hn;rcases hn with rfl|rfl<;>omega
   have hl1:=fun w hw0 hw1=>lineF (μ:=[treeB (.node kd s c a ks),bldF,bcell 1 0,treeB (.node kd s c a ks),stB ⟨xk,xi,xc⟩]) rfl (b:=1) (g:=0) (c:=2) rfl (by simp) rfl w [xi,xc] (by simp) hb2 hw0 hw1
   have hr:=rstT_line ⟨xk,xi,xc⟩;have e3:stepsT (s.take 1)=rstT ⟨xk,xi,xc⟩:=by rw[e1];simp[stepsT]
   have a1:wf0 s 0=[(2,.ptr 2 0 0),(3,.ptr 3 0 0),(4,.fn 82 [.ptr 2 0 0]),(11,.pv (.sl s.length (s.flatMap rstepC))),(12,.pv (.int .i64 s.length)),(13,.pv (.int .i64 0))]:=rfl;have a2:wm0 (.node kd s c a ks) s 0=[treeB (.node kd s c a ks),bldF,bcell 1 0,treeB (.node kd s c a ks)]:=rfl;rw[a1,a2];rcases hkind with rfl|rfl
   ·have h6:=hl1 [114,111,119] (by simp) (by simp);replace hr:rstT ⟨0,xi,xc⟩=lineT [114,111,119] [xi,xc]:=hr;refine evA ?_;dsimp only[go_sem];try dsimp only[go_sem]
    refine⟨(by simp[vb]<;>omega),(by simp[vb]<;>omega),?_⟩;refine evA ?_;dsimp only[go_sem];refine⟨fun _=>?_,fun h=>by simp at h;subst h;simp at hlt⟩;iterate 5 first
     |refine⟨by simp[vb,e,hle,hlt,rstepC]<;>omega,by simp[vb,e,hle,hlt,rstepC]<;>omega,?_⟩
     |(refine evH [(16,{val:=some (.pv (.agg (rstepC ⟨0,xi,xc⟩)))})] ?_;iterate 2 (try dsimp only[bcell,rstepC,treeB,bldF,bldB,Tree.kind,Tree.steps,Tree.cell,Tree.pos,Tree.kids,go_sem]))
    refine evH [(26,{val:=some (.pv (.tup [])),mem:=some [treeB (.node kd s c a ks),bldB (.ptr 1 0 0) (.ref 5 3 0 (lineT [114,111,119] [xi,xc]).length) 0,bcell 1 0,treeB (.node kd s c a ks),stB ⟨0,xi,xc⟩,rowB (lineT [114,111,119] [xi,xc]) 3]})] ?_;dsimp only[bcell,rstepC,go_sem];refine⟨fun _=>?_,fun h=>by simp at h<;>omega⟩;refine evH [(26,{val:=some (.pv (.tup [])),mem:=some [treeB (.node kd s c a ks),bldB (.ptr 1 0 0) (.ref 5 3 0 (lineT [114,111,119] [xi,xc]).length) 0,bcell 1 0,treeB (.node kd s c a ks),stB ⟨0,xi,xc⟩,rowB (lineT [114,111,119] [xi,xc]) 3]})] ?_
    dsimp only[bcell,rstepC,go_sem];try dsimp only[bcell,rstepC,go_sem]
    refine⟨(by simp[vb]<;>omega),?_,?_⟩
    ·exact⟨h6,trivial⟩
    refine aw_keep [0,1,5,2,3] rfl ?_;dsimp only[renF,renM,renB,renV,idxOf,treeB,bldB,rowB,bcell,stB,go_sem];simp only[ren_row];refine evA ?_;dsimp only[bcell,rstepC,go_sem];try dsimp only[bcell,rstepC,go_sem]
    refine⟨(by simp[vb]<;>omega),(by simp[vb]<;>omega),?_⟩;exact⟨1,by omega,by omega,by unfold wf0 wrF;(repeat' (first|exact trivial|refine And.intro (by first|rfl|(simp[get,Nat.beq];done)|(simp[get,Nat.beq];omega)|(dsimp only[get];congr 1<;>first|rfl|omega|(simp;done)|(simp;omega))) ?_)),[],by rw[wm0,Nat.zero_add,e3,hr];rfl⟩
   ·have h6:=hl1 [103,114,97,112,104] (by simp) (by simp);replace hr:rstT ⟨1,xi,xc⟩=lineT [103,114,97,112,104] [xi,xc]:=hr;refine evA ?_;dsimp only[go_sem];try dsimp only[go_sem]
    refine⟨(by simp[vb]<;>omega),(by simp[vb]<;>omega),?_⟩;refine evA ?_;dsimp only[go_sem];refine⟨fun _=>?_,fun h=>by simp at h;subst h;simp at hlt⟩;iterate 5 first
     |refine⟨by simp[vb,e,hle,hlt,rstepC]<;>omega,by simp[vb,e,hle,hlt,rstepC]<;>omega,?_⟩
     |(refine evH [(16,{val:=some (.pv (.agg (rstepC ⟨1,xi,xc⟩)))})] ?_;iterate 2 (try dsimp only[bcell,rstepC,treeB,bldF,bldB,Tree.kind,Tree.steps,Tree.cell,Tree.pos,Tree.kids,go_sem]))
    refine evH [(33,{val:=some (.pv (.tup [])),mem:=some [treeB (.node kd s c a ks),bldB (.ptr 1 0 0) (.ref 5 3 0 (lineT [103,114,97,112,104] [xi,xc]).length) 0,bcell 1 0,treeB (.node kd s c a ks),stB ⟨1,xi,xc⟩,rowB (lineT [103,114,97,112,104] [xi,xc]) 3]})] ?_;dsimp only[bcell,rstepC,go_sem];refine⟨fun h=>by simp at h<;>omega,fun _=>?_⟩;refine evH [(33,{val:=some (.pv (.tup [])),mem:=some [treeB (.node kd s c a ks),bldB (.ptr 1 0 0) (.ref 5 3 0 (lineT [103,114,97,112,104] [xi,xc]).length) 0,bcell 1 0,treeB (.node kd s c a ks),stB ⟨1,xi,xc⟩,rowB (lineT [103,114,97,112,104] [xi,xc]) 3]})] ?_
    dsimp only[bcell,rstepC,go_sem];try dsimp only[bcell,rstepC,go_sem]
    refine⟨(by simp[vb]<;>omega),?_,?_⟩
    ·exact⟨h6,trivial⟩
    refine aw_keep [0,1,5,2,3] rfl ?_;dsimp only[renF,renM,renB,renV,idxOf,treeB,bldB,rowB,bcell,stB,go_sem];simp only[ren_row];refine evA ?_;dsimp only[bcell,rstepC,go_sem];try dsimp only[bcell,rstepC,go_sem]
    refine⟨(by simp[vb]<;>omega),(by simp[vb]<;>omega),?_⟩;exact⟨1,by omega,by omega,by unfold wf0 wrF;(repeat' (first|exact trivial|refine And.intro (by first|rfl|(simp[get,Nat.beq];done)|(simp[get,Nat.beq];omega)|(dsimp only[get];congr 1<;>first|rfl|omega|(simp;done)|(simp;omega))) ?_)),[],by rw[wm0,Nat.zero_add,e3,hr];rfl⟩
 ·obtain rfl:k=s.length:=by omega
  have hst:stepsT s=(s.map rstT).flatten:=rfl;have hkt:kidsT ks=(ks.map textN).flatten:=rfl;have hkw:kidsW ks=(ks.map writesN).sum:=rfl;rw[List.take_length]at hsk;have htw:2≤tailW kd:=by unfold tailW;split<;>(try split)<;>omega
  rw[←hst,←hkt,←hkw];cases s with
  |cons x s' =>
   have htl:=fun f hf=>write_tail h (m:=2) (by simp) ih (o:=stepsT (x::s')) (j:=4*(x::s').length-1) (by omega) (f:=f) hf
   have e4:4*(x::s').length-1+tailW kd+kidsW ks=4*(x::s').length+tailW kd+kidsW ks-1:=by simp only[List.length_cons];omega
   rw[e4]at htl;have e5:wm0 (.node kd (x::s') c a ks) (x::s') (x::s').length=bst (wrM [treeB (.node kd (x::s') c a ks),bldF,rowB [] 0] 1 0 (.node kd (x::s') c a ks)) 1 0 2 (stepsT (x::s')) (4*(x::s').length-1):=by
    simp only[List.length_cons,wm0];rw[show(x::s').take (s'.length+1)=x::s' from List.take_length (l:=x::s')]
   rw[e5];have e6:wf0 (x::s') (x::s').length=wrF 3 (x::s') (x::s').length:=rfl;rw[e6];unfold wrF;generalize hM:bst (wrM [treeB (.node kd (x::s') c a ks),bldF,rowB [] 0] 1 0 (.node kd (x::s') c a ks)) 1 0 2 (stepsT (x::s')) (4*(x::s').length-1)=MM at *;iterate 5 first
    |refine⟨fun h=>by simp at h<;>omega,fun _=>?_⟩
    |refine⟨by simp[vb]<;>omega,by simp[vb]<;>omega,?_⟩
    |(refine evA ?_;iterate 2 (try dsimp only[go_sem]))
   exact htl _ (by (repeat' (first|exact trivial|refine And.intro (by first|rfl|(simp[get,Nat.beq];done)|(simp[get,Nat.beq];omega)|(dsimp only[get];congr 1<;>first|rfl|omega|(simp;done)|(simp;omega))) ?_)))
  |nil =>
   have a1:wf0 [] 0=[(2,.ptr 2 0 0),(3,.ptr 3 0 0),(4,.fn 82 [.ptr 2 0 0]),(11,.pv (.sl 0 [])),(12,.pv (.int .i64 0)),(13,.pv (.int .i64 0))]:=rfl;have a2:wm0 (.node kd [] c a ks) [] 0=[treeB (.node kd [] c a ks),bldF,bcell 1 0,treeB (.node kd [] c a ks)]:=rfl;rw[List.length_nil,a1,a2];have hb:=tail_bounds hft.1.2;obtain⟨b1,b2⟩:=hb;have hwl:=wts_len ks;have htl:=tailT_len hft.1.2 (by omega);have hkk:=fun f hf=>write_kids h (m:=2) (by simp) ih (o:=tailT kd c a ks.length) (j:=tailW kd-1) (by omega) (f:=f) hf
   have hln:=fun w ns hn hns hw0 hw=>lineF (μ:=[treeB (.node kd [] c a ks),bldF,bcell 1 0,treeB (.node kd [] c a ks)]) rfl (b:=1) (g:=0) (c:=2) rfl (by simp) rfl w ns hn hns hw0 hw
   have e4:tailW kd-1+kidsW ks=4*0+tailW kd+kidsW ks-1:=by omega
   rw[e4]at hkk;rw[show stepsT []=[] from rfl,List.nil_append];rw[tailT_line]at hkk ⊢;rcases tail_kinds hft.1.2 with⟨rfl,h0⟩|rfl|⟨rfl,h2⟩
   ·have h1:=(hln [99,108,111,115,101,100] [] (by simp) (by simp) (by simp) (by simp)).weak (al':=[.pv (.str [99,108,111,115,101,100]),.pv .nilsl,.ptr 2 0 0]) ⟨rfl,fun i x y hx hy=>by
     match i,hx,hy with
     |0,hx,hy=>injection hx with hx;injection hy with hy;subst hx hy;exact .refl _
     |1,hx,hy=>injection hx with hx;injection hy with hy;subst hx hy;exact CW.nil
     |2,hx,hy=>injection hx with hx;injection hy with hy;subst hx hy;exact .refl _
     |_+3,hx,_=>simp at hx⟩
    iterate 9 first
     |refine⟨fun h=>by simp at h<;>omega,fun _=>?_⟩
     |refine⟨by simp[vb]<;>omega,by simp[vb]<;>omega,?_⟩
     |(refine evA ?_;iterate 2 (try dsimp only[treeB,bldF,bldB,bcell,Tree.kind,Tree.steps,Tree.cell,Tree.pos,Tree.kids,go_sem]))
    refine evH [(46,{val:=some (.pv (.tup [])),mem:=some [treeB (.node 0 [] c a ks),bldB (.ptr 1 0 0) (.ref 4 1 0 (lineT [99,108,111,115,101,100] []).length) 0,bcell 1 0,treeB (.node 0 [] c a ks),rowB (lineT [99,108,111,115,101,100] []) 1]})] ?_;dsimp only[treeB,bldF,bldB,bcell,Tree.kind,Tree.steps,Tree.cell,Tree.pos,Tree.kids,go_sem];refine⟨fun _=>?_,fun h=>by simp at h<;>omega⟩
    refine evH [(46,{val:=some (.pv (.tup [])),mem:=some [treeB (.node 0 [] c a ks),bldB (.ptr 1 0 0) (.ref 4 1 0 (lineT [99,108,111,115,101,100] []).length) 0,bcell 1 0,treeB (.node 0 [] c a ks),rowB (lineT [99,108,111,115,101,100] []) 1]})] ?_;dsimp only[treeB,bldF,bldB,bcell,Tree.kind,Tree.steps,Tree.cell,Tree.pos,Tree.kids,go_sem];try dsimp only[treeB,bldF,bldB,bcell,Tree.kind,Tree.steps,Tree.cell,Tree.pos,Tree.kids,go_sem]
    refine⟨(by simp[vb]<;>omega),?_,?_⟩
    ·exact⟨h1,trivial⟩
    refine aw_keep [0,1,4,2,3] rfl ?_;dsimp only[renF,renM,renB,renV,idxOf,treeB,bldB,rowB,bcell,stB,go_sem];simp only[ren_row];exact hkk _ (by (repeat' (first|exact trivial|refine And.intro (by first|rfl|(simp[get,Nat.beq];done)|(simp[get,Nat.beq];omega)|(dsimp only[get];congr 1<;>first|rfl|omega|(simp;done)|(simp;omega))) ?_)))
   ·have h1:=hln [115,112,108,105,116] [c,a] (by simp) (by intro n hn;simp only[List.mem_cons,List.not_mem_nil,or_false]at hn;rcases hn with rfl|rfl<;>omega) (by simp) (by simp);iterate 9 first
     |refine⟨fun h=>by simp at h<;>omega,fun _=>?_⟩
     |refine⟨by simp[vb]<;>omega,by simp[vb]<;>omega,?_⟩
     |(refine evA ?_;iterate 2 (try dsimp only[treeB,bldF,bldB,bcell,Tree.kind,Tree.steps,Tree.cell,Tree.pos,Tree.kids,go_sem]))
    refine evA ?_;dsimp only[treeB,Tree.kind,Tree.steps,Tree.cell,Tree.pos,Tree.kids,go_sem];refine⟨fun h=>by simp at h<;>omega,fun _=>?_⟩;refine evA ?_;dsimp only[treeB,Tree.kind,Tree.steps,Tree.cell,Tree.pos,Tree.kids,go_sem];try dsimp only[treeB,Tree.kind,Tree.steps,Tree.cell,Tree.pos,Tree.kids,go_sem]
    refine⟨(by simp[vb]<;>omega),(by simp[vb]<;>omega),?_⟩;refine evH [(55,{val:=some (.pv (.tup [])),mem:=some [treeB (.node 1 [] c a ks),bldB (.ptr 1 0 0) (.ref 4 3 0 (lineT [115,112,108,105,116] [c,a]).length) 0,bcell 1 0,treeB (.node 1 [] c a ks),rowB (lineT [115,112,108,105,116] [c,a]) 3]})] ?_;dsimp only[treeB,bldF,bldB,bcell,Tree.kind,Tree.steps,Tree.cell,Tree.pos,Tree.kids,go_sem];refine⟨fun _=>?_,fun h=>by simp at h<;>omega⟩
    refine evH [(55,{val:=some (.pv (.tup [])),mem:=some [treeB (.node 1 [] c a ks),bldB (.ptr 1 0 0) (.ref 4 3 0 (lineT [115,112,108,105,116] [c,a]).length) 0,bcell 1 0,treeB (.node 1 [] c a ks),rowB (lineT [115,112,108,105,116] [c,a]) 3]})] ?_;dsimp only[treeB,bldF,bldB,bcell,Tree.kind,Tree.steps,Tree.cell,Tree.pos,Tree.kids,go_sem];try dsimp only[treeB,bldF,bldB,bcell,Tree.kind,Tree.steps,Tree.cell,Tree.pos,Tree.kids,go_sem]
    refine⟨(by simp[vb]<;>omega),?_,?_⟩
    ·exact⟨h1,trivial⟩
    refine aw_keep [0,1,4,2,3] rfl ?_;dsimp only[renF,renM,renB,renV,idxOf,treeB,bldB,rowB,bcell,stB,go_sem];simp only[ren_row];exact hkk _ (by (repeat' (first|exact trivial|refine And.intro (by first|rfl|(simp[get,Nat.beq];done)|(simp[get,Nat.beq];omega)|(dsimp only[get];congr 1<;>first|rfl|omega|(simp;done)|(simp;omega))) ?_)))
   ·have h1:=hln [99,97,115,101,115] [(ks.length:Int)] (by simp) (by intro n hn;simp only[List.mem_cons,List.not_mem_nil,or_false]at hn;subst hn;omega) (by simp) (by simp);iterate 9 first
     |refine⟨fun h=>by simp at h<;>omega,fun _=>?_⟩
     |refine⟨by simp[vb]<;>omega,by simp[vb]<;>omega,?_⟩
     |(refine evA ?_;iterate 2 (try dsimp only[treeB,bldF,bldB,bcell,Tree.kind,Tree.steps,Tree.cell,Tree.pos,Tree.kids,kidsP,go_sem]))
    refine evA ?_;dsimp only[treeB,Tree.kind,Tree.steps,Tree.cell,Tree.pos,Tree.kids,kidsP,go_sem];refine⟨fun h=>by simp at h<;>omega,fun _=>?_⟩;refine evA ?_;dsimp only[treeB,Tree.kind,Tree.steps,Tree.cell,Tree.pos,Tree.kids,kidsP,go_sem];try dsimp only[treeB,Tree.kind,Tree.steps,Tree.cell,Tree.pos,Tree.kids,kidsP,go_sem]
    refine⟨(by simp[vb]<;>omega),(by simp[vb]<;>omega),?_⟩;refine evH [(42,{val:=some (.pv (.tup [])),mem:=some [treeB (.node 2 [] c a ks),bldB (.ptr 1 0 0) (.ref 4 2 0 (lineT [99,97,115,101,115] [(ks.length:Int)]).length) 0,bcell 1 0,treeB (.node 2 [] c a ks),rowB (lineT [99,97,115,101,115] [(ks.length:Int)]) 2]})] ?_;dsimp only[treeB,bldF,bldB,bcell,Tree.kind,Tree.steps,Tree.cell,Tree.pos,Tree.kids,kidsP,go_sem];refine⟨fun h=>by simp at h<;>omega,fun _=>?_⟩
    refine evH [(42,{val:=some (.pv (.tup [])),mem:=some [treeB (.node 2 [] c a ks),bldB (.ptr 1 0 0) (.ref 4 2 0 (lineT [99,97,115,101,115] [(ks.length:Int)]).length) 0,bcell 1 0,treeB (.node 2 [] c a ks),rowB (lineT [99,97,115,101,115] [(ks.length:Int)]) 2]})] ?_;dsimp only[treeB,bldF,bldB,bcell,Tree.kind,Tree.steps,Tree.cell,Tree.pos,Tree.kids,kidsP,go_sem];try dsimp only[treeB,bldF,bldB,bcell,Tree.kind,Tree.steps,Tree.cell,Tree.pos,Tree.kids,kidsP,go_sem]
    refine⟨(by simp[vb]<;>omega),?_,?_⟩
    ·exact⟨h1,trivial⟩
    refine aw_keep [0,1,4,2,3] rfl ?_;dsimp only[renF,renM,renB,renV,idxOf,treeB,bldB,rowB,bcell,stB,go_sem];simp only[ren_row];exact hkk _ (by (repeat' (first|exact trivial|refine And.intro (by first|rfl|(simp[get,Nat.beq];done)|(simp[get,Nat.beq];omega)|(dsimp only[get];congr 1<;>first|rfl|omega|(simp;done)|(simp;omega))) ?_)))
theorem textN_ne (t:Tree):textN t≠[]:=by
 obtain⟨k,s,c,a,l⟩:=t;rw[textN_node];have:tailT k c a l.length≠[]:=by
  unfold tailT;split
  ·simp
  ·split<;>simp
 simp[this]
def c26:ACode:=(⟨_,by conv=>(lhs;reduce;try simp only[lt1,Int.cast_ofNat_Int,Int.reduceNegSucc,UInt8.reduceOfNat])⟩:{x // codeOf Tryz.prog 26 (fun _=>false)=some x}).1
theorem fn26:fnOf Tryz.prog 26 (fun _=>false)=some (c26,[.t 2,.t 3],13,true):=by kernel_rfl
set_option maxHeartbeats 4000000 in
theorem format_ok (t:Tree) (hw:wt t≤1000000000):PureOK ctx 26 [treeP t] (.tup [.str (formatN t).1,.int .i64 (formatN t).2]):=by
 have hv:=valid_ok t hw;unfold formatN;refine pure_body' (C:=ctx) (Fn.of fn26 rfl) rfl ?_;unfold c26;cases hb:validB t with
 |false =>
  rw[hb]at hv;repeat' (first
   |((with_reducible first|show VCs _|show All _);simp[vb]<;>omega)
   |exact(rfl:some _=_)
   |(
    fail_if_success refine awL ?_
    refine evT [(13,fun _=>some (.bool false))] ?_;repeat1' dsimp only[c26,treeP,go_sem]
    first
    |refine aw4 ?_ ?_ rfl ?_
    |apply aw3
    |apply aw2
    |(refine awB (fun hc=>?_) fun hc=>?_<;>first|(cases hc;done)|(exfalso;simp at hc<;>omega)|(try simp only[bn]at hc;try contradiction))
    |skip))
  exact⟨hv,trivial⟩
 |true =>
  obtain⟨hf,hw2⟩:=valid_formed hb;have hwr:=write_new t hf (by omega);have hne:=textN_ne t;rw[hb]at hv;generalize textN t=T at *;generalize hj:writesN t-1=j at *;have hlen:=blen_ok (μ:=bst [treeB t,bldF,rowB [] 0] 1 0 2 T j) (by rw[bst_len];exact bst_ok (by rfl) (by simp) (by simp)) (b:=1) (g:=0) (r:=2) (j:=j) (n:=T.length) (x:=.ptr 1 0 0) rfl;have hstr:=bstring_ok (μ:=bst [treeB t,bldF,rowB [] 0] 1 0 2 T j) (b:=1) (g:=0) (r:=2) (j:=j) (x:=.ptr 1 0 0) hne rfl rfl;refine evT [(13,fun _=>some (.bool true))] ?_;dsimp only[treeP,go_sem];try dsimp only[treeP,go_sem]
  refine⟨(by simp[vb]<;>omega),(by simp[vb]<;>omega),?_⟩;refine evT [(13,fun _=>some (.bool true))] ?_;dsimp only[treeP,go_sem];try dsimp only[treeP,go_sem]
  refine⟨(by simp[vb]<;>omega),?_,?_⟩
  ·exact⟨hv,trivial⟩
  iterate 5 first
   |refine⟨fun h=>by simp at h<;>omega,fun _=>?_⟩
   |refine⟨by simp[vb]<;>omega,by simp[vb]<;>omega,?_⟩
   |(refine evH [(9,{val:=some (.pv (.tup [])),mem:=some [treeB t,bldB (.ptr 1 0 0) (.ref 2 j 0 T.length) 0,rowB T j]})] ?_;iterate 2 (try dsimp only[treeB,go_sem]))
  refine evH [(9,{val:=some (.pv (.tup [])),mem:=some [treeB t,bldB (.ptr 1 0 0) (.ref 2 j 0 T.length) 0,rowB T j]})] ?_;dsimp only[treeB,go_sem];try dsimp only[treeB,go_sem]
  refine⟨(by simp[vb]<;>omega),?_,?_⟩
  ·exact⟨hwr,trivial⟩
  refine evH [(10,{val:=some (.pv (.int .i64 T.length)),ro:=true})] ?_;dsimp only[treeB,go_sem];try dsimp only[treeB,go_sem]
  refine⟨(by simp[vb]<;>omega),?_,?_⟩
  ·exact⟨hlen,trivial⟩
  refine evA ?_;dsimp only[go_sem];refine⟨fun hc=>?_,fun hc=>?_⟩
  ·rw[if_pos rfl,if_pos (by simp at hc;omega)];refine evA ?_;dsimp only[go_sem];try dsimp only[go_sem]
   refine⟨(by simp[vb]<;>omega),(by simp[vb]<;>omega),?_⟩;refine evA ?_;dsimp only[go_sem];exact⟨trivial,rfl⟩
  ·rw[if_pos rfl,if_neg (by simp at hc;omega)];refine evH [(12,{val:=some (.pv (.str T)),mem:=some ([treeB t,bldB (.ptr 1 0 0) (.ref 2 j 0 T.length) 0,rowB T j].set 2 {rowB T j with frozen:=true})})] ?_;dsimp only[go_sem];refine evH [(12,{val:=some (.pv (.str T)),mem:=some ([treeB t,bldB (.ptr 1 0 0) (.ref 2 j 0 T.length) 0,rowB T j].set 2 {rowB T j with frozen:=true})})] ?_;dsimp only[go_sem];try dsimp only[go_sem]
   refine⟨(by simp[vb]<;>omega),?_,?_⟩
   ·exact⟨hstr,trivial⟩
   refine evA ?_;dsimp only[go_sem];exact⟨trivial,rfl⟩
end
end Pur
end
section
namespace Rf
open Pur (insideB)
theorem termsOk_mem:∀(n:Int) (l:List Tm) (last:Int),-1≤last→termsOk n last l=true→(l.length:Int)+last+1≤max n (last+1)∧∀t∈l,0≤t.cell∧last<t.cell∧t.cell<n∧t.fac≠0∧ -1000≤t.fac∧t.fac≤1000
 |n,[],last,h,_=>⟨by simp;omega,fun t ht=>by cases ht⟩
 |n,x::l,last,h,e=>by
  simp only[termsOk,insideB,Bool.and_eq_true,decide_eq_true_eq]at e;obtain⟨⟨⟨⟨e1,e2⟩,e3⟩,e4,e5⟩,e6⟩:=e;obtain⟨g1,g2⟩:=termsOk_mem n l x.cell (by omega) e6;refine⟨by simp;omega,fun t ht=>?_⟩;rcases List.mem_cons.mp ht with rfl|ht
  ·exact⟨by omega,e1,e2,e3,e4,e5⟩
  ·obtain⟨q1,q2,q3⟩:=g2 t ht;exact⟨q1,by omega,q3⟩
theorem mul_bd {f v:Int} (h1: -1000≤f) (h2:f≤1000) (h3: -1000000≤v) (h4:v≤1000000): -1000000000≤f*v∧f*v≤1000000000:=by
 have a1:(f.natAbs:Int)≤1000:=by omega
 have a2:(v.natAbs:Int)≤1000000:=by omega
 have a3:f.natAbs*v.natAbs≤1000*1000000:=Nat.mul_le_mul (by omega) (by omega);have a4:(f*v).natAbs=f.natAbs*v.natAbs:=Int.natAbs_mul f v;omega
theorem rgOk_bd {r:Rg} (h:rgOk r=true): -1000000≤r.lo∧r.lo≤1000000∧ -1000000≤r.hi∧r.hi≤1000000:=by
 simp only[rgOk,insideB,Bool.and_eq_true,decide_eq_true_eq]at h;omega
theorem boxOk_at {b:List Rg} (h:boxOk b=true) (k:Nat):rgOk (b.getD k zr)=true:=by
 simp only[boxOk,Bool.and_eq_true]at h;by_cases hk:k<b.length
 ·exact List.all_eq_true.mp h.1 _ (Pur.getD_mem hk)
 ·rw[List.getD,List.getElem?_eq_none (by omega)];rfl
theorem endN_bd {b:List Rg} {t:Tm} (hb:boxOk b=true) (h1: -1000≤t.fac) (h2:t.fac≤1000): -1000000000≤endN b t∧endN b t≤1000000000:=by
 have:=rgOk_bd (boxOk_at hb t.cell.toNat);unfold endN;split
 ·exact mul_bd h1 h2 (by omega) (by omega)
 ·exact mul_bd h1 h2 (by omega) (by omega)
theorem loSum_bd {b:List Rg} (hb:boxOk b=true) (c:Int):∀(l:List Tm),(∀t∈l,-1000≤t.fac∧t.fac≤1000)→ -(1000000000*(l.length:Int))≤loSum b c l∧loSum b c l≤1000000000*(l.length:Int)
 |[],_=>by simp[loSum]
 |t::r,h=>by
  obtain⟨g1,g2⟩:=loSum_bd hb c r fun x hx=>h x (by simp[hx])
  obtain⟨q1,q2⟩:=h t (by simp);have:=endN_bd (t:=t) hb q1 q2;simp only[loSum,List.length_cons,Int.natCast_add,Int.natCast_one];split<;>omega
theorem loSum_append (b:List Rg) (c:Int):∀(l m:List Tm),loSum b c (l++m)=loSum b c l+loSum b c m
 |[],m=>by simp[loSum]
 |t::r,m=>by rw[List.cons_append,loSum,loSum,loSum_append b c r m];omega
theorem facOf_idx (c:Int):∀(l:List Tm),(idxN (fun t=>decide (t.cell=c)) l<0∧∀t∈l,t.cell≠c)∨(∃k:Nat,idxN (fun t=>decide (t.cell=c)) l=k∧k<l.length∧facOf c l=(l.getD k zm).fac)
 |[]=>.inl ⟨by simp[idxN],fun t ht=>by cases ht⟩
 |t::r=>by
  by_cases h:t.cell=c
  ·exact .inr ⟨0,by simp[idxN,List.findIdx?_cons,h],by simp,by simp[facOf,h]⟩
  ·have e:idxN (fun t=>decide (t.cell=c)) (t::r)=match r.findIdx? (fun t=>decide (t.cell=c)) with|some i=>(i:Int)+1|none=> -1:=by
    rw[idxN,List.findIdx?_cons];simp only[h,decide_false,Bool.false_eq_true,if_false];cases r.findIdx? (fun t=>decide (t.cell=c))<;>simp
   rcases facOf_idx c r with⟨h1,h2⟩|⟨k,h1,h2,h3⟩
   ·refine .inl ⟨?_,fun x hx=>?_⟩
    ·rw[e];unfold idxN at h1;split at h1
     ·omega
     ·rename_i hn;rw[hn];simp
    ·rcases List.mem_cons.mp hx with rfl|hx
     ·exact h
     ·exact h2 x hx
   ·refine .inr ⟨k+1,?_,by simp;omega,?_⟩
    ·rw[e];unfold idxN at h1;split at h1
     ·rename_i i hi;rw[hi];simp only;omega
     ·omega
    ·rw[facOf,if_neg h,h3];simp
theorem facOf_none (c:Int):∀(l:List Tm),(∀t∈l,t.cell≠c)→facOf c l=0
 |[],_=>rfl
 |t::r,h=>by rw[facOf,if_neg (h t (by simp)),facOf_none c r fun x hx=>h x (by simp[hx])]
theorem ivOk_one {b:List Rg} {r:Rw} (h:ivOk b [r]=true):boxOk b=true∧b.length≤128∧r.terms.length≤128∧ -1000000000≤r.bound∧r.bound≤1000000000∧∀t∈r.terms,0≤t.cell∧t.cell<b.length∧t.fac≠0∧ -1000≤t.fac∧t.fac≤1000:=by
 simp only[ivOk,List.all_cons,List.all_nil,Bool.and_true,Bool.and_eq_true,rowOk,insideB,decide_eq_true_eq]at h;obtain⟨h1,h2,h3,h4⟩:=h;obtain⟨g1,g2⟩:=termsOk_mem _ _ _ (by omega) h2;have hb:=h1;simp only[boxOk,Bool.and_eq_true,decide_eq_true_eq]at hb;refine⟨h1,hb.2,by omega,h3,h4,fun t ht=>?_⟩;obtain⟨q1,q2,q3⟩:=g2 t ht;exact⟨q1,q3⟩
theorem down_eq (a f:Int) (hf:0<f):a / f=if Int.tmod a f<0 then Int.tdiv a f-1 else Int.tdiv a f:=by
 rw[Int.tdiv_eq_ediv,Int.tmod_eq_emod];have h1:=Int.emod_nonneg a (show f≠0 by omega);have h2:=Int.emod_lt_of_pos a hf;have h3:f.sign=1:=Int.sign_eq_one_of_pos hf;have h4:(f.natAbs:Int)=f:=by omega
 by_cases h:0≤a∨f ∣ a
 ·simp[h];omega
 ·simp[h,h3,h4];omega
end Rf
namespace Pur
open Go.RowKit
attribute [local go_sem] evOps evOp evOpV evRun evK argF List.map hintAt stripped get put tmpsOf tmpOf tmpO tmpL tmpP conds ev cond_true cond_false Nat.beq Nat.ble Nat.add quiet After thenR blockR IfD List.append_eq List.nil_append List.cons_append evInt exactI_a exactI_b exactI_c exactI_d exactI_e exactI_f evBin evStr evBool evUn guardC calm quiet.isCallK evPick List.getElem?_cons_zero List.getElem?_cons_succ fromCells fromPVs cellsOf List.all oneCell List.length_cons List.length_nil mkAgg plains List.drop List.take List.getD Option.getD_some bo1 bo2 ba1 ba2 bn1 bn2 kk_i64 kk_u8 kk_i32 kk_u64 setAt List.set Nat.reduceAdd Nat.reduceMul evCall safeCall refsOf refsIn scalarA scalar scalarL thawL mapAll thawArg thawRef after freeze RetD RetE evResult evRess evRes1 thaw_pv mkTup nilOf_a nilOf_b nilOf_bb nilOf_c nilOf_d nilOf_e nilOf_f nilOf_g nilOf_h nilOf_i nilOf_j nilOf_k nilOf_l nilOf_m eqLeaf_a eqLeaf_b eqLeaf_c eqOffs evMM bytesOf evOpsF AfterF footOf footRefs notIn indepF footAt freeOk still evParts fillA zeros intOfA boundA srcOf List.isEmpty appNil_0 appNil_1 appNil_2 Int.reduceToNat Nat.mul_one Nat.reduceSub evC evOpsT evOpsTF autoH tabHint look hintD strip guarded RetPD RetRD mpLen keysOk leafKA leafK bitI nilOf_n nilOf_o Bool.or_false Bool.or_true Bool.and_true Bool.and_false Nat.blt renF renM renB renV idxOf solF solM solA solV thawRef ev1
open Rf
theorem ite_max (a b:Int):(if a<b then b else a)=max a b:=by split<;>omega
theorem ite_min (a b:Int):(if b<a then b else a)=min a b:=by split<;>omega
theorem meet_ok (x y:Rg):PureOK ctx 79 [.agg [.int .i64 x.lo,.int .i64 x.hi],.agg [.int .i64 y.lo,.int .i64 y.hi]] (.agg [.int .i64 (max x.lo y.lo),.int .i64 (min x.hi y.hi)]):=by
 refine pure_body' (C:=ctx) (Fn.of fn79 rfl) rfl ?_;unfold c79;repeat' (first
  |((with_reducible first|show VCs _|show All _);simp[vb]<;>omega)
  |exact(rfl:some _=_)
  |(
   fail_if_success refine awL ?_
   refine evA ?_;repeat1' dsimp only[c79,go_sem]
   first
   |refine aw4 ?_ ?_ rfl ?_
   |apply aw3
   |apply aw2
   |(refine awB (fun hc=>?_) fun hc=>?_<;>first|(cases hc;done)|(exfalso;simp at hc<;>omega)|(try simp only[bn]at hc;try contradiction))
   |skip))
 rw[ite_max,ite_min]
theorem floor_ok (a f:Int) (hf:0<f) (h1: -1000000000000≤a) (h2:a≤1000000000000) (h3:f≤1000000000000):PureOK ctx 150 [.int .i64 a,.int .i64 f] (.int .i64 (a / f)):=by
 have hd:(a.tmod f<0∧a / f=a.tdiv f-1)∨(0≤a.tmod f∧a / f=a.tdiv f):=by
  rw[down_eq a f hf];split<;>omega
 have g2:=Int.tmod_lt_of_pos a hf;have g3:=Int.lt_tmod_of_pos a hf;have g4:(a.tdiv f).natAbs≤a.natAbs:=Int.natAbs_tdiv_le_natAbs a f;have g5:a<0→a.tmod f≤0:=fun h=>by
  have:=Int.tmod_nonneg f (show 0≤ -a by omega);rw[Int.neg_tmod]at this;omega
 have g6:0≤a→0≤a.tmod f:=fun h=>Int.tmod_nonneg f h
 have hw:IntKind.i64.wrap (a.tdiv f)=a.tdiv f:=wrap64_id (by unfold minI;omega) (by unfold maxI;omega);generalize a / f=q at *;refine pure_body' (C:=ctx) (Fn.of fn150 rfl) rfl ?_;unfold c150;repeat' (first
  |((with_reducible show VCs _);first|exact True.intro|(simp only[vb,lb];omega)|(simp[vb]<;>omega))
  |((with_reducible show All _);first|exact True.intro|((try dsimp only[go_sem]);first|(simp[vb]<;>omega)|(simp only[vb,and_true,true_implies];(repeat' (first|(with_reducible assumption)|(with_reducible apply And.intro)|intro _|((fail_if_success (with_reducible show(_:Int)≤_));assumption)))<;>first|omega|rfl|(simp only[ab];done)|(simp[Nat.mul_one]<;>omega)|(simp_all;done))))
  |exact(rfl:some _=_)
  |(
   fail_if_success refine awL ?_
   refine evH [(8,{mode:=1}),(11,{mode:=1})] ?_;repeat1' dsimp only[c150,go_sem]
   first
   |refine aw4 ?_ ?_ rfl ?_
   |apply aw3
   |apply aw2
   |(refine awB (fun hc=>?_) fun hc=>?_<;>first|(cases hc;done)|(exfalso;first|(simp at hc<;>omega))|(try simp only[bn]at hc;try contradiction))
   |skip))
 all_goals
  refine congrArg (fun x=>some (PV.int .i64 x)) ?_;simp only[show decide (f<0)=false from by simp;omega,decide_eq_false_iff_not]at hc;omega
theorem box_take (b:List Rg) (c:Int) (h1:0≤c) (h2:c<b.length):((b.flatMap rgC).drop (c.toNat*2)).take 2=[.int .i64 (b.getD c.toNat zr).lo,.int .i64 (b.getD c.toNat zr).hi] :=
 fm_take rgC_len b c.toNat zr (by omega)
set_option maxHeartbeats 4000000 in
theorem bound_ok (b:List Rg) (r:Rw) (c:Int) (hv:ivOk b [r]=true):PureOK ctx 149 [.agg [termsP r.terms,.int .i64 r.bound],boxP b,.int .i64 c,.int .i64 1] (.int .i64 (loSum b c r.terms)):=by
 obtain⟨v1,v2,v3,v4,v5,v6⟩:=ivOk_one hv;obtain⟨ts,bd⟩:=r;simp only at v3 v4 v5 v6 ⊢;clear hv;have f1:=terms_len ts;have f2:=box_len b;refine pure_body' (C:=ctx) (Fn.of fn149 rfl) rfl ?_;unfold c149;repeat' (first
  |((with_reducible first|show VCs _|show All _);simp[vb]<;>omega)
  |exact(rfl:some _=_)
  |(
   fail_if_success refine awL ?_
   refine evA ?_;repeat1' dsimp only[c149,termsP,boxP,go_sem]
   first
   |refine aw4 ?_ ?_ rfl ?_
   |apply aw3
   |apply aw2
   |(refine awB (fun hc=>?_) fun hc=>?_<;>first|(cases hc;done)|(exfalso;simp at hc<;>omega)|(try simp only[bn]at hc;try contradiction))
   |skip))
 refine aw_forJ ts.length (fun _=>True) (fun k=>[(1,.pv (boxP b)),(2,.pv (.int .i64 c)),(3,.pv (.int .i64 1)),(9,.pv (.int .i64 (loSum b c (ts.take k)))),(14,.pv (termsP ts)),(15,.pv (.int .i64 ts.length)),(16,.pv (.int .i64 k))]) (fun _=>[]) trivial (by (repeat' (first|exact trivial|refine And.intro (by first|rfl|(simp[get,Nat.beq,loSum];done)|(simp[get,Nat.beq,loSum];omega)|(dsimp only[get];congr 1<;>first|rfl|omega|(simp;done)|(simp;omega))) ?_))) ⟨_,rfl⟩ (fun _=>⟨Nat.zero_le _,rfl,rfl⟩) fun k hk _=>?_
 by_cases hlt:k<ts.length
 ·have e:=fm_take tmC_len ts k zm hlt;have h1:=loSum_append b c (ts.take k) [ts.getD k zm];rw[←take_succ_getD ts k zm hlt,loSum,loSum]at h1;have h2:=loSum_bd v1 c (ts.take k) fun t ht=>by have:=v6 t (List.mem_of_mem_take ht);omega
  rw[List.length_take]at h2;obtain⟨q1,q2,q3,q4,q5⟩:=v6 _ (getD_mem (d:=zm) hlt);have h3:=endN_bd (t:=ts.getD k zm) v1 q4 q5;unfold endN at h1 h3;rw[h1];clear h1 v6;generalize ts.getD k zm=x at *;have e2:=box_take b x.cell q1 q2;generalize b.getD x.cell.toNat zr=y at *;generalize loSum b c (ts.take k)=sm at *;by_cases hc:x.cell=c
  ·repeat' (first
    |((with_reducible show VCs _);first|exact True.intro|(simp only[vb,lb];omega)|(simp only[vb,lb,e,e2,f1,f2,hlt,q1,q2,tmC,hc];and_intros<;>first|omega|(simp<;>omega))|(simp[vb,e,e2,f1,f2,hlt,q1,q2,tmC,hc]<;>omega))
    |((with_reducible show All _);first|exact True.intro|((try dsimp only[go_sem]);first|(simp[vb,e,e2,f1,f2,hlt,q1,q2,tmC,hc]<;>omega)|(simp only[vb,and_true,true_implies];(repeat' (first|(with_reducible assumption)|(with_reducible apply And.intro)|intro _|((fail_if_success (with_reducible show(_:Int)≤_));assumption)))<;>first|omega|rfl|(simp only[ab,e,e2,f1,f2,hlt,q1,q2,tmC,hc];done)|(simp[Nat.mul_one,e,e2,f1,f2,hlt,q1,q2,tmC,hc]<;>omega)|(simp_all;done))))
    |exact(rfl:some _=_)
    |(
     fail_if_success refine awL ?_
     refine evH [(19,{val:=some (.pv (.agg [.int .i64 x.cell,.int .i64 x.fac]))}),(24,{val:=some (.pv (.agg [.int .i64 y.lo,.int .i64 y.hi]))}),(36,{val:=some (.pv (.bool true))})] ?_;repeat1' dsimp only[c149,termsP,boxP,go_sem]
     first
     |refine aw4 ?_ ?_ rfl ?_
     |apply aw3
     |apply aw2
     |(refine awB (fun hc=>?_) fun hc=>?_<;>first|(cases hc;done)|(exfalso;first|(simp at hc<;>omega)|(simp[e,e2,f1,f2,hlt,q1,q2,tmC,hc]at hc;done))|(try simp only[bn]at hc;try contradiction))
     |skip))
   refine⟨hlt,trivial,by simp[hc];(repeat' (first|exact trivial|refine And.intro (by first|rfl|(simp[get,Nat.beq];done)|(simp[get,Nat.beq];omega)|(dsimp only[get];congr 1<;>first|rfl|omega|(simp;done)|(simp;omega))) ?_)),_,rfl⟩
  ·by_cases hf:0<x.fac
   ·simp only[hf,if_true]at h3;repeat' (first
     |((with_reducible show VCs _);first|exact True.intro|(simp only[vb,lb];omega)|(simp only[vb,lb,e,e2,f1,f2,hlt,q1,q2,tmC,hc,hf];and_intros<;>first|omega|(simp<;>omega))|(simp[vb,e,e2,f1,f2,hlt,q1,q2,tmC,hc,hf]<;>omega))
     |((with_reducible show All _);first|exact True.intro|((try dsimp only[go_sem]);first|(simp[vb,e,e2,f1,f2,hlt,q1,q2,tmC,hc,hf]<;>omega)|(simp only[vb,and_true,true_implies];(repeat' (first|(with_reducible assumption)|(with_reducible apply And.intro)|intro _|((fail_if_success (with_reducible show(_:Int)≤_));assumption)))<;>first|omega|rfl|(simp only[ab,e,e2,f1,f2,hlt,q1,q2,tmC,hc,hf];done)|(simp[Nat.mul_one,e,e2,f1,f2,hlt,q1,q2,tmC,hc,hf]<;>omega)|(simp_all;done))))
     |exact(rfl:some _=_)
     |(
      fail_if_success refine awL ?_
      refine evH [(19,{val:=some (.pv (.agg [.int .i64 x.cell,.int .i64 x.fac]))}),(24,{val:=some (.pv (.agg [.int .i64 y.lo,.int .i64 y.hi]))}),(36,{val:=some (.pv (.bool false))}),(42,{val:=some (.pv (.bool true))})] ?_;repeat1' dsimp only[c149,termsP,boxP,go_sem]
      first
      |refine aw4 ?_ ?_ rfl ?_
      |apply aw3
      |apply aw2
      |(refine awB (fun hc=>?_) fun hc=>?_<;>first|(cases hc;done)|(exfalso;first|(simp at hc<;>omega)|(simp[e,e2,f1,f2,hlt,q1,q2,tmC,hc,hf]at hc;done))|(try simp only[bn]at hc;try contradiction))
      |skip))
    refine⟨hlt,trivial,by simp[hc,hf];(repeat' (first|exact trivial|refine And.intro (by first|rfl|(simp[get,Nat.beq];done)|(simp[get,Nat.beq];omega)|(dsimp only[get];congr 1<;>first|rfl|omega|(simp;done)|(simp;omega))) ?_)),_,rfl⟩
   ·simp only[hf,if_false]at h3;repeat' (first
     |((with_reducible show VCs _);first|exact True.intro|(simp only[vb,lb];omega)|(simp only[vb,lb,e,e2,f1,f2,hlt,q1,q2,tmC,hc,hf];and_intros<;>first|omega|(simp<;>omega))|(simp[vb,e,e2,f1,f2,hlt,q1,q2,tmC,hc,hf]<;>omega))
     |((with_reducible show All _);first|exact True.intro|((try dsimp only[go_sem]);first|(simp[vb,e,e2,f1,f2,hlt,q1,q2,tmC,hc,hf]<;>omega)|(simp only[vb,and_true,true_implies];(repeat' (first|(with_reducible assumption)|(with_reducible apply And.intro)|intro _|((fail_if_success (with_reducible show(_:Int)≤_));assumption)))<;>first|omega|rfl|(simp only[ab,e,e2,f1,f2,hlt,q1,q2,tmC,hc,hf];done)|(simp[Nat.mul_one,e,e2,f1,f2,hlt,q1,q2,tmC,hc,hf]<;>omega)|(simp_all;done))))
     |exact(rfl:some _=_)
     |(
      fail_if_success refine awL ?_
      refine evH [(19,{val:=some (.pv (.agg [.int .i64 x.cell,.int .i64 x.fac]))}),(24,{val:=some (.pv (.agg [.int .i64 y.lo,.int .i64 y.hi]))}),(36,{val:=some (.pv (.bool false))}),(42,{val:=some (.pv (.bool false))})] ?_;repeat1' dsimp only[c149,termsP,boxP,go_sem]
      first
      |refine aw4 ?_ ?_ rfl ?_
      |apply aw3
      |apply aw2
      |(refine awB (fun hc=>?_) fun hc=>?_<;>first|(cases hc;done)|(exfalso;first|(simp at hc<;>omega)|(simp[e,e2,f1,f2,hlt,q1,q2,tmC,hc,hf]at hc;done))|(try simp only[bn]at hc;try contradiction))
      |skip))
    refine⟨hlt,trivial,by simp[hc,hf];(repeat' (first|exact trivial|refine And.intro (by first|rfl|(simp[get,Nat.beq];done)|(simp[get,Nat.beq];omega)|(dsimp only[get];congr 1<;>first|rfl|omega|(simp;done)|(simp;omega))) ?_)),_,rfl⟩
 ·obtain rfl:k=ts.length:=by omega
  rw[List.take_length];repeat' (first
   |((with_reducible first|show VCs _|show All _);simp[vb,hlt]<;>omega)
   |exact(rfl:some _=_)
   |(
    fail_if_success refine awL ?_
    refine evA ?_;repeat1' dsimp only[c149,termsP,boxP,go_sem]
    first
    |refine aw4 ?_ ?_ rfl ?_
    |apply aw3
    |apply aw2
    |(refine awB (fun hc=>?_) fun hc=>?_<;>first|(cases hc;done)|(exfalso;simp[hlt]at hc<;>omega)|(try simp only[bn]at hc;try contradiction))
    |skip))
end Pur
end
section
namespace Rf
def parseN (s:List UInt8):Tree×Int :=
 if s.length>65536 then (zt,8) else match treeF ((spC 10 s).length+1) 1 (spC 10 s) with
  |some (t,_)=>if Pur.formatN t=(s,0) then (t,0) else (zt,3)
  |none=>(zt,3)
theorem kidsG_wt {tf:List Ln→Option (Tree×List Ln)} (h:∀ls t r,tf ls=some (t,r)→wt t+r.length≤ls.length):∀(n:Nat) (ls:List Ln) (ts:List Tree) (r:List Ln),kidsG tf n ls=some (ts,r)→wts ts+r.length≤ls.length
 |0,ls,ts,r,e=>by injection e with e;injection e with e1 e;subst e e1;simp[wts]
 |n+1,ls,ts,r,e=>by
  rw[kidsG]at e;split at e
  ·rename_i t r1 h1;split at e
   ·rename_i ts' r2 h2;injection e with e
    injection e with e1 e
    subst e e1;have:=kidsG_wt h n r1 ts' r2 h2;have:=h _ _ _ h1;rw[wts];omega
   ·cases e
  ·cases e
theorem nodeF_wt:∀(f:Nat) (lev:Int) (S:List RStep) (ls:List Ln) (t:Tree) (r:List Ln),nodeF f lev S ls=some (t,r)→wt t+r.length≤S.length+ls.length
 |0,_,_,_,_,_,e=>by cases e
 |f+1,lev,S,ls,t,r,e=>by
  have ih:∀(S:List RStep) (ls:List Ln) (t:Tree) (r:List Ln),nodeF f lev S ls=some (t,r)→wt t+r.length≤S.length+ls.length:=fun S ls t r=>nodeF_wt f lev S ls t r
  have ihk:∀(ls:List Ln) (t:Tree) (r:List Ln),(if lev+1≤4096 then nodeF f (lev+1) [] ls else none)=some (t,r)→wt t+r.length≤ls.length:=fun ls t r h=>by
   split at h
   ·simpa using nodeF_wt f (lev+1) [] ls t r h
   ·cases h
  have one:∀(n:Nat) (x:Ln) (l:List Ln) (k c a:Int),(match kidsG (fun l=>if lev+1≤4096 then nodeF f (lev+1) [] l else none) n l with|some (ks,r')=>some (Tree.node k S c a ks,r')|none=>none)=some (t,r)→wt t+r.length≤S.length+(x::l).length:=fun n x l k c a h=>by
   split at h
   ·rename_i ks r' hk;injection h with h
    injection h with h1 h
    subst h h1;have:=kidsG_wt ihk _ _ _ _ hk;rw[wt_node,List.length_cons];omega
   ·cases h
  cases ls with
  |nil=>cases e
  |cons x l =>
   rw[nodeF]at e;split at e
   ·cases e
   ·rename_i w ns hl;split at e
    ·have:=ih _ _ _ _ e;simp at this ⊢;omega
    ·split at e
     ·have:=ih _ _ _ _ e;simp at this ⊢;omega
     ·split at e
      ·injection e with e
       injection e with e1 e
       subst e e1;rw[wt_node];simp[wts];omega
      ·split at e
       ·exact one _ _ _ _ _ _ e
       ·split at e
        ·exact one _ _ _ _ _ _ e
        ·cases e
end Rf
namespace Pur
open Go.RowKit
attribute [local go_sem] evOps evOp evOpV evRun evK argF List.map hintAt stripped get put tmpsOf tmpOf tmpO tmpL tmpP conds ev cond_true cond_false Nat.beq Nat.ble Nat.add quiet After thenR blockR IfD List.append_eq List.nil_append List.cons_append evInt exactI_a exactI_b exactI_c exactI_d exactI_e exactI_f evBin evStr evBool evUn guardC calm quiet.isCallK evPick List.getElem?_cons_zero List.getElem?_cons_succ fromCells fromPVs cellsOf List.all oneCell List.length_cons List.length_nil mkAgg plains List.drop List.take List.getD Option.getD_some bo1 bo2 ba1 ba2 bn1 bn2 kk_i64 kk_u8 kk_i32 kk_u64 setAt List.set Nat.reduceAdd Nat.reduceMul evCall safeCall refsOf refsIn scalarA scalar scalarL thawL mapAll thawArg thawRef after freeze RetD RetE evResult evRess evRes1 thaw_pv mkTup nilOf_a nilOf_b nilOf_bb nilOf_c nilOf_d nilOf_e nilOf_f nilOf_g nilOf_h nilOf_i nilOf_j nilOf_k nilOf_l nilOf_m eqLeaf_a eqLeaf_b eqLeaf_c eqOffs evMM bytesOf evOpsF AfterF footOf footRefs notIn indepF footAt freeOk still evParts fillA zeros intOfA boundA srcOf List.isEmpty appNil_0 appNil_1 appNil_2 Int.reduceToNat Nat.mul_one Nat.reduceSub evC evOpsT evOpsTF autoH tabHint look hintD strip guarded RetPD RetRD mpLen keysOk leafKA leafK bitI nilOf_n nilOf_o Bool.or_false Bool.or_true Bool.and_true Bool.and_false Nat.blt renF renM renB renV idxOf solF solM solA solV thawRef ev1
open Rf
noncomputable def L28 (path:List Nat):Code:=subC (bodyOf Tryz.prog 28) path
def c28a:ACode:=(⟨_,by conv=>(lhs;reduce;try simp only[lt1,Int.cast_ofNat_Int,Int.reduceNegSucc,UInt8.reduceOfNat])⟩:{x // comp Tryz.prog no 35 (L28 [0])=some x}).1
def c28b:ACode:=(⟨_,by conv=>(lhs;reduce;try simp only[lt1,Int.cast_ofNat_Int,Int.reduceNegSucc,UInt8.reduceOfNat])⟩:{x // comp Tryz.prog no 35 (L28 [1,0])=some x}).1
def c28d:ACode:=(⟨_,by conv=>(lhs;reduce;try simp only[lt1,Int.cast_ofNat_Int,Int.reduceNegSucc,UInt8.reduceOfNat])⟩:{x // comp Tryz.prog no 35 (L28 [1,1,1])=some x}).1
theorem comp28a:comp Tryz.prog no 35 (L28 [0])=some c28a:=by kernel_rfl
theorem comp28b:comp Tryz.prog no 35 (L28 [1,0])=some c28b:=by kernel_rfl
theorem comp28d:comp Tryz.prog no 35 (L28 [1,1,1])=some c28d:=by kernel_rfl
theorem PureOK.atD {C:Ctx} {g:FuncId} {ps:List PV} {r:PV} (h:PureOK C g ps r) (D:List Deferred):PureOK {C with D:=D} g ps r:=h
theorem PanOK.atD {C:Ctx} {g:FuncId} {al:List AV} {μ:AM} {c:List PanicEntry} {Q:AM→Prop} (h:PanOK C g al μ c Q) (D:List Deferred):PanOK {C with D:=D} g al μ c Q :=
 ⟨h.1,fun w0 S γ w vs hW hp=>(h.2 w0 S γ w vs ⟨hW.mem,hW.below,hW.live,hW.env⟩ hp).mono fun e w' ⟨S',γ',μ',h1,h2,h3,h4⟩=>⟨S',γ',μ',h1,h2,⟨h3.mem,h3.below,h3.live,h3.env⟩,h4⟩⟩
def slots:AF:=[(2,.ptr 0 0 0),(3,.ptr 1 0 0)]
def mainR (s:List UInt8):Exit→AF→AM→Prop:=fun e f μ=>match e with
 | .ret=>Sub slots f∧(parseN s).2=0∧∃junk,μ=[treeB (parseN s).1,errB 0]++junk
 | .panic c=>c=wrongE∧parseN s=(zt,3)∧Sub slots f∧∃a b c d e n junk,μ=[tcB a b c d e,errB n]++junk
 |_=>False
theorem main_aw (D:List Deferred) (s:List UInt8) (hs:s.length≤65536):Aw {ctx with D:=D} no 35 2 c28d (mainR s) [(0,.pv (.str s)),(2,.ptr 0 0 0),(3,.ptr 1 0 0)] [zeroTB,errB 0]:=by
 have hsp:=PureOK.atD (split_ok 10 s (by omega)) D;obtain⟨hb1,hb2⟩:=spC_bound 10 s;have hct:=tree_ct ((spC 10 s).length+1) 1 (spC 10 s) [] (by omega) (by omega) (by omega) (by omega) fun x hx=>by have:=hb2 x hx;omega
 have hwt:=fun t r h=>nodeF_wt ((spC 10 s).length+1) 1 [] (spC 10 s) t r h
 have hP:parseN s=match treeF ((spC 10 s).length+1) 1 (spC 10 s) with
  |some (t,_)=>if formatN t=(s,0) then (t,0) else (zt,3)
  |none=>(zt,3):=by unfold parseN;rw[if_neg (by omega)]
 unfold c28d;refine evT [(55,fun _=>some (wordsL (spC 10 s)))] ?_;dsimp only[zeroTB,errB,wordsL,go_sem];try dsimp only[zeroTB,errB,wordsL,go_sem]
 refine⟨(by simp[vb]<;>omega),?_,?_⟩
 ·exact⟨hsp,trivial⟩
 generalize hls:spC 10 s=ls at *;cases ht:treeF (ls.length+1) 1 ls with
 |none =>
  rw[ht]at hct hP;simp only at hP;have hp:=(PanOK.frame hct [2] [zeroTB,errB 0,readerB ls] (by simp) (by simp) ⟨rfl,trivial⟩ rfl (by simp[bnd,Nat.blt]) (by rintro _ ⟨r,rfl⟩;simp)).atD D;refine aw_seq ?_;refine aw_pan 3 true [] ?_;simp only[PanAt,List.take_succ_cons,List.take_zero,List.getElem?_cons_succ,List.getElem?_cons_zero,go_sem,panT];refine⟨by simp[VCs],by simp[VCs,All],wrongE,_,hp,?_⟩;rintro μ1 ⟨_,⟨r,rfl⟩,rfl⟩
  exact⟨rfl,hP,by (repeat' (first|exact trivial|refine And.intro (by first|rfl|(simp[get,Nat.beq,slots];done)|(simp[get,Nat.beq,slots];omega)|(dsimp only[get];congr 1<;>first|rfl|omega|(simp;done)|(simp;omega))) ?_)),_,_,_,_,_,_,[readerB r],rfl⟩
 |some p =>
  obtain⟨t,r⟩:=p;rw[ht]at hct hP;simp only at hP;have hw:wt t≤1000000000:=by
   have:nodeF (ls.length+1) 1 [] ls=some (t,r):=by
    rw[treeF,if_pos (by omega)]at ht;exact ht
   have:=hwt t r this;simp at this;omega
  have hp:=(RefOK.frame hct [2] [zeroTB,errB 0,readerB ls] (by simp) (by simp) ⟨rfl,trivial⟩ rfl (by simp[bnd,Nat.blt]) (by simp)).atD D;have hfo:=(format_ok t hw).atD D;generalize hF:formatN t=F at *;obtain⟨F,n⟩:=F;simp only at hfo;refine evH [(19,{val:=some (.pv (treeP t)),mem:=some [zeroTB,errB 0,readerB r]})] ?_;dsimp only[zeroTB,errB,treeP,go_sem];try dsimp only[zeroTB,errB,treeP,go_sem]
  refine⟨(by simp[vb]<;>omega),?_,?_⟩
  ·exact⟨hp,trivial⟩
  refine evT [(26,fun _=>some (.tup [.str F,.int .i64 n]))] ?_;dsimp only[zeroTB,errB,treeP,go_sem];try dsimp only[zeroTB,errB,treeP,go_sem]
  refine⟨(by simp[vb]<;>omega),?_,?_⟩
  ·exact⟨hfo,trivial⟩
  refine evA ?_;dsimp only[go_sem];try dsimp only[go_sem]
  refine⟨(by simp[vb]<;>omega),(by simp[vb]<;>omega),?_⟩;refine evA ?_;dsimp only[go_sem];refine⟨fun hc=>?_,fun hc=>?_⟩
  ·have hne:¬((F,n)=(s,(0:Int))):=by
    rintro h;injection h with h1 h2
    subst h1 h2;simp at hc
   rw[if_neg hne]at hP;refine aw_pan 2 true [] ?_;simp only[PanAt,List.take_succ_cons,List.take_zero,List.getElem?_cons_succ,List.getElem?_cons_zero,go_sem,panT];exact⟨trivial,trivial,rfl,hP,by (repeat' (first|exact trivial|refine And.intro (by first|rfl|(simp[get,Nat.beq,slots];done)|(simp[get,Nat.beq,slots];omega)|(dsimp only[get];congr 1<;>first|rfl|omega|(simp;done)|(simp;omega))) ?_)),_,_,_,_,_,_,[readerB r],rfl⟩
  ·have hq:(F,n)=(s,(0:Int)):=by
    by_cases hn:n=0
    ·subst hn;simp at hc;rw[hc]
    ·simp[hn]at hc
   rw[if_pos hq]at hP;refine evA ?_;dsimp only[go_sem];refine evA ?_;dsimp only[go_sem];try dsimp only[go_sem]
   refine⟨(by simp[vb]<;>omega),(by simp[vb]<;>omega),?_⟩;refine evA ?_;dsimp only[go_sem];refine⟨by (repeat' (first|exact trivial|refine And.intro (by first|rfl|(simp[get,Nat.beq,slots];done)|(simp[get,Nat.beq,slots];omega)|(dsimp only[get];congr 1<;>first|rfl|omega|(simp;done)|(simp;omega))) ?_)),by rw[hP],[readerB r],?_⟩;rw[hP];rfl
theorem head_aw (s:List UInt8):Aw ctx no 35 0 c28a (fun e f μ=>e= .normal∧Sub ((0,.pv (.str s))::slots) f∧μ=[zeroTB,errB 0]) [(0,.pv (.str s))] []:=by
 unfold c28a;refine evA ?_;dsimp only[go_sem];try dsimp only[go_sem]
 refine⟨(by simp[vb]<;>omega),(by simp[vb]<;>omega),?_⟩;exact⟨rfl,by (repeat' (first|exact trivial|refine And.intro (by first|rfl|(simp[get,Nat.beq,slots];done)|(simp[get,Nat.beq,slots];omega)|(dsimp only[get];congr 1<;>first|rfl|omega|(simp;done)|(simp;omega))) ?_)),rfl⟩
theorem len_aw (s:List UInt8) (hs:s.length≤4000000000):Aw ctx no 35 2 c28b (fun e f μ=>(e= .normal∧s.length≤65536∧Sub ((0,.pv (.str s))::slots) f∧μ=[zeroTB,errB 0])∨(e= .ret∧65536<s.length∧Sub slots f∧μ=[zeroTB,errB 8])) ((0,.pv (.str s))::slots) [zeroTB,errB 0]:=by
 unfold c28b slots;refine evA ?_;dsimp only[zeroTB,errB,go_sem];try dsimp only[zeroTB,errB,go_sem]
 refine⟨(by simp[vb]<;>omega),(by simp[vb]<;>omega),?_⟩;refine evA ?_;dsimp only[zeroTB,errB,go_sem];refine⟨fun hc=>?_,fun hc=>?_⟩
 ·simp at hc;refine evA ?_;dsimp only[zeroTB,errB,go_sem];try dsimp only[zeroTB,errB,go_sem]
  refine⟨(by simp[vb]<;>omega),(by simp[vb]<;>omega),?_⟩;refine evA ?_;dsimp only[zeroTB,errB,go_sem];exact .inr ⟨rfl,by omega,by (repeat' (first|exact trivial|refine And.intro (by first|rfl|(simp[get,Nat.beq,slots];done)|(simp[get,Nat.beq,slots];omega)|(dsimp only[get];congr 1<;>first|rfl|omega|(simp;done)|(simp;omega))) ?_)),rfl⟩
 ·simp at hc;refine evA ?_;dsimp only[zeroTB,errB,go_sem];exact .inl ⟨rfl,by omega,by (repeat' (first|exact trivial|refine And.intro (by first|rfl|(simp[get,Nat.beq,slots];done)|(simp[get,Nat.beq,slots];omega)|(dsimp only[get];congr 1<;>first|rfl|omega|(simp;done)|(simp;omega))) ?_)),rfl⟩
theorem ExtM.lower {m:Nat} {w w':World} {S S':Nat→Prop} {γ γ':Gh} (h:ExtM m w S γ w' S' γ'):ExtM 0 w S γ w' S' γ':=⟨h.stay,fun b e hb=>absurd hb (by omega),h.more,h.cbs,h.size,h.frame⟩
theorem ExtM.low {w w':World} {S S':Nat→Prop} {γ γ' γ'':Gh} (h:ExtM 0 w S γ w' S' γ') (hs:∀b e,γ'' b=some e→γ' b=some e):ExtM 0 w S γ w' S' γ'':=⟨h.stay,fun b e hb=>absurd hb (by omega),h.more,fun b e hb=>h.cbs b e (hs b e hb),h.size,h.frame⟩
theorem zero_weak (tl:AM):MW (zeroTB::tl) (treeB zt::tl) :=
 PW.cons ⟨PW.cons (CW.refl _) (PW.cons CW.nil (PW.cons (CW.refl _) (PW.cons (CW.refl _) (PW.cons CW.nil PW.nil)))),rfl,rfl,rfl,rfl⟩ (MW.refl tl)
theorem parse_end {w w':World} {S S':Nat→Prop} {γ':Gh} {a':Act} {μ:AM} {f:AF} (t:Tree) (n:Int) (hE:ExtM 0 w S (fun _=>none) w' S' γ') (hW:Wd ctx w S' γ' μ w') (hF:FR [] 35 w' S' γ' f a') (hs:Sub slots f) (hm:∃junk,μ=[treeB t,errB n]++junk) :
  ∃u,(results Tryz.f28 a'.tmps).run Tryz.prog w'= .ok u w'∧∃v,Ending.returned u= .returned v∧Below w.heap.size w w'∧Is w' (fun g=>S g∨(w.heap.size≤g∧g<w'.heap.size)) (.tup [treeP t,.int .i64 n]) v:=by
 obtain⟨h2,h3,-⟩:=hs;obtain⟨junk,rfl⟩:=hm;have he:RetE (.pv (.tup [treeP t,.int .i64 n])) (evResult f ([treeB t,errB n]++junk) [.cell 2 5 true,.cell 3 1 false]):=by
  simp only[RetE,evResult,go_sem,h2,h3,treeB,errB,List.cons_append,List.nil_append];exact⟨by simp[VCs],rfl⟩
 unfold RetE at he;split at he
 ·rename_i vc v e1;obtain⟨e2,rfl⟩:=he;obtain⟨u,hu,hv⟩:=run_result (fn:=Tryz.f28) hW (hF:FR ctx.D 35 w' S' γ' f a') (by kernel_rfl) e1 e2;refine⟨u,hu,u,rfl,hW.below,(thaw_is hW depth (p:=.tup [treeP t,.int .i64 n]) rfl hv).stay ⟨fun g hg=>?_,fun _ _=>rfl⟩⟩;rcases hg with hg|⟨b,e,he,rfl⟩
  ·rcases hE.more g hg with h|⟨b,e,h,-⟩|h
   ·exact .inl h
   ·cases h
   ·exact .inr ⟨h,hW.live g hg⟩
  ·rcases hE.cbs b e he with⟨b0,e0,h,-⟩|h
   ·cases h
   ·exact .inr ⟨h,hW.cb_lt he⟩
 ·exact he.elim
set_option maxHeartbeats 1000000 in
theorem parse_ok (s:List UInt8) (hs:s.length≤4000000000):PureOK ctx 28 [.str s] (.tup [treeP (parseN s).1,.int .i64 (parseN s).2]):=by
 refine⟨by kernel_rfl,fun w S us hE hS hp=>?_⟩;have hW:Wd ctx w S (fun _=>none) [] w:=⟨⟨fun b k hk=>by simp at hk,fun b k hk=>by simp at hk,fun _ _=>rfl,fun b b' e e' h=>by cases h⟩,Below.refl _ _,hS,hE⟩
 have hpv:PW (VR w S (fun _=>none)) ([PV.str s].map .pv) us:=PW.map_pv hp;have hus:us.length≤35:=by rw[←hp.len];simp
 refine calls_of_wp_defers Tryz.func28 rfl (wp_seq ?_);refine wp_mono (head_aw s _ comp28a w S (fun _=>none) w _ hW (entry_fr (fn:=Tryz.f28) hpv hus)) fun e1 a1 w1 hh=>?_
 obtain⟨S1,γ1,f1,μ1,x1,x2,x3,rfl,hs1,rfl⟩:=hh;refine wp_seq ?_;refine wp_mono (aw_frame _ hs1 (len_aw s hs) _ comp28b w S1 γ1 w1 a1 x2 x3) fun e2 a2 w2 hh=>?_
 obtain⟨S2,γ2,f2,μ2,y1,y2,y3,hy⟩:=hh;rcases hy with⟨rfl,hlen,hs2,rfl⟩|⟨rfl,hlen,hs2,rfl⟩
 ·show Code.wp Tryz.prog _ _ _ _;have hmf:∀(fn:Go.Fn) (first cap:Array Value) (w:World),(Instr.makeFunc fn first cap).run Tryz.prog w= .ok (.func fn first cap) w:=fun _ _ _ _=>rfl
  obtain⟨tm,df⟩:=a2;have hsz:tm.size=35:=y3.size;obtain rfl:df=[]:=y3.defers;iterate 9 (go_step<;>try go_simp)
  obtain⟨h0,h2,h3,-⟩:=hs2;have v0:=y3.val 0;have v2:=y3.val 2;have v3:=y3.val 3;rw[h0]at v0;rw[h2]at v2;rw[h3]at v3;have hE12:=x1.trans y1.lower;have hc54:callable ctx.P 54=true:=by kernel_rfl
  generalize hD:([{target:=Target.fn (Go.Fn.func 54) #[tm[2],tm[3]],args:=#[]}]:List Deferred)=D;refine wp_mono (main_aw D s hlen _ comp28d w S2 γ2 w2 _ ⟨y2.mem,y2.below,y2.live,y2.env⟩ ⟨by simp[hsz],rfl,fun t=>?_⟩) fun e3 a3 w3 hh=>?_
  ·match t with
   |0=>simpa [Act.eval,get,Nat.beq]using v0
   |1=>exact .any _
   |2=>simpa [Act.eval,get,Nat.beq]using v2
   |3=>simpa [Act.eval,get,Nat.beq]using v3
   |t+4=>exact .any _
  obtain⟨S3,γ3,f3,μ3,z1,z2,z3,z4⟩:=hh;have w2':VR w2 S2 γ2 (.ptr 0 0 0) tm[2]:=by simpa [Act.eval,hsz]using v2
  have w3':VR w2 S2 γ2 (.ptr 1 0 0) tm[3]:=by simpa [Act.eval,hsz]using v3
  have hE3:Ext w2 S2 γ2 w3 S3 γ3:=⟨z1.stay,fun b e hb=>z1.gh b e (Nat.lt_of_not_le fun h=>by rw[y2.mem.none b (by simpa using h)]at hb;cases hb) hb,z1.more,z1.cbs,z1.size,z1.frame⟩
  cases e3 with
  |ret =>
   obtain⟨k1,k2,k3⟩:=z4;show Leaves _ _ _ _ a3.defers _ _;rw[show a3.defers=D from z3.defers,←hD];refine leaves_cons (f:=54) (args:=#[tm[2],tm[3]]) (by simp) (by simp[go_sem];exact run_callFunc hc54 _) ?_;refine(catch_idle _ _ w3).mono ?_;rintro e u' w'' ⟨rfl,rfl,rfl⟩;have:=parse_end (a':={a3 with defers:=[]}) (parseN s).1 0 (hE12.trans z1.lower) ⟨z2.mem,z2.below,z2.live,z2.env⟩ ⟨z3.size,rfl,z3.val⟩ k1 k3;rw[k2];exact this
  |panic c =>
   obtain⟨rfl,k1,k2,a,b,c,d,e,n,junk,rfl⟩:=z4;show Leaves _ _ _ _ a3.defers _ _;rw[show a3.defers=D from z3.defers,←hD];refine leaves_cons (f:=54) (args:=#[tm[2],tm[3]]) (by simp[wrongE]) (by simp[go_sem];exact run_callFunc hc54 _) ?_;have hγ:∀b,b<2→lowGh γ3 2 b=γ3 b:=fun b h=>by simp[lowGh,h]
   have hW3:Wd ctx w S3 γ3 ([tcB a b c d e,errB n]++junk) w3:=⟨z2.mem,z2.below,z2.live,z2.env⟩
   refine(catch_wrong _ _ a b c d e n (hW3.drop (by rfl)) (bnd_vr hγ 3 rfl (w2'.ext hE3)) (bnd_vr hγ 3 rfl (w3'.ext hE3))).mono ?_;rintro e u' w4 ⟨rfl,rfl,S4,γ4,junk4,j1,j2⟩;have:=parse_end (a':={a3 with defers:=[]}) (f:=slots) zt 3 (((hE12.trans z1.lower).low fun b e h=>?_).trans (j1.toM 0)) (j2.weak (zero_weak _)) ⟨z3.size,rfl,fun t=>?_⟩ (by (repeat' (first|exact trivial|refine And.intro (by first|rfl|(simp[get,Nat.beq,slots];done)|(simp[get,Nat.beq,slots];omega)|(dsimp only[get];congr 1<;>first|rfl|omega|(simp;done)|(simp;omega))) ?_))) ⟨_,rfl⟩
   ·rw[k1];exact this
   ·unfold lowGh at h;split at h
    ·exact h
    ·cases h
   ·obtain⟨q2,q3,-⟩:=k2;have u2:=z3.val 2;have u3:=z3.val 3;rw[q2]at u2;rw[q3]at u3;match t with
    |0=>exact .any _
    |1=>exact .any _
    |2=>exact(bnd_vr hγ 3 rfl u2).ext j1
    |3=>exact(bnd_vr hγ 3 rfl u3).ext j1
    |t+4=>exact .any _
  |_=>exact z4.elim
 ·show Leaves _ _ _ _ _ _ _;rw[show a2.defers=[] from y3.defers];obtain⟨u,hu,hR⟩:=parse_end (w:=w) (S:=S) (a':={a2 with defers:=[]}) zt 8 (x1.trans (ExtM.lower y1)) (y2.weak (zero_weak _)) ⟨y3.size,rfl,y3.val⟩ hs2 ⟨[],rfl⟩;refine⟨u,hu,?_⟩;have e:parseN s=(zt,8):=by unfold parseN;rw[if_pos (by omega)]
  rw[e];exact hR
end Pur
end
section
namespace Pur
open Go.RowKit
attribute [local go_sem] evOps evOp evOpV evRun evK argF List.map hintAt stripped get put tmpsOf tmpOf tmpO tmpL tmpP conds ev cond_true cond_false Nat.beq Nat.ble Nat.add quiet After thenR blockR IfD List.append_eq List.nil_append List.cons_append evInt exactI_a exactI_b exactI_c exactI_d exactI_e exactI_f evBin evStr evBool evUn guardC calm quiet.isCallK evPick List.getElem?_cons_zero List.getElem?_cons_succ fromCells fromPVs cellsOf List.all oneCell List.length_cons List.length_nil mkAgg plains List.drop List.take List.getD Option.getD_some bo1 bo2 ba1 ba2 bn1 bn2 kk_i64 kk_u8 kk_i32 kk_u64 setAt List.set Nat.reduceAdd Nat.reduceMul evCall safeCall refsOf refsIn scalarA scalar scalarL thawL mapAll thawArg thawRef after freeze RetD RetE evResult evRess evRes1 thaw_pv mkTup nilOf_a nilOf_b nilOf_bb nilOf_c nilOf_d nilOf_e nilOf_f nilOf_g nilOf_h nilOf_i nilOf_j nilOf_k nilOf_l nilOf_m eqLeaf_a eqLeaf_b eqLeaf_c eqOffs evMM bytesOf evOpsF AfterF footOf footRefs notIn indepF footAt freeOk still evParts fillA zeros intOfA boundA srcOf List.isEmpty appNil_0 appNil_1 appNil_2 Int.reduceToNat Nat.mul_one Nat.reduceSub evC evOpsT evOpsTF autoH tabHint look hintD strip guarded RetPD RetRD mpLen keysOk leafKA leafK bitI nilOf_n nilOf_o Bool.or_false Bool.or_true Bool.and_true Bool.and_false Nat.blt renF renM renB renV idxOf solF solM solA solV thawRef ev1
section
open Rf
theorem tight1_ok (x:Tm) (c:Int):RefOK ctx 148 [.pv (.agg [.int .i64 x.cell,.int .i64 x.fac]),.ptr 0 0 0] [⟨[.pv (.int .i64 c)],0,1,3,false⟩] (.pv (.bool (decide (x.cell=c)))) [⟨[.pv (.int .i64 c)],0,1,3,false⟩]:=by
 refine ref_body' (C:=ctx) (Fn.of fn148 rfl) rfl (by simp) rfl rfl ?_;unfold c148;repeat' (first
  |((with_reducible first|show VCs _|show All _);simp[vb]<;>omega)
  |exact(rfl:some _=_)
  |(
   fail_if_success refine awL ?_
   refine evA ?_;repeat1' dsimp only[c148,go_sem]
   first
   |refine aw4 ?_ ?_ rfl ?_
   |apply aw3
   |apply aw2
   |(refine awB (fun hc=>?_) fun hc=>?_<;>first|(cases hc;done)|(exfalso;simp at hc<;>omega)|(try simp only[bn]at hc;try contradiction))
   |skip))
 exact⟨⟨trivial,rfl⟩,_,rfl⟩
theorem term_get (ts:List Tm) (k:Nat) (hk:k<ts.length):(ts.flatMap tmC)[k*2+1]?.getD default= .int .i64 (ts.getD k zm).fac:=by
 rw[flatMap_get tmC_len ts k zm 1 hk (by omega)];rfl
set_option maxHeartbeats 8000000 in
theorem tighten0_ok (b:List Rg) (r:Rw) (c:Int) (hv:ivOk b [r]=true) (hc0:0≤c) (hc1:c<b.length):PureOK ctx 129 [.agg [termsP r.terms,.int .i64 r.bound],boxP b,.int .i64 c] (.agg [.int .i64 (tightN r b c).lo,.int .i64 (tightN r b c).hi]):=by
 obtain⟨v1,v2,v3,v4,v5,v6⟩:=ivOk_one hv;have hbd:=bound_ok b r c hv;have hsm:=loSum_bd v1 c r.terms fun t ht=>by have:=v6 t ht;omega
 have e:=box_take b c hc0 hc1;have hx:=rgOk_bd (boxOk_at v1 c.toNat);have f1:=terms_len r.terms;have f2:=box_len b;have hidx:=facOf_idx c r.terms;have hI:=fun (μ:AM) (hμ:okMem μ μ.length=true) (h1:1<μ.length) (hj:μ[1]?=some ⟨[.pv (.int .i64 c)],0,1,3,false⟩)=>idx147_ok 148 μ hμ 1 h1 r.terms (by omega) (fun t=>decide (t.cell=c)) fun x _=>(tight1_ok x c).at1 (ps:=[.int .i64 c]) rfl hj
 unfold tightN;obtain⟨ts,bd⟩:=r;simp only at *;generalize b.getD c.toNat zr=x at *;generalize loSum b c ts=sm at *;clear hv;rcases hidx with⟨h1,h2⟩|⟨k,h1,h2,h3⟩
 ·rw[facOf_none c ts h2];simp only[if_true];generalize idxN (fun t=>decide (t.cell=c)) ts=q at *;have hI:=hI [⟨[.pv (termsP ts),.pv (.int .i64 bd)],0,2,62,false⟩,⟨[.pv (.int .i64 c)],0,1,3,false⟩,⟨[.pv (.int .i64 0),.pv (.int .i64 0)],0,2,57,false⟩,⟨[.pv (.int .i64 x.lo),.pv (.int .i64 x.hi)],0,2,57,false⟩] rfl (by simp) rfl;refine pure_body' (C:=ctx) (Fn.of fn129 rfl) rfl ?_;unfold c129;repeat' (first
   |((with_reducible show VCs _);first|exact True.intro|(simp only[vb,lb];omega)|(simp only[vb,lb,e,f1,f2,hc0,hc1,hI,h1];and_intros<;>first|omega|(simp<;>omega))|(simp[vb,e,f1,f2,hc0,hc1,hI,h1]<;>omega))
   |((with_reducible show All _);first|exact True.intro|((try dsimp only[go_sem]);first|(simp[vb,e,f1,f2,hc0,hc1,hI,h1]<;>omega)|(simp only[vb,and_true,true_implies];(repeat' (first|(with_reducible assumption)|(with_reducible apply And.intro)|intro _|((fail_if_success (with_reducible show(_:Int)≤_));assumption)))<;>first|omega|rfl|(simp only[ab,e,f1,f2,hc0,hc1,hI,h1];done)|(simp[Nat.mul_one,e,f1,f2,hc0,hc1,hI,h1]<;>omega)|(simp_all;done))))
   |exact(rfl:some _=_)
   |(
    fail_if_success refine awL ?_
    refine evH [(14,{val:=some (.pv (.agg [.int .i64 x.lo,.int .i64 x.hi]))}),(18,{val:=some (.pv (.int .i64 q)),ro:=true})] ?_;repeat1' dsimp only[c129,termsP,boxP,go_sem]
    first
    |refine aw4 ?_ ?_ rfl ?_
    |apply aw3
    |apply aw2
    |(refine awB (fun hc=>?_) fun hc=>?_<;>first|(cases hc;done)|(exfalso;first|(simp at hc<;>omega)|(simp[e,f1,f2,hc0,hc1,hI,h1]at hc;done))|(try simp only[bn]at hc;try contradiction))
    |skip))
 ·have g:=v6 _ (getD_mem (d:=zm) h2);have hg:=term_get ts k h2;rw[h3];rw[h1]at hI;clear h1 h3;generalize ts.getD k zm=y at *;simp only[g.2.2.1,if_false];have hI:=hI [⟨[.pv (termsP ts),.pv (.int .i64 bd)],0,2,62,false⟩,⟨[.pv (.int .i64 c)],0,1,3,false⟩,⟨[.pv (.int .i64 0),.pv (.int .i64 0)],0,2,57,false⟩,⟨[.pv (.int .i64 x.lo),.pv (.int .i64 x.hi)],0,2,57,false⟩] rfl (by simp) rfl;by_cases hf:0<y.fac
  ·have hfl:=floor_ok (bd-sm) y.fac hf (by omega) (by omega) (by omega);simp only[hf,if_true];generalize (bd-sm) / y.fac=q at *;have hem:=empty_ok ⟨x.lo,if q<x.hi then q else x.hi⟩;simp only[emptyR]at hem;refine pure_body' (C:=ctx) (Fn.of fn129 rfl) rfl ?_;unfold c129;unfold termsP at hI hbd;unfold boxP at hbd;refine evTH [(149,fun _=>some (.int .i64 sm)),(150,fun _=>some (.int .i64 q))] [(14,{val:=some (.pv (.agg [.int .i64 x.lo,.int .i64 x.hi]))}),(18,{val:=some (.pv (.int .i64 k)),ro:=true}),(27,{val:=some (.pv (.int .i64 y.fac))})] ?_;dsimp only[termsP,boxP,go_sem]
   try dsimp only[termsP,boxP,go_sem]
   refine⟨(by simp[vb,e,f1,f2,hc0,hc1,hI,hg,h2,hbd,hfl,hf]<;>omega),(by simp[vb,e,f1,f2,hc0,hc1,hI,hg,h2,hbd,hfl,hf]<;>omega),?_⟩;refine evTH [(149,fun _=>some (.int .i64 sm)),(150,fun _=>some (.int .i64 q))] [(14,{val:=some (.pv (.agg [.int .i64 x.lo,.int .i64 x.hi]))}),(18,{val:=some (.pv (.int .i64 k)),ro:=true}),(27,{val:=some (.pv (.int .i64 y.fac))})] ?_;dsimp only[termsP,boxP,go_sem];try dsimp only[termsP,boxP,go_sem]
   refine⟨(by first|exact True.intro|(simp only[vb,lb];omega)|(simp only[vb,lb,e,f1,f2,hc0,hc1,hI,hg,h2,hbd,hfl,hf];and_intros<;>first|omega|(simp<;>omega))|(simp[vb,e,f1,f2,hc0,hc1,hI,hg,h2,hbd,hfl,hf]<;>omega)),(by first|exact True.intro|((try dsimp only[go_sem]);first|(simp[vb,e,f1,f2,hc0,hc1,hI,hg,h2,hbd,hfl,hf]<;>omega)|(simp only[vb,and_true,true_implies];(repeat' (first|(with_reducible assumption)|(with_reducible apply And.intro)|intro _|((fail_if_success (with_reducible show(_:Int)≤_));assumption)))<;>first|omega|rfl|(simp only[ab,e,f1,f2,hc0,hc1,hI,hg,h2,hbd,hfl,hf];done)|(simp[Nat.mul_one,e,f1,f2,hc0,hc1,hI,hg,h2,hbd,hfl,hf]<;>omega)|(simp_all;done)))),?_⟩
   refine evTH [(149,fun _=>some (.int .i64 sm)),(150,fun _=>some (.int .i64 q))] [(14,{val:=some (.pv (.agg [.int .i64 x.lo,.int .i64 x.hi]))}),(18,{val:=some (.pv (.int .i64 k)),ro:=true}),(27,{val:=some (.pv (.int .i64 y.fac))})] ?_;dsimp only[termsP,boxP,go_sem];try dsimp only[termsP,boxP,go_sem]
   refine⟨(by first|exact True.intro|(simp only[vb,lb];omega)|(simp only[vb,lb,e,f1,f2,hc0,hc1,hI,hg,h2,hbd,hfl,hf];and_intros<;>first|omega|(simp<;>omega))|(simp[vb,e,f1,f2,hc0,hc1,hI,hg,h2,hbd,hfl,hf]<;>omega)),(by first|exact True.intro|((try dsimp only[go_sem]);first|(simp[vb,e,f1,f2,hc0,hc1,hI,hg,h2,hbd,hfl,hf]<;>omega)|(simp only[vb,and_true,true_implies];(repeat' (first|(with_reducible assumption)|(with_reducible apply And.intro)|intro _|((fail_if_success (with_reducible show(_:Int)≤_));assumption)))<;>first|omega|rfl|(simp only[ab,e,f1,f2,hc0,hc1,hI,hg,h2,hbd,hfl,hf];done)|(simp[Nat.mul_one,e,f1,f2,hc0,hc1,hI,hg,h2,hbd,hfl,hf]<;>omega)|(simp_all;done)))),?_⟩
   iterate 5 first
    |refine⟨fun h=>by simp at h<;>omega,fun _=>?_⟩
    |refine⟨by simp[vb,e,f1,f2,hc0,hc1,hI,hg,h2,hbd,hfl,hf]<;>omega,by simp[vb,e,f1,f2,hc0,hc1,hI,hg,h2,hbd,hfl,hf]<;>omega,?_⟩
    |(refine evTH [(149,fun _=>some (.int .i64 sm)),(150,fun _=>some (.int .i64 q))] [(14,{val:=some (.pv (.agg [.int .i64 x.lo,.int .i64 x.hi]))}),(18,{val:=some (.pv (.int .i64 k)),ro:=true}),(27,{val:=some (.pv (.int .i64 y.fac))})] ?_;iterate 2 (try dsimp only[termsP,boxP,go_sem]))
   refine evTH [(149,fun _=>some (.int .i64 sm)),(150,fun _=>some (.int .i64 q))] [(14,{val:=some (.pv (.agg [.int .i64 x.lo,.int .i64 x.hi]))}),(18,{val:=some (.pv (.int .i64 k)),ro:=true}),(27,{val:=some (.pv (.int .i64 y.fac))})] ?_;dsimp only[termsP,boxP,go_sem];try dsimp only[termsP,boxP,go_sem]
   refine⟨(by first|exact True.intro|(simp only[vb,lb];omega)|(simp only[vb,lb,e,f1,f2,hc0,hc1,hI,hg,h2,hbd,hfl,hf];and_intros<;>first|omega|(simp<;>omega))|(simp[vb,e,f1,f2,hc0,hc1,hI,hg,h2,hbd,hfl,hf]<;>omega)),(by first|exact True.intro|((try dsimp only[go_sem]);first|(simp[vb,e,f1,f2,hc0,hc1,hI,hg,h2,hbd,hfl,hf]<;>omega)|(simp only[vb,and_true,true_implies];(repeat' (first|(with_reducible assumption)|(with_reducible apply And.intro)|intro _|((fail_if_success (with_reducible show(_:Int)≤_));assumption)))<;>first|omega|rfl|(simp only[ab,e,f1,f2,hc0,hc1,hI,hg,h2,hbd,hfl,hf];done)|(simp[Nat.mul_one,e,f1,f2,hc0,hc1,hI,hg,h2,hbd,hfl,hf]<;>omega)|(simp_all;done)))),?_⟩
   refine evTH [(149,fun _=>some (.int .i64 sm)),(150,fun _=>some (.int .i64 q))] [(14,{val:=some (.pv (.agg [.int .i64 x.lo,.int .i64 x.hi]))}),(18,{val:=some (.pv (.int .i64 k)),ro:=true}),(27,{val:=some (.pv (.int .i64 y.fac))})] ?_;dsimp only[termsP,boxP,go_sem];try dsimp only[termsP,boxP,go_sem]
   refine⟨(by simp[vb,e,f1,f2,hc0,hc1,hI,hg,h2,hbd,hfl,hf]<;>omega),(by simp[vb,e,f1,f2,hc0,hc1,hI,hg,h2,hbd,hfl,hf]<;>omega),?_⟩;refine evTH [(149,fun _=>some (.int .i64 sm)),(150,fun _=>some (.int .i64 q))] [(14,{val:=some (.pv (.agg [.int .i64 x.lo,.int .i64 x.hi]))}),(18,{val:=some (.pv (.int .i64 k)),ro:=true}),(27,{val:=some (.pv (.int .i64 y.fac))})] ?_;dsimp only[termsP,boxP,go_sem];refine⟨fun _=>?_,fun h=>by simp at h<;>omega⟩
   refine aw_regT (T:=[(149,fun _=>some (.int .i64 sm)),(150,fun _=>some (.int .i64 q))]) (H:=[(14,{val:=some (.pv (.agg [.int .i64 x.lo,.int .i64 x.hi]))}),(18,{val:=some (.pv (.int .i64 k)),ro:=true}),(27,{val:=some (.pv (.int .i64 y.fac))})]) (by rfl) ?_;dsimp only[evOpsTail,termsP,boxP,go_sem];try dsimp only[termsP,boxP,go_sem]
   refine⟨(by simp[vb,e,f1,f2,hc0,hc1,hI,hg,h2,hbd,hfl,hf]<;>omega),(by simp[vb,e,f1,f2,hc0,hc1,hI,hg,h2,hbd,hfl,hf]<;>omega),?_⟩;repeat' (first
    |((with_reducible show VCs _);first|exact True.intro|(simp only[vb,lb];omega)|(simp only[vb,lb,hem,emptyR];and_intros<;>first|omega|(simp<;>omega))|(simp[vb,hem,emptyR]<;>omega))
    |((with_reducible show All _);first|exact True.intro|((try dsimp only[go_sem]);first|(simp[vb,hem,emptyR]<;>omega)|(simp only[vb,and_true,true_implies];(repeat' (first|(with_reducible assumption)|(with_reducible apply And.intro)|intro _|((fail_if_success (with_reducible show(_:Int)≤_));assumption)))<;>first|omega|rfl|(simp only[ab,hem,emptyR];done)|(simp[Nat.mul_one,hem,emptyR]<;>omega)|(simp_all;done))))
    |exact(rfl:some _=_)
    |(
     fail_if_success refine awL ?_
     refine evT [(102,fun ps=>match ps with|[.agg [.int _ l,.int _ h]]=>some (.bool (decide (h<l)))|_=>none)] ?_;repeat1' dsimp only[c129,termsP,boxP,go_sem]
     first
     |refine aw4 ?_ ?_ rfl ?_
     |apply aw3
     |apply aw2
     |(refine awB (fun hc=>?_) fun hc=>?_<;>first|(cases hc;done)|(exfalso;first|(simp at hc<;>omega)|(simp[hem,emptyR]at hc;done))|(try simp only[bn]at hc;try contradiction))
     |skip))
   ·rw[ite_min]at hc;rw[if_pos hc]
   ·rw[ite_min]at hc ⊢;rw[if_neg hc]
  ·have hfl:=floor_ok (bd-sm) (-y.fac) (by omega) (by omega) (by omega) (by omega);have hq:((bd-sm) / -y.fac).natAbs≤(bd-sm).natAbs:=Int.natAbs_ediv_le_natAbs _ _;simp only[hf,if_false];generalize (bd-sm) / -y.fac=q at *;have hem:=empty_ok ⟨if x.lo< -q then -q else x.lo,x.hi⟩;simp only[emptyR]at hem;refine pure_body' (C:=ctx) (Fn.of fn129 rfl) rfl ?_;unfold c129;unfold termsP at hI hbd;unfold boxP at hbd
   refine evTH [(149,fun _=>some (.int .i64 sm)),(150,fun _=>some (.int .i64 q))] [(14,{val:=some (.pv (.agg [.int .i64 x.lo,.int .i64 x.hi]))}),(18,{val:=some (.pv (.int .i64 k)),ro:=true}),(27,{val:=some (.pv (.int .i64 y.fac))})] ?_;dsimp only[termsP,boxP,go_sem];try dsimp only[termsP,boxP,go_sem]
   refine⟨(by simp[vb,e,f1,f2,hc0,hc1,hI,hg,h2,hbd,hfl,hf]<;>omega),(by simp[vb,e,f1,f2,hc0,hc1,hI,hg,h2,hbd,hfl,hf]<;>omega),?_⟩;refine evTH [(149,fun _=>some (.int .i64 sm)),(150,fun _=>some (.int .i64 q))] [(14,{val:=some (.pv (.agg [.int .i64 x.lo,.int .i64 x.hi]))}),(18,{val:=some (.pv (.int .i64 k)),ro:=true}),(27,{val:=some (.pv (.int .i64 y.fac))})] ?_;dsimp only[termsP,boxP,go_sem];try dsimp only[termsP,boxP,go_sem]
   refine⟨(by first|exact True.intro|(simp only[vb,lb];omega)|(simp only[vb,lb,e,f1,f2,hc0,hc1,hI,hg,h2,hbd,hfl,hf];and_intros<;>first|omega|(simp<;>omega))|(simp[vb,e,f1,f2,hc0,hc1,hI,hg,h2,hbd,hfl,hf]<;>omega)),(by first|exact True.intro|((try dsimp only[go_sem]);first|(simp[vb,e,f1,f2,hc0,hc1,hI,hg,h2,hbd,hfl,hf]<;>omega)|(simp only[vb,and_true,true_implies];(repeat' (first|(with_reducible assumption)|(with_reducible apply And.intro)|intro _|((fail_if_success (with_reducible show(_:Int)≤_));assumption)))<;>first|omega|rfl|(simp only[ab,e,f1,f2,hc0,hc1,hI,hg,h2,hbd,hfl,hf];done)|(simp[Nat.mul_one,e,f1,f2,hc0,hc1,hI,hg,h2,hbd,hfl,hf]<;>omega)|(simp_all;done)))),?_⟩
   refine evTH [(149,fun _=>some (.int .i64 sm)),(150,fun _=>some (.int .i64 q))] [(14,{val:=some (.pv (.agg [.int .i64 x.lo,.int .i64 x.hi]))}),(18,{val:=some (.pv (.int .i64 k)),ro:=true}),(27,{val:=some (.pv (.int .i64 y.fac))})] ?_;dsimp only[termsP,boxP,go_sem];try dsimp only[termsP,boxP,go_sem]
   refine⟨(by first|exact True.intro|(simp only[vb,lb];omega)|(simp only[vb,lb,e,f1,f2,hc0,hc1,hI,hg,h2,hbd,hfl,hf];and_intros<;>first|omega|(simp<;>omega))|(simp[vb,e,f1,f2,hc0,hc1,hI,hg,h2,hbd,hfl,hf]<;>omega)),(by first|exact True.intro|((try dsimp only[go_sem]);first|(simp[vb,e,f1,f2,hc0,hc1,hI,hg,h2,hbd,hfl,hf]<;>omega)|(simp only[vb,and_true,true_implies];(repeat' (first|(with_reducible assumption)|(with_reducible apply And.intro)|intro _|((fail_if_success (with_reducible show(_:Int)≤_));assumption)))<;>first|omega|rfl|(simp only[ab,e,f1,f2,hc0,hc1,hI,hg,h2,hbd,hfl,hf];done)|(simp[Nat.mul_one,e,f1,f2,hc0,hc1,hI,hg,h2,hbd,hfl,hf]<;>omega)|(simp_all;done)))),?_⟩
   iterate 5 first
    |refine⟨fun h=>by simp at h<;>omega,fun _=>?_⟩
    |refine⟨by simp[vb,e,f1,f2,hc0,hc1,hI,hg,h2,hbd,hfl,hf]<;>omega,by simp[vb,e,f1,f2,hc0,hc1,hI,hg,h2,hbd,hfl,hf]<;>omega,?_⟩
    |(refine evTH [(149,fun _=>some (.int .i64 sm)),(150,fun _=>some (.int .i64 q))] [(14,{val:=some (.pv (.agg [.int .i64 x.lo,.int .i64 x.hi]))}),(18,{val:=some (.pv (.int .i64 k)),ro:=true}),(27,{val:=some (.pv (.int .i64 y.fac))})] ?_;iterate 2 (try dsimp only[termsP,boxP,go_sem]))
   refine evTH [(149,fun _=>some (.int .i64 sm)),(150,fun _=>some (.int .i64 q))] [(14,{val:=some (.pv (.agg [.int .i64 x.lo,.int .i64 x.hi]))}),(18,{val:=some (.pv (.int .i64 k)),ro:=true}),(27,{val:=some (.pv (.int .i64 y.fac))})] ?_;dsimp only[termsP,boxP,go_sem];try dsimp only[termsP,boxP,go_sem]
   refine⟨(by first|exact True.intro|(simp only[vb,lb];omega)|(simp only[vb,lb,e,f1,f2,hc0,hc1,hI,hg,h2,hbd,hfl,hf];and_intros<;>first|omega|(simp<;>omega))|(simp[vb,e,f1,f2,hc0,hc1,hI,hg,h2,hbd,hfl,hf]<;>omega)),(by first|exact True.intro|((try dsimp only[go_sem]);first|(simp[vb,e,f1,f2,hc0,hc1,hI,hg,h2,hbd,hfl,hf]<;>omega)|(simp only[vb,and_true,true_implies];(repeat' (first|(with_reducible assumption)|(with_reducible apply And.intro)|intro _|((fail_if_success (with_reducible show(_:Int)≤_));assumption)))<;>first|omega|rfl|(simp only[ab,e,f1,f2,hc0,hc1,hI,hg,h2,hbd,hfl,hf];done)|(simp[Nat.mul_one,e,f1,f2,hc0,hc1,hI,hg,h2,hbd,hfl,hf]<;>omega)|(simp_all;done)))),?_⟩
   refine evTH [(149,fun _=>some (.int .i64 sm)),(150,fun _=>some (.int .i64 q))] [(14,{val:=some (.pv (.agg [.int .i64 x.lo,.int .i64 x.hi]))}),(18,{val:=some (.pv (.int .i64 k)),ro:=true}),(27,{val:=some (.pv (.int .i64 y.fac))})] ?_;dsimp only[termsP,boxP,go_sem];try dsimp only[termsP,boxP,go_sem]
   refine⟨(by simp[vb,e,f1,f2,hc0,hc1,hI,hg,h2,hbd,hfl,hf]<;>omega),(by simp[vb,e,f1,f2,hc0,hc1,hI,hg,h2,hbd,hfl,hf]<;>omega),?_⟩;refine evTH [(149,fun _=>some (.int .i64 sm)),(150,fun _=>some (.int .i64 q))] [(14,{val:=some (.pv (.agg [.int .i64 x.lo,.int .i64 x.hi]))}),(18,{val:=some (.pv (.int .i64 k)),ro:=true}),(27,{val:=some (.pv (.int .i64 y.fac))})] ?_;dsimp only[termsP,boxP,go_sem];refine⟨fun h=>by simp at h<;>omega,fun _=>?_⟩
   refine aw_regT (T:=[(149,fun _=>some (.int .i64 sm)),(150,fun _=>some (.int .i64 q))]) (H:=[(14,{val:=some (.pv (.agg [.int .i64 x.lo,.int .i64 x.hi]))}),(18,{val:=some (.pv (.int .i64 k)),ro:=true}),(27,{val:=some (.pv (.int .i64 y.fac))})]) (by rfl) ?_;dsimp only[evOpsTail,termsP,boxP,go_sem];try dsimp only[termsP,boxP,go_sem]
   refine⟨(by simp[vb,e,f1,f2,hc0,hc1,hI,hg,h2,hbd,hfl,hf]<;>omega),(by simp[vb,e,f1,f2,hc0,hc1,hI,hg,h2,hbd,hfl,hf]<;>omega),?_⟩;repeat' (first
    |((with_reducible show VCs _);first|exact True.intro|(simp only[vb,lb];omega)|(simp only[vb,lb,hem,emptyR];and_intros<;>first|omega|(simp<;>omega))|(simp[vb,hem,emptyR]<;>omega))
    |((with_reducible show All _);first|exact True.intro|((try dsimp only[go_sem]);first|(simp[vb,hem,emptyR]<;>omega)|(simp only[vb,and_true,true_implies];(repeat' (first|(with_reducible assumption)|(with_reducible apply And.intro)|intro _|((fail_if_success (with_reducible show(_:Int)≤_));assumption)))<;>first|omega|rfl|(simp only[ab,hem,emptyR];done)|(simp[Nat.mul_one,hem,emptyR]<;>omega)|(simp_all;done))))
    |exact(rfl:some _=_)
    |(
     fail_if_success refine awL ?_
     refine evT [(102,fun ps=>match ps with|[.agg [.int _ l,.int _ h]]=>some (.bool (decide (h<l)))|_=>none)] ?_;repeat1' dsimp only[c129,termsP,boxP,go_sem]
     first
     |refine aw4 ?_ ?_ rfl ?_
     |apply aw3
     |apply aw2
     |(refine awB (fun hc=>?_) fun hc=>?_<;>first|(cases hc;done)|(exfalso;first|(simp at hc<;>omega)|(simp[hem,emptyR]at hc;done))|(try simp only[bn]at hc;try contradiction))
     |skip))
   ·rw[ite_max]at hc;rw[if_pos hc]
   ·rw[ite_max]at hc ⊢;rw[if_neg hc]
set_option maxHeartbeats 4000000 in
theorem tighten_ok (b:List Rg) (r:Rw) (c:Int) (hb:b.length≤1000000000) (hr:r.terms.length≤1000000000):PureOK ctx 107 [.agg [termsP r.terms,.int .i64 r.bound],boxP b,.int .i64 c] (.agg [.int .i64 (tighten r b c).lo,.int .i64 (tighten r b c).hi]):=by
 have hv:PureOK ctx 71 [.sl b.length (b.flatMap rgC),.sl 1 [.sl r.terms.length (r.terms.flatMap tmC),.int .i64 r.bound]] (.bool (ivOk b [r])):=Valid_ok b [r] hb (by simp) fun x hx=>by simp at hx;subst hx;exact hr
 by_cases hc:ivOk b [r]=true∧0≤c∧c<b.length
 ·have ht:=tighten0_ok b r c hc.1 hc.2.1 hc.2.2;rw[show tighten r b c=tightN r b c by rw[tighten,if_pos hc]];rw[hc.1]at hv;obtain⟨-,c1,c2⟩:=hc;generalize tightN r b c=x at *;unfold termsP boxP at ht;refine pure_body' (C:=ctx) (Fn.of fn107 rfl) rfl ?_;unfold c107;repeat' (first
   |((with_reducible show VCs _);first|exact True.intro|(simp only[vb,lb];omega)|(simp only[vb,lb,hv,ht,c1,c2];and_intros<;>first|omega|(simp<;>omega))|(simp[vb,hv,ht,c1,c2]<;>omega))
   |((with_reducible show All _);first|exact True.intro|((try dsimp only[go_sem]);first|(simp[vb,hv,ht,c1,c2]<;>omega)|(simp only[vb,and_true,true_implies];(repeat' (first|(with_reducible assumption)|(with_reducible apply And.intro)|intro _|((fail_if_success (with_reducible show(_:Int)≤_));assumption)))<;>first|omega|rfl|(simp only[ab,hv,ht,c1,c2];done)|(simp[Nat.mul_one,hv,ht,c1,c2]<;>omega)|(simp_all;done))))
   |exact(rfl:some _=_)
   |(
    fail_if_success refine awL ?_
    refine evT [(71,fun _=>some (.bool true)),(129,fun _=>some (.agg [.int .i64 x.lo,.int .i64 x.hi]))] ?_;repeat1' dsimp only[c107,termsP,boxP,go_sem]
    first
    |refine aw4 ?_ ?_ rfl ?_
    |apply aw3
    |apply aw2
    |(refine awB (fun hc=>?_) fun hc=>?_<;>first|(cases hc;done)|(exfalso;first|(simp at hc<;>omega)|(simp[hv,ht,c1,c2]at hc;done))|(try simp only[bn]at hc;try contradiction))
    |skip))
 ·rw[show tighten r b c=zr by rw[tighten,if_neg hc]];generalize ivOk b [r]=q at *;cases q with
  |false =>
   refine pure_body' (C:=ctx) (Fn.of fn107 rfl) rfl ?_;unfold c107;repeat' (first
    |((with_reducible show VCs _);first|exact True.intro|(simp only[vb,lb];omega)|(simp only[vb,lb,hv];and_intros<;>first|omega|(simp<;>omega))|(simp[vb,hv]<;>omega))
    |((with_reducible show All _);first|exact True.intro|((try dsimp only[go_sem]);first|(simp[vb,hv]<;>omega)|(simp only[vb,and_true,true_implies];(repeat' (first|(with_reducible assumption)|(with_reducible apply And.intro)|intro _|((fail_if_success (with_reducible show(_:Int)≤_));assumption)))<;>first|omega|rfl|(simp only[ab,hv];done)|(simp[Nat.mul_one,hv]<;>omega)|(simp_all;done))))
    |exact(rfl:some _=_)
    |(
     fail_if_success refine awL ?_
     refine evT [(71,fun _=>some (.bool false))] ?_;repeat1' dsimp only[c107,termsP,boxP,go_sem]
     first
     |refine aw4 ?_ ?_ rfl ?_
     |apply aw3
     |apply aw2
     |(refine awB (fun hc=>?_) fun hc=>?_<;>first|(cases hc;done)|(exfalso;first|(simp at hc<;>omega)|(simp[hv]at hc;done))|(try simp only[bn]at hc;try contradiction))
     |skip))
  |true =>
   have hn:¬(0≤c∧c<b.length):=fun h=>hc ⟨rfl,h⟩
   clear hc;refine pure_body' (C:=ctx) (Fn.of fn107 rfl) rfl ?_;unfold c107;repeat' (first
    |((with_reducible show VCs _);first|exact True.intro|(simp only[vb,lb];omega)|(simp only[vb,lb,hv];and_intros<;>first|omega|(simp<;>omega))|(simp[vb,hv]<;>omega))
    |((with_reducible show All _);first|exact True.intro|((try dsimp only[go_sem]);first|(simp[vb,hv]<;>omega)|(simp only[vb,and_true,true_implies];(repeat' (first|(with_reducible assumption)|(with_reducible apply And.intro)|intro _|((fail_if_success (with_reducible show(_:Int)≤_));assumption)))<;>first|omega|rfl|(simp only[ab,hv];done)|(simp[Nat.mul_one,hv]<;>omega)|(simp_all;done))))
    |exact(rfl:some _=_)
    |(
     fail_if_success refine awL ?_
     refine evT [(71,fun _=>some (.bool true))] ?_;repeat1' dsimp only[c107,termsP,boxP,go_sem]
     first
     |refine aw4 ?_ ?_ rfl ?_
     |apply aw3
     |apply aw2
     |(refine awB (fun hc=>?_) fun hc=>?_<;>first|(cases hc;done)|(exfalso;first|(simp at hc<;>omega)|(simp[hv]at hc;done))|(try simp only[bn]at hc;try contradiction))
     |skip))
end
section
open Rf
def stepsOf:List PV→Option (List RStep)
 |[]=>some []
 | .int .i64 a::.int .i64 b::.int .i64 c::r=>match stepsOf r with
  |some l=>some (⟨a,b,c⟩::l)
  |none=>none
 |_=>none
structure Leaf where
 k:Int
 s:List RStep
 c:Int
 a:Int
 deriving DecidableEq
def leafOf:PV→Option Leaf
 | .agg [.int .i64 k,.sl n cs,.int .i64 c,.int .i64 a,.sl 0 []]=>match stepsOf cs with
  |some s=>bif Nat.beq n s.length&&Nat.ble n 1000 then some ⟨k,s,c,a⟩ else none
  |none=>none
 |_=>none
def Leaf.t (x:Leaf):Tree:=.node x.k x.s x.c x.a []
theorem stepsOf_ok:∀(cs:List PV) (s:List RStep),stepsOf cs=some s→cs=s.flatMap rstepC
 |[],s,h=>by injection h with h;subst h;rfl
 |[.int .i64 _],_,h=>by cases h
 |[.int .i64 _,.int .i64 _],_,h=>by cases h
 | .int .i64 a::.int .i64 b::.int .i64 c::r,s,h=>by
  rw[stepsOf]at h;split at h
  ·rename_i l hl;injection h with h
   subst h;rw[stepsOf_ok r l hl];rfl
  ·cases h
theorem leafOf_ok {p:PV} {x:Leaf} (h:leafOf p=some x):p=treeP x.t∧wt x.t≤1000000000:=by
 unfold leafOf at h;split at h
 ·split at h
  ·rename_i s hs;rename_i k n cs c a _;cases hb:(Nat.beq n s.length&&Nat.ble n 1000) with
   |false=>rw[hb]at h;cases h
   |true =>
    rw[hb,cond_true]at h;injection h with h
    subst h;rw[Bool.and_eq_true]at hb;have h1:=Nat.eq_of_beq_eq_true hb.1;have h2:=Nat.le_of_ble_eq_true hb.2;subst h1;rw[stepsOf_ok cs s hs];refine⟨rfl,?_⟩;rw[Leaf.t,wt_node];simp[wts];omega
  ·cases h
 ·cases h
def onLeaf (f:Leaf→Option PV):List PV→Option PV:=fun ps=>match ps.map (canon 3) with
 |[p]=>match leafOf p with
  |some x=>f x
  |none=>none
 |_=>none
theorem onLeaf_ok {g:FuncId} {f:Leaf→Option PV} (h:∀x r,wt x.t≤1000000000→f x=some r→PureOK ctx g [treeP x.t] r) (ps:List PV) (r:PV) (hr:onLeaf f ps=some r):PureOK ctx g ps r:=by
 unfold onLeaf at hr;split at hr
 ·rename_i p hp;split at hr
  ·rename_i x hx;obtain⟨h1,h2⟩:=leafOf_ok hx;refine PureOK.canon_args 3 ?_;rw[hp,h1];exact h x r h2 hr
  ·cases hr
 ·cases hr
def exL:Leaf:=⟨0,[⟨0,1,0⟩,⟨0,2,1⟩,⟨0,0,0⟩],0,0⟩
def exT:List UInt8:=[114,111,119,32,49,32,48,10,114,111,119,32,50,32,49,10,114,111,119,32,48,32,48,10,99,108,111,115,101,100,10]
def exB:List UInt8:=[114,111,119,32,48,49,32,48,10,99,108,111,115,101,100,10]
def validL (x:Leaf):Bool:=x.s.all rstepOk&&Rf.tailOk x.k x.c x.a 0
theorem depthL (x:Leaf):depthN x.t=1:=by rw[Leaf.t,depthN_node];rfl
theorem stepsL (x:Leaf):stepsN x.t=x.s.length:=by rw[Leaf.t,stepsN_node];rfl
theorem validL_ok (x:Leaf) (h:x.s.length≤1000):validB x.t=validL x:=by
 have hw:wt x.t=1+x.s.length:=by rw[Leaf.t,wt_node];rfl
 have d1:decide (depthN x.t≤4096)=true:=by rw[depthL];rfl
 have d2:decide (wt x.t≤65536)=true:=by rw[hw];simp;omega
 unfold validB;rw[d1,d2,Leaf.t,formedB_node];simp[validL]
theorem exT_ok:formatN exL.t=(exT,0):=by
 have h1:textN exL.t=exT:=by
  rw[Leaf.t,textN_node];kernel_rfl
 unfold formatN;rw[validL_ok exL (by decide),h1];rfl
def exBt:Tree:=.node 0 [⟨0,1,0⟩] 0 0 []
theorem exB_ok:parseN exB=(zt,3):=by
 have h1:treeF ((spC 10 exB).length+1) 1 (spC 10 exB)=some (exBt,[[]]):=by kernel_rfl
 have h2:formatN exBt≠(exB,0):=by
  have h3:textN exBt=[114,111,119,32,49,32,48,10,99,108,111,115,101,100,10]:=by
   rw[exBt,textN_node];kernel_rfl
  unfold formatN;rw[h3];intro h;split at h
  ·split at h
   ·cases h
   ·injection h with h _
    cases h
  ·cases h
 unfold parseN;rw[if_neg (by decide),h1];simp only;rw[if_neg h2]
theorem exP_ok:parseN exT=(exL.t,0):=by
 have h1:treeF ((spC 10 exT).length+1) 1 (spC 10 exT)=some (exL.t,[[]]):=by kernel_rfl
 unfold parseN;rw[if_neg (by decide),h1];simp only;rw[if_pos exT_ok]
def awT:Tabs where
 fns:=awFns
 pure:=[(13,onLeaf fun x=>bif Nat.ble x.s.length 1000 then some (.bool (validL x)) else none),(15,onLeaf fun x=>some (.int .i64 x.s.length)),(17,onLeaf fun _=>some (.int .i64 1)),
  (26,onLeaf fun x=>if x=exL then some (.tup [.str exT,.int .i64 0]) else none),
  (28,fun ps=>match ps with
   |[.str s]=>if s=exB then some (.tup [.agg [.int .i64 0,.sl 0 [],.int .i64 0,.int .i64 0,.sl 0 []],.int .i64 3]) else
    if s=exT then some (.tup [.agg [.int .i64 0,.sl 3 [.int .i64 0,.int .i64 1,.int .i64 0,.int .i64 0,.int .i64 2,.int .i64 1,.int .i64 0,.int .i64 0,.int .i64 0],.int .i64 0,.int .i64 0,.sl 0 []],.int .i64 0]) else none
   |_=>none)]
 ref:=[]
 mem:=[77]
theorem awT_ok:TabOK ctx awT where
 dz:=rfl
 fns g e h:=by
  have key:∀(l:List (Nat×FnE)),(∀p∈l,∃own,fnOf Tryz.prog p.1 own=some (p.2.x,p.2.rs,p.2.n,true))→lookB l g=some e→∃own,fnOf Tryz.prog g own=some (e.x,e.rs,e.n,true):=by
   intro l;induction l with
   |nil=>intro _ h;cases h
   |cons p r ih =>
    obtain⟨k,y⟩:=p;intro hl h;rw[lookB]at h;cases hk:Nat.beq k g with
    |true =>
     rw[hk,cond_true]at h;injection h with h
     subst h;have:=Nat.eq_of_beq_eq_true hk;subst this;exact hl (k,y) (by simp)
    |false =>
     rw[hk,cond_false]at h;exact ih (fun p hp=>hl p (by simp[hp])) h
  exact key awFns awFns_ok h
 pure g s h ps r hr:=by
  have look:∀{k:Nat} {x:List PV→Option PV} {l:List (Nat×(List PV→Option PV))},lookB ((k,x)::l) g=some s→(k=g∧x=s)∨lookB l g=some s:=fun {k x l} h=>by
   rw[lookB]at h;cases hk:Nat.beq k g with
   |true =>
    rw[hk,cond_true]at h;injection h with h
    exact .inl ⟨Nat.eq_of_beq_eq_true hk,h⟩
   |false =>
    rw[hk,cond_false]at h;exact .inr h
  rcases look h with⟨rfl,rfl⟩|h
  ·refine onLeaf_ok (fun x r hw h=>?_) ps r hr;cases hb:Nat.ble x.s.length 1000 with
   |false=>rw[hb]at h;cases h
   |true =>
    rw[hb,cond_true]at h;injection h with h
    subst h;rw[←validL_ok x (Nat.le_of_ble_eq_true hb)];exact valid_ok x.t hw
  rcases look h with⟨rfl,rfl⟩|h
  ·refine onLeaf_ok (fun x r hw h=>?_) ps r hr;injection h with h
   subst h;have:=steps_ok x.t hw;rw[stepsL]at this;exact this
  rcases look h with⟨rfl,rfl⟩|h
  ·refine onLeaf_ok (fun x r hw h=>?_) ps r hr;injection h with h
   subst h;have:=depth_ok x.t hw;rw[depthL]at this;exact this
  rcases look h with⟨rfl,rfl⟩|h
  ·refine onLeaf_ok (fun x r hw h=>?_) ps r hr;split at h
   ·rename_i he;subst he;injection h with h
    subst h;have:=format_ok exL.t hw;rw[exT_ok]at this;exact this
   ·cases h
  rcases look h with⟨rfl,rfl⟩|h
  ·dsimp only at hr;split at hr
   ·split at hr
    ·rename_i he;subst he;injection hr with hr
     subst hr;have:=parse_ok exB (by decide);rw[exB_ok]at this;exact this
    ·split at hr
     ·rename_i he;subst he;injection hr with hr
      subst hr;have:=parse_ok exT (by decide);rw[exP_ok]at this;exact this
     ·cases hr
   ·cases hr
  ·cases h
 ref g s h:=by cases h
end
section
open Rf
set_option maxRecDepth 100000 in
theorem awake_run:callP awT (run awT 2000) 11 []=some (.bool true):=by kernel_rfl
theorem awake_ok:PureOK ctx 11 [] (.bool true):=callP_ok awT_ok (stepC_ok awT_ok 2000) awake_run
end
end Pur
end
section
namespace Rf
structure SyS (s:Sy):Prop where
 b:s.box.length≤1000000000
 r:s.rows.length≤1000000000
 g:s.graphs.length≤1000000000
 c:s.cases.length≤1000000000
 rt:∀x∈s.rows,x.terms.length≤1000000000
 gl:∀x∈s.graphs,x.least.length≤1000000000
 cl:∀l∈s.cases,l.length≤1000000000
 ct:∀l∈s.cases,∀x∈l,x.terms.length≤1000000000
theorem sq_bd {n:Int} (h1:1≤n) (h2:n≤6):1≤n*n∧n*n≤36:=by
 have:n=1∨n=2∨n=3∨n=4∨n=5∨n=6:=by omega
 rcases this with rfl|rfl|rfl|rfl|rfl|rfl<;>decide
end Rf
namespace Pur
open Go.RowKit
attribute [local go_sem] evOps evOp evOpV evRun evK argF List.map hintAt stripped get put tmpsOf tmpOf tmpO tmpL tmpP conds ev cond_true cond_false Nat.beq Nat.ble Nat.add quiet After thenR blockR IfD List.append_eq List.nil_append List.cons_append evInt exactI_a exactI_b exactI_c exactI_d exactI_e exactI_f evBin evStr evBool evUn guardC calm quiet.isCallK evPick List.getElem?_cons_zero List.getElem?_cons_succ fromCells fromPVs cellsOf List.all oneCell List.length_cons List.length_nil mkAgg plains List.drop List.take List.getD Option.getD_some bo1 bo2 ba1 ba2 bn1 bn2 kk_i64 kk_u8 kk_i32 kk_u64 setAt List.set Nat.reduceAdd Nat.reduceMul evCall safeCall refsOf refsIn scalarA scalar scalarL thawL mapAll thawArg thawRef after freeze RetD RetE evResult evRess evRes1 thaw_pv mkTup nilOf_a nilOf_b nilOf_bb nilOf_c nilOf_d nilOf_e nilOf_f nilOf_g nilOf_h nilOf_i nilOf_j nilOf_k nilOf_l nilOf_m eqLeaf_a eqLeaf_b eqLeaf_c eqOffs evMM bytesOf evOpsF AfterF footOf footRefs notIn indepF footAt freeOk still evParts fillA zeros intOfA boundA srcOf List.isEmpty appNil_0 appNil_1 appNil_2 Int.reduceToNat Nat.mul_one Nat.reduceSub evC evOpsT evOpsTF autoH tabHint look hintD strip guarded RetPD RetRD mpLen keysOk leafKA leafK bitI nilOf_n nilOf_o Bool.or_false Bool.or_true Bool.and_true Bool.and_false Nat.blt renF renM renB renV idxOf solF solM solA solV thawRef ev1
open Rf
def sysB (s:Sy):Blk:=⟨[.pv (boxP s.box),.pv (rwsP s.rows),.pv (grsP s.graphs),.pv (casP s.cases)],0,4,36,false⟩
theorem least1_ok (k:Int):PureOK ctx 104 [.int .i64 k] (.bool (!leastOk k)):=by
 refine pure_body' (C:=ctx) (Fn.of fn104 rfl) rfl ?_;unfold c104;repeat' (first
  |((with_reducible show VCs _);first|exact True.intro|(simp only[vb,lb];omega)|(simp[vb]<;>omega))
  |((with_reducible show All _);first|exact True.intro|((try dsimp only[go_sem]);first|(simp[vb]<;>omega)|(simp only[vb,and_true,true_implies];(repeat' (first|(with_reducible assumption)|(with_reducible apply And.intro)|intro _|((fail_if_success (with_reducible show(_:Int)≤_));assumption)))<;>first|omega|rfl|(simp only[ab];done)|(simp[Nat.mul_one]<;>omega)|(simp_all;done))))
  |exact(rfl:some _=_)
  |(
   fail_if_success refine awL ?_
   refine evA ?_;repeat1' dsimp only[c104,go_sem]
   first
   |refine aw4 ?_ ?_ rfl ?_
   |apply aw3
   |apply aw2
   |(refine awB (fun hc=>?_) fun hc=>?_<;>first|(cases hc;done)|(exfalso;first|(simp at hc<;>omega))|(try simp only[bn]at hc;try contradiction))
   |skip))
 simp[leastOk,insideB,cond_or];rw[←decide_not,←decide_not];congr 1<;>exact decide_eq_decide.mpr (by omega)
set_option maxHeartbeats 4000000 in
theorem graph_ok (n:Int) (g:Gr) (hn:0≤n) (hn2:n≤1000000000) (hg:g.least.length≤1000000000):PureOK ctx 74 [.int .i64 n,.agg [.int .i64 g.first,.int .i64 g.size,intsQ g.least]] (.bool (graphOk n g)):=by
 have hl:=any103_ok 104 g.least hg (fun k=>!leastOk k) fun k _=>least1_ok k
 have e:g.least.all leastOk= !(g.least.any fun k=>!leastOk k):=by simp[List.any_eq_not_all_not]
 unfold graphOk;rw[e];clear e;generalize (g.least.any fun k=>!leastOk k)=q at *;obtain⟨fi,sz,le⟩:=g;simp only at *;unfold intsQ at hl;by_cases h:1≤sz∧sz≤6
 ·obtain⟨q1,q2⟩:=sq_bd h.1 h.2;rw[show insideB sz 1 6=true by simp[insideB,h],Bool.true_and];by_cases h2:0≤fi∧fi≤n-sz*sz∧(le.length:Int)=sz*sz
  ·rw[decide_eq_true h2.1,decide_eq_true h2.2.1,decide_eq_true h2.2.2];refine pure_body' (C:=ctx) (Fn.of fn74 rfl) rfl ?_;unfold c74;repeat' (first
    |((with_reducible show VCs _);first|exact True.intro|(simp only[vb,lb];omega)|(simp only[vb,lb,hl,h,h2,q1,q2];and_intros<;>first|omega|(simp<;>omega))|(simp[vb,hl,h,h2,q1,q2]<;>omega))
    |((with_reducible show All _);first|exact True.intro|((try dsimp only[go_sem]);first|(simp[vb,hl,h,h2,q1,q2]<;>omega)|(simp only[vb,and_true,true_implies];(repeat' (first|(with_reducible assumption)|(with_reducible apply And.intro)|intro _|((fail_if_success (with_reducible show(_:Int)≤_));assumption)))<;>first|omega|rfl|(simp only[ab,hl,h,h2,q1,q2];done)|(simp[Nat.mul_one,hl,h,h2,q1,q2]<;>omega)|(simp_all;done))))
    |exact(rfl:some _=_)
    |(
     fail_if_success refine awL ?_
     refine evT [(103,fun _=>some (.bool q))] ?_;repeat1' dsimp only[c74,intsQ,go_sem]
     first
     |refine aw4 ?_ ?_ rfl ?_
     |apply aw3
     |apply aw2
     |(refine awB (fun hc=>?_) fun hc=>?_<;>first|(cases hc;done)|(exfalso;first|(simp at hc<;>omega)|(simp[hl,h,h2,q1,q2]at hc;done))|(try simp only[bn]at hc;try contradiction))
     |skip))
  ·have hr:(decide (0≤fi)&&decide (fi≤n-sz*sz)&&decide ((le.length:Int)=sz*sz))=false:=by
    rw[Bool.eq_false_iff];simp only[ne_eq,Bool.and_eq_true,decide_eq_true_eq];omega
   rw[hr];refine pure_body' (C:=ctx) (Fn.of fn74 rfl) rfl ?_;unfold c74;repeat' (first
    |((with_reducible show VCs _);first|exact True.intro|(simp only[vb,lb];omega)|(simp only[vb,lb,hl,h,h2,q1,q2];and_intros<;>first|omega|(simp<;>omega))|(simp[vb,hl,h,h2,q1,q2]<;>omega))
    |((with_reducible show All _);first|exact True.intro|((try dsimp only[go_sem]);first|(simp[vb,hl,h,h2,q1,q2]<;>omega)|(simp only[vb,and_true,true_implies];(repeat' (first|(with_reducible assumption)|(with_reducible apply And.intro)|intro _|((fail_if_success (with_reducible show(_:Int)≤_));assumption)))<;>first|omega|rfl|(simp only[ab,hl,h,h2,q1,q2];done)|(simp[Nat.mul_one,hl,h,h2,q1,q2]<;>omega)|(simp_all;done))))
    |exact(rfl:some _=_)
    |(
     fail_if_success refine awL ?_
     refine evT [(103,fun _=>some (.bool q))] ?_;repeat1' dsimp only[c74,intsQ,go_sem]
     first
     |refine aw4 ?_ ?_ rfl ?_
     |apply aw3
     |apply aw2
     |(refine awB (fun hc=>?_) fun hc=>?_<;>first|(cases hc;done)|(exfalso;first|(simp at hc<;>omega)|(simp[hl,h,h2,q1,q2]at hc;done))|(try simp only[bn]at hc;try contradiction))
     |skip))
 ·rw[show insideB sz 1 6=false by simp[insideB];omega];refine pure_body' (C:=ctx) (Fn.of fn74 rfl) rfl ?_;unfold c74;repeat' (first
   |((with_reducible show VCs _);first|exact True.intro|(simp only[vb,lb];omega)|(simp only[vb,lb,hl,h];and_intros<;>first|omega|(simp<;>omega))|(simp[vb,hl,h]<;>omega))
   |((with_reducible show All _);first|exact True.intro|((try dsimp only[go_sem]);first|(simp[vb,hl,h]<;>omega)|(simp only[vb,and_true,true_implies];(repeat' (first|(with_reducible assumption)|(with_reducible apply And.intro)|intro _|((fail_if_success (with_reducible show(_:Int)≤_));assumption)))<;>first|omega|rfl|(simp only[ab,hl,h];done)|(simp[Nat.mul_one,hl,h]<;>omega)|(simp_all;done))))
   |exact(rfl:some _=_)
   |(
    fail_if_success refine awL ?_
    refine evT [(103,fun _=>some (.bool q))] ?_;repeat1' dsimp only[c74,intsQ,go_sem]
    first
    |refine aw4 ?_ ?_ rfl ?_
    |apply aw3
    |apply aw2
    |(refine awB (fun hc=>?_) fun hc=>?_<;>first|(cases hc;done)|(exfalso;first|(simp at hc<;>omega)|(simp[hl,h]at hc;done))|(try simp only[bn]at hc;try contradiction))
    |skip))
theorem rows_ok (s:Sy) (l:List Rw) (most:Int) (hb:s.box.length≤1000000000) (hl:l.length≤1000000000) (ht:∀x∈l,x.terms.length≤1000000000) :
  PureOK ctx 73 [.agg [boxP s.box,rwsP s.rows,grsP s.graphs,casP s.cases],rwsP l,.int .i64 most] (.bool (decide ((l.length:Int)≤most)&&ivOk s.box l)):=by
 have hv:=Valid_ok s.box l hb hl ht;generalize ivOk s.box l=q at *;unfold boxP rwsP at hv;refine pure_body' (C:=ctx) (Fn.of fn73 rfl) rfl ?_;unfold c73;repeat' (first
  |((with_reducible show VCs _);first|exact True.intro|(simp only[vb,lb];omega)|(simp only[vb,lb,hv];and_intros<;>first|omega|(simp<;>omega))|(simp[vb,hv]<;>omega))
  |((with_reducible show All _);first|exact True.intro|((try dsimp only[go_sem]);first|(simp[vb,hv]<;>omega)|(simp only[vb,and_true,true_implies];(repeat' (first|(with_reducible assumption)|(with_reducible apply And.intro)|intro _|((fail_if_success (with_reducible show(_:Int)≤_));assumption)))<;>first|omega|rfl|(simp only[ab,hv];done)|(simp[Nat.mul_one,hv]<;>omega)|(simp_all;done))))
  |exact(rfl:some _=_)
  |(
   fail_if_success refine awL ?_
   refine evT [(71,fun _=>some (.bool q))] ?_;repeat1' dsimp only[c73,boxP,rwsP,grsP,casP,go_sem]
   first
   |refine aw4 ?_ ?_ rfl ?_
   |apply aw3
   |apply aw2
   |(refine awB (fun hc=>?_) fun hc=>?_<;>first|(cases hc;done)|(exfalso;first|(simp at hc<;>omega)|(simp[hv]at hc;done))|(try simp only[bn]at hc;try contradiction))
   |skip))
 rw[cond_and]
theorem sysval1_ok (s:Sy) (hs:SyS s) (l:List Rw) (hl:l.length≤1000000000) (ht:∀x∈l,x.terms.length≤1000000000) :
  RefOK ctx 76 [.pv (rwsP l),.ptr 0 0 0] [sysB s] (.pv (.bool (!caseOk s.box l))) [sysB s]:=by
 have hr:=rows_ok s l 64 hs.b hl ht;have e:caseOk s.box l=(decide ((l.length:Int)≤64)&&ivOk s.box l):=by
  unfold caseOk;congr 1;exact decide_eq_decide.mpr (by omega)
 rw[e];generalize (decide ((l.length:Int)≤64)&&ivOk s.box l)=q at *;unfold boxP rwsP grsP casP at hr;refine ref_body' (C:=ctx) (Fn.of fn76 rfl) rfl (by simp) rfl rfl ?_;unfold c76 sysB;repeat' (first
  |((with_reducible show VCs _);first|exact True.intro|(simp only[vb,lb];omega)|(simp only[vb,lb,hr];and_intros<;>first|omega|(simp<;>omega))|(simp[vb,hr]<;>omega))
  |((with_reducible show All _);first|exact True.intro|((try dsimp only[go_sem]);first|(simp[vb,hr]<;>omega)|(simp only[vb,and_true,true_implies];(repeat' (first|(with_reducible assumption)|(with_reducible apply And.intro)|intro _|((fail_if_success (with_reducible show(_:Int)≤_));assumption)))<;>first|omega|rfl|(simp only[ab,hr];done)|(simp[Nat.mul_one,hr]<;>omega)|(simp_all;done))))
  |exact(rfl:some _=_)
  |(
   fail_if_success refine awL ?_
   refine evT [(73,fun _=>some (.bool q))] ?_;repeat1' dsimp only[c76,boxP,rwsP,grsP,casP,go_sem]
   first
   |refine aw4 ?_ ?_ rfl ?_
   |apply aw3
   |apply aw2
   |(refine awB (fun hc=>?_) fun hc=>?_<;>first|(cases hc;done)|(exfalso;first|(simp at hc<;>omega)|(simp[hr]at hc;done))|(try simp only[bn]at hc;try contradiction))
   |skip))
 all_goals exact⟨⟨trivial,rfl⟩,_,rfl⟩
set_option maxHeartbeats 4000000 in
theorem sysValid_ok (s:Sy) (hs:SyS s):PureOK ctx 46 [.agg [boxP s.box,rwsP s.rows,grsP s.graphs,casP s.cases]] (.bool (sysOk s)):=by
 have h1:=Valid_nil s.box hs.b;have h2:=Empty_ok s.box hs.b;have h3:=rows_ok s s.rows 1024 hs.b hs.r hs.rt;have h4:=any75_ok 76 [sysB s] rfl 0 (by simp) s.cases hs.c (fun l=>!caseOk s.box l) fun l hl=>sysval1_ok s hs l (hs.cl l hl) (hs.ct l hl)
 have e:s.cases.all (caseOk s.box)= !(s.cases.any fun l=>!caseOk s.box l):=by simp[List.any_eq_not_all_not]
 have f1:=grs_len s.graphs;have hgr:=fun g hg=>graph_ok s.box.length g (by omega) (by have:=hs.b;omega) (hs.gl g hg)
 have hsg:=hs.g;have hsc:=hs.c;have hsb:=hs.b;have e2:sysOk s=(boxOk s.box&& !emptyB s.box&&(decide ((s.rows.length:Int)≤1024)&&ivOk s.box s.rows)&&decide (s.graphs.length≤64)&&decide (s.cases.length≤1024)&&s.graphs.all (graphOk s.box.length)&&s.cases.all (caseOk s.box)):=by
  have:ivOk s.box s.rows=(boxOk s.box&&ivOk s.box s.rows):=by unfold ivOk;cases boxOk s.box<;>simp
  rw[sysOk,this];have:decide ((s.rows.length:Int)≤1024)=decide (s.rows.length≤1024):=decide_eq_decide.mpr (by omega);rw[this];cases boxOk s.box<;>cases ivOk s.box s.rows<;>cases emptyB s.box<;>cases decide (s.rows.length≤1024)<;>rfl
 rw[e2,e];clear e e2;generalize (s.cases.any fun l=>!caseOk s.box l)=q4 at *;generalize (decide ((s.rows.length:Int)≤1024)&&ivOk s.box s.rows)=q3 at *;generalize emptyB s.box=q2 at *;generalize boxOk s.box=q1 at *;obtain⟨b,rs,gs,cs⟩:=s;simp only at *;clear hs;unfold sysB boxP rwsP grsP casP at h4;unfold boxP at h1 h2;unfold boxP rwsP grsP casP at h3;refine pure_body' (C:=ctx) (Fn.of fn46 rfl) rfl ?_;unfold c46;repeat' (first
  |((with_reducible show VCs _);first|exact True.intro|(simp only[vb,lb];omega)|(simp only[vb,lb,h1,h2,h3];and_intros<;>first|omega|(simp<;>omega))|(simp[vb,h1,h2,h3]<;>omega))
  |((with_reducible show All _);first|exact True.intro|((try dsimp only[go_sem]);first|(simp[vb,h1,h2,h3]<;>omega)|(simp only[vb,and_true,true_implies];(repeat' (first|(with_reducible assumption)|(with_reducible apply And.intro)|intro _|((fail_if_success (with_reducible show(_:Int)≤_));assumption)))<;>first|omega|rfl|(simp only[ab,h1,h2,h3];done)|(simp[Nat.mul_one,h1,h2,h3]<;>omega)|(simp_all;done))))
  |exact(rfl:some _=_)
  |(
   fail_if_success refine awL ?_
   refine evT [(71,fun _=>some (.bool q1)),(72,fun _=>some (.bool q2)),(73,fun _=>some (.bool q3))] ?_;repeat1' dsimp only[c46,boxP,rwsP,grsP,casP,go_sem]
   first
   |refine aw4 ?_ ?_ rfl ?_
   |apply aw3
   |apply aw2
   |(refine awB (fun hc=>?_) fun hc=>?_<;>first|(cases hc;done)|(exfalso;first|(simp at hc<;>omega)|(simp[h1,h2,h3]at hc;done))|(try simp only[bn]at hc;try contradiction))
   |skip))
 ·have hr:(q1&& !q2&&q3&&decide (gs.length≤64)&&decide (cs.length≤1024))=false:=by
   rw[Bool.eq_false_iff];simp only[ne_eq,Bool.and_eq_true,decide_eq_true_eq,Bool.not_eq_true'];rintro⟨⟨⟨⟨a,b⟩,c⟩,d⟩,e⟩;subst a b c;simp at hc;omega
  rw[hr];rfl
 ·have hr:(q1&& !q2&&q3&&decide (gs.length≤64)&&decide (cs.length≤1024))=true:=by
   simp only[Bool.and_eq_true,decide_eq_true_eq,Bool.not_eq_true'];obtain⟨⟨⟨⟨a,b⟩,c⟩,d⟩,e⟩:=hc;exact⟨⟨⟨⟨a,b⟩,c⟩,by omega⟩,by omega⟩
  rw[hr,Bool.true_and];clear h1 h2 h3 hc hr;refine aw_forJ gs.length (fun k=>(gs.take k).all (graphOk b.length)=true) (fun k=>[(1,.ptr 0 0 0),(34,.pv (grsP gs)),(35,.pv (.int .i64 gs.length)),(36,.pv (.int .i64 k))]) (fun _=>[⟨[.pv (boxP b),.pv (rwsP rs),.pv (grsP gs),.pv (casP cs)],0,4,36,false⟩]) rfl (by (repeat' (first|exact trivial|refine And.intro (by first|rfl|(simp[get,Nat.beq];done)|(simp[get,Nat.beq];omega)|(dsimp only[get];congr 1<;>first|rfl|omega|(simp;done)|(simp;omega))) ?_))) ⟨_,rfl⟩ (fun _=>⟨Nat.zero_le _,rfl,rfl⟩) fun k hk hP=>?_
  by_cases hlt:k<gs.length
  ·have e:=fm_take grC_len gs k zg hlt;have i1:=all_step (graphOk b.length) gs k zg hlt;have i2:=all_no (graphOk b.length) gs k zg hlt;have hx:=hgr _ (getD_mem (d:=zg) hlt);rw[i1,hP,Bool.true_and];clear i1 hgr;generalize gs.getD k zg=x at *;generalize graphOk b.length x=qx at *;unfold intsQ at hx;repeat' (first
    |((with_reducible show VCs _);first|exact True.intro|(simp only[vb,lb];omega)|(simp only[vb,lb,e,f1,hlt,hx,grC,intsQ];and_intros<;>first|omega|(simp<;>omega))|(simp[vb,e,f1,hlt,hx,grC,intsQ]<;>omega))
    |((with_reducible show All _);first|exact True.intro|((try dsimp only[go_sem]);first|(simp[vb,e,f1,hlt,hx,grC,intsQ]<;>omega)|(simp only[vb,and_true,true_implies];(repeat' (first|(with_reducible assumption)|(with_reducible apply And.intro)|intro _|((fail_if_success (with_reducible show(_:Int)≤_));assumption)))<;>first|omega|rfl|(simp only[ab,e,f1,hlt,hx,grC,intsQ];done)|(simp[Nat.mul_one,e,f1,hlt,hx,grC,intsQ]<;>omega)|(simp_all;done))))
    |exact(rfl:some _=_)
    |(
     fail_if_success refine awL ?_
     refine evTH [(74,fun _=>some (.bool qx))] [(39,{val:=some (.pv (.agg [.int .i64 x.first,.int .i64 x.size,.sl x.least.length (x.least.flatMap intC)]))})] ?_;repeat1' dsimp only[c46,boxP,rwsP,grsP,casP,go_sem]
     first
     |refine aw4 ?_ ?_ rfl ?_
     |apply aw3
     |apply aw2
     |(refine awB (fun hc=>?_) fun hc=>?_<;>first|(cases hc;done)|(exfalso;first|(simp at hc<;>omega)|(simp[e,f1,hlt,hx,grC,intsQ]at hc;done))|(try simp only[bn]at hc;try contradiction))
     |skip))
   ·rw[i2 hc];rfl
   ·exact⟨hlt,hc,by (repeat' (first|exact trivial|refine And.intro (by first|rfl|(simp[get,Nat.beq];done)|(simp[get,Nat.beq];omega)|(dsimp only[get];congr 1<;>first|rfl|omega|(simp;done)|(simp;omega))) ?_)),_,rfl⟩
  ·obtain rfl:k=gs.length:=by omega
   rw[List.take_length]at hP;rw[hP,Bool.true_and];repeat' (first
    |((with_reducible show VCs _);first|exact True.intro|(simp only[vb,lb];omega)|(simp only[vb,lb,hlt,h4];and_intros<;>first|omega|(simp<;>omega))|(simp[vb,hlt,h4]<;>omega))
    |((with_reducible show All _);first|exact True.intro|((try dsimp only[go_sem]);first|(simp[vb,hlt,h4]<;>omega)|(simp only[vb,and_true,true_implies];(repeat' (first|(with_reducible assumption)|(with_reducible apply And.intro)|intro _|((fail_if_success (with_reducible show(_:Int)≤_));assumption)))<;>first|omega|rfl|(simp only[ab,hlt,h4];done)|(simp[Nat.mul_one,hlt,h4]<;>omega)|(simp_all;done))))
    |exact(rfl:some _=_)
    |(
     fail_if_success refine awL ?_
     refine evH [(50,{val:=some (.pv (.bool q4)),ro:=true})] ?_;repeat1' dsimp only[c46,boxP,rwsP,grsP,casP,go_sem]
     first
     |refine aw4 ?_ ?_ rfl ?_
     |apply aw3
     |apply aw2
     |(refine awB (fun hc=>?_) fun hc=>?_<;>first|(cases hc;done)|(exfalso;first|(simp at hc<;>omega)|(simp[hlt,h4]at hc;done))|(try simp only[bn]at hc;try contradiction))
     |skip))
end Pur
end
section
namespace Rf
theorem presentN_len (g:Gr) (b:List Rg):(presentN g b).length=g.least.length:=by simp[presentN]
theorem presentN_at (g:Gr) (b:List Rg) (j:Nat) (h:j<g.least.length):(presentN g b).getD j false=decide (g.least.getD j 0≤(b.getD (g.first.toNat+j) zr).lo):=by
 simp[presentN,List.getD,h]
open Classical in
theorem reachB_iff (n:Nat) (l:List Bool) (u v:Nat):reachB n l u v=true↔Reach n (edgeN n l) u v:=by
 unfold reachB;rw[decide_eq_true_eq]
def fillB (l:List Bool) (k:Nat):List Bool:=l.take k++List.replicate (l.length-k) false
theorem fillB_len (l:List Bool) (k:Nat) (h:k≤l.length):(fillB l k).length=l.length:=by simp[fillB];omega
theorem fillB_set (l:List Bool) (k:Nat) (h:k<l.length):(fillB l k).set k (l.getD k false)=fillB l (k+1):=by
 have h1:(l.take k).length=k:=by simp;omega
 have h2:l.length-k=(l.length-(k+1))+1:=by omega
 unfold fillB;rw[h2,List.replicate_succ,List.set_append_right _ _ (by omega),h1,Nat.sub_self,List.set_cons_zero,Pur.take_succ_getD l k false h,List.append_assoc];rfl
theorem fillB_end (l:List Bool):fillB l l.length=l:=by simp[fillB]
theorem fillB_zero (l:List Bool):fillB l 0=List.replicate l.length false:=by simp[fillB]
end Rf
namespace Pur
open Go.RowKit
attribute [local go_sem] evOps evOp evOpV evRun evK argF List.map hintAt stripped get put tmpsOf tmpOf tmpO tmpL tmpP conds ev cond_true cond_false Nat.beq Nat.ble Nat.add quiet After thenR blockR IfD List.append_eq List.nil_append List.cons_append evInt exactI_a exactI_b exactI_c exactI_d exactI_e exactI_f evBin evStr evBool evUn guardC calm quiet.isCallK evPick List.getElem?_cons_zero List.getElem?_cons_succ fromCells fromPVs cellsOf List.all oneCell List.length_cons List.length_nil mkAgg plains List.drop List.take List.getD Option.getD_some bo1 bo2 ba1 ba2 bn1 bn2 kk_i64 kk_u8 kk_i32 kk_u64 setAt List.set Nat.reduceAdd Nat.reduceMul evCall safeCall refsOf refsIn scalarA scalar scalarL thawL mapAll thawArg thawRef after freeze RetD RetE evResult evRess evRes1 thaw_pv mkTup nilOf_a nilOf_b nilOf_bb nilOf_c nilOf_d nilOf_e nilOf_f nilOf_g nilOf_h nilOf_i nilOf_j nilOf_k nilOf_l nilOf_m eqLeaf_a eqLeaf_b eqLeaf_c eqOffs evMM bytesOf evOpsF AfterF footOf footRefs notIn indepF footAt freeOk still evParts fillA zeros intOfA boundA srcOf List.isEmpty appNil_0 appNil_1 appNil_2 Int.reduceToNat Nat.mul_one Nat.reduceSub evC evOpsT evOpsTF autoH tabHint look hintD strip guarded RetPD RetRD mpLen keysOk leafKA leafK bitI nilOf_n nilOf_o Bool.or_false Bool.or_true Bool.and_true Bool.and_false Nat.blt renF renM renB renV idxOf solF solM solA solV thawRef ev1
open Rf
theorem open_ok (n:Nat) (es:List Bool) (hn:1≤n) (hn2:n≤6) (hlen:es.length=n*n):PureOK ctx 145 [.int .i64 n,boolsQ es] (.tup [.agg [.int .i64 n,boolsQ es],.bool true]):=by
 have hs:=sq_bd (n:=(n:Int)) (by omega) (by omega);have hl:(es.length:Int)=(n:Int)*n:=by rw[hlen];simp
 refine pure_body' (C:=ctx) (Fn.of fn145 rfl) rfl ?_;unfold c145;repeat' (first
  |((with_reducible show VCs _);first|exact True.intro|(simp only[vb,lb];omega)|(simp only[vb,lb,hs,hl,hn,hn2];and_intros<;>first|omega|(simp<;>omega))|(simp[vb,hs,hl,hn,hn2]<;>omega))
  |((with_reducible show All _);first|exact True.intro|((try dsimp only[go_sem]);first|(simp[vb,hs,hl,hn,hn2]<;>omega)|(simp only[vb,and_true,true_implies];(repeat' (first|(with_reducible assumption)|(with_reducible apply And.intro)|intro _|((fail_if_success (with_reducible show(_:Int)≤_));assumption)))<;>first|omega|rfl|(simp only[ab,hs,hl,hn,hn2];done)|(simp[Nat.mul_one,hs,hl,hn,hn2]<;>omega)|(simp_all;done))))
  |exact(rfl:some _=_)
  |(
   fail_if_success refine awL ?_
   refine evA ?_;repeat1' dsimp only[c145,boolsQ,go_sem]
   first
   |refine aw4 ?_ ?_ rfl ?_
   |apply aw3
   |apply aw2
   |(refine awB (fun hc=>?_) fun hc=>?_<;>first|(cases hc;done)|(exfalso;first|(simp at hc<;>omega)|(simp[hs,hl,hn,hn2]at hc;done))|(try simp only[bn]at hc;try contradiction))
   |skip))
 simp;omega
theorem pathT_ok (n:Nat) (es:List Bool) (fr tg:Nat) (hn:1≤n) (hn2:n≤6) (hlen:es.length=n*n) (hf:fr<n) (ht:tg<n) :
  PureOK ctx 128 [.int .i64 n,boolsQ es,.int .i64 fr,.int .i64 tg] (resQ (bfsN n (edgeN n es) tg (n+2) [[(fr:Int)]] (seen0 n fr))):=by
 have h1:=open_ok n es hn hn2 hlen;have h2:=path0_ok n es fr tg hlen hn2 hf ht;generalize hr:resQ (bfsN n (edgeN n es) tg (n+2) [[(fr:Int)]] (seen0 n fr))=r at *;unfold boolsQ at h1 h2;refine pure_body' (C:=ctx) (Fn.of fn128 rfl) rfl ?_;unfold c128;repeat' (first
  |((with_reducible show VCs _);first|exact True.intro|(simp only[vb,lb];omega)|(simp only[vb,lb,h1,h2,hf,ht];and_intros<;>first|omega|(simp<;>omega))|(simp[vb,h1,h2,hf,ht]<;>omega))
  |((with_reducible show All _);first|exact True.intro|((try dsimp only[go_sem]);first|(simp[vb,h1,h2,hf,ht]<;>omega)|(simp only[vb,and_true,true_implies];(repeat' (first|(with_reducible assumption)|(with_reducible apply And.intro)|intro _|((fail_if_success (with_reducible show(_:Int)≤_));assumption)))<;>first|omega|rfl|(simp only[ab,h1,h2,hf,ht];done)|(simp[Nat.mul_one,h1,h2,hf,ht]<;>omega)|(simp_all;done))))
  |exact(rfl:some _=_)
  |(
   fail_if_success refine awL ?_
   refine evT [(145,fun _=>some (.tup [.agg [.int .i64 n,.sl es.length (es.flatMap boolC)],.bool true])),(146,fun _=>some r)] ?_;repeat1' dsimp only[c128,boolsQ,go_sem]
   first
   |refine aw4 ?_ ?_ rfl ?_
   |apply aw3
   |apply aw2
   |(refine awB (fun hc=>?_) fun hc=>?_<;>first|(cases hc;done)|(exfalso;first|(simp at hc<;>omega)|(simp[h1,h2,hf,ht]at hc;done))|(try simp only[bn]at hc;try contradiction))
   |skip))
def plcC (s:Sy) (rows:List Rw) (b:List Rg) (ch:Bool):List PV:=[boxP s.box,rwsP s.rows,grsP s.graphs,casP s.cases,rwsP rows,boxP b,.bool ch]
theorem box_lo (b:List Rg) (i:Nat) (h:i<b.length):(b.flatMap rgC)[i*2]?.getD default= .int .i64 (b.getD i zr).lo:=by
 have:=flatMap_get rgC_len b i zr 0 h (by omega);rw[Nat.add_zero]at this;rw[this];rfl
theorem row_set (l:List Bool) (k:Nat) (v:Bool):((l.flatMap boolC).map AV.pv).set k (.pv (.bool v))=((l.set k v).flatMap boolC).map AV.pv:=by
 rw[flatBool,flatBool,List.map_set,List.map_set]
theorem resQ_len (l:List Int):∃q:Bool,(q=true↔l≠[])∧((l=[]∧resQ l= .nilsl∧q=false)∨(∃n c,resQ l= .sl (n+1) c∧q=true)):=by
 cases l with
 |nil=>exact⟨false,by simp,.inl ⟨rfl,rfl,rfl⟩⟩
 |cons x r=>exact⟨true,by simp,.inr ⟨r.length,_,rfl,rfl⟩⟩
set_option maxHeartbeats 4000000 in
theorem closes_ok (s : Sy) (rows : List Rw) (b : List Rg) (ch : Bool) (g : Gr) (k : Nat) (hg : graphOk b.length g = true) (hb : b.length ≤ 1000000000) (hk : k < g.least.length) :
    PureOK ctx 106 [.agg (plcC s rows b ch), .agg [.int .i64 g.first, .int .i64 g.size, intsQ g.least], .int .i64 k] (.bool (closesN g b k)) := by
  simp only [graphOk, insideB, Bool.and_eq_true, decide_eq_true_eq] at hg
  obtain ⟨⟨⟨⟨⟨g1, g2⟩, g3⟩, g4⟩, g5⟩, g6⟩ := hg
  have hsq := sq_bd g1 g2
  obtain ⟨n, hn⟩ : ∃ n : Nat, g.size = n := ⟨g.size.toNat, by omega⟩
  obtain ⟨fi, hfi⟩ : ∃ fi : Nat, g.first = fi := ⟨g.first.toNat, by omega⟩
  have hlen : g.least.length = n * n := by rw [hn] at g5; have : (n : Int) * n = ((n * n : Nat) : Int) := by simp
                                           omega
  have hpl := presentN_len g b
  have hn1 : 0 < n := by omega
  have hpa := pathT_ok n (presentN g b) (k % n) (k / n) (by omega) (by omega) (by omega) (Nat.mod_lt _ hn1) (by rw [Nat.div_lt_iff_lt_mul hn1]; omega)
  have hcl : closesN g b k = true ↔ bfsN n (edgeN n (presentN g b)) (k / n) (n + 2) [[((k % n : Nat) : Int)]] (seen0 n (k % n)) ≠ [] := by
    unfold closesN
    rw [hn, reachB_iff, bfs_ok (Nat.mod_lt _ hn1)]
    rfl
  generalize hrs : bfsN n (edgeN n (presentN g b)) (k / n) (n + 2) [[((k % n : Nat) : Int)]] (seen0 n (k % n)) = res at *
  generalize closesN g b k = q at *
  have hat := presentN_at g b
  have f1 := ints_len g.least
  have f2 := box_len b
  have f4 := zeros_bool g.least.length
  have f5 : (zeros [.bool false] g.least.length).length = g.least.length := by rw [f4, bools_len]; simp
  obtain ⟨_, _, le⟩ := g
  simp only at *
  subst hn hfi
  generalize presentN ⟨fi, n, le⟩ b = ps at *
  simp only [plcC]
  refine pure_body' (C := ctx) (Fn.of fn106 rfl) rfl ?_
  unfold c106
  repeat' (first
    | ((with_reducible show VCs _); first | exact True.intro | (simp only [vb, lb]; omega) | (simp only [vb, lb, f5]; and_intros <;> first | omega | (simp <;> omega)) | (simp [vb, f5] <;> omega))
    | ((with_reducible show All _); first | exact True.intro | ((try dsimp only [go_sem]); first | (simp [vb, f5] <;> omega) | (simp only [vb, and_true, true_implies]; (repeat' (first | (with_reducible assumption) | (with_reducible apply And.intro) | intro _ | ((fail_if_success (with_reducible show (_ : Int) ≤ _)); assumption))) <;> first | omega | rfl | (simp only [ab, f5]; done) | (simp [Nat.mul_one, f5] <;> omega) | (simp_all; done))))
    | exact (rfl : some _ = _)
    | (
      fail_if_success refine awL ?_
      refine evA ?_
      repeat1' dsimp only [c106, intsQ, boxP, rwsP, grsP, casP, go_sem]
      first
      | refine aw4 ?_ ?_ rfl ?_
      | apply aw3
      | apply aw2
      | (refine awB (fun hc => ?_) fun hc => ?_ <;> first | (cases hc; done) | (exfalso; first | (simp at hc <;> omega) | (simp [f5] at hc; done)) | (try simp only [bn] at hc; try contradiction))
      | skip))
  refine aw_forJ le.length (fun _ => True) (fun j => [(2, .pv (.int .i64 k)), (3, .ptr 0 0 0), (4, .ptr 1 0 0), (7, .ref 2 0 0 le.length), (15, .pv (intsQ le)), (16, .pv (.int .i64 le.length)), (17, .pv (.int .i64 j))])
    (fun j => [⟨[.pv (boxP s.box), .pv (rwsP s.rows), .pv (grsP s.graphs), .pv (casP s.cases), .pv (rwsP rows), .pv (boxP b), .pv (.bool ch)], 0, 7, 73, false⟩, ⟨[.pv (.int .i64 fi), .pv (.int .i64 n), .pv (intsQ le)], 0, 3, 99, false⟩, ⟨((fillB ps j).flatMap boolC).map .pv, 0, 1, 4, false⟩]) trivial (by (repeat' (first | exact trivial | refine And.intro (by first | rfl | (simp [get, Nat.beq]; done) | (simp [get, Nat.beq]; omega) | (dsimp only [get]; congr 1 <;> first | rfl | omega | (simp; done) | (simp; omega))) ?_))) ⟨[], ?_⟩ (fun j => ⟨Nat.zero_le _, rfl, by simp [okMem, bnd]⟩) fun j hj _ => ?_
  · rw [fillB_zero, hpl, ← f4]
    simp [boxP, rwsP, grsP, casP, intsQ]
  by_cases hlt : j < le.length
  · have e1 := fm_one (g := intC) (fun _ => rfl) le j 0 default hlt
    have e2 := box_lo b (fi + j) (by omega)
    have e3 := hat j hlt
    have e4 := fillB_set ps j (by omega)
    have e5 := fillB_len ps j (by omega)
    have e6 : ((fi : Int) + (j : Int)) = ((fi + j : Nat) : Int) := by simp
    have e7 := bools_len (fillB ps j)
    have hlt2 : fi + j < b.length := by omega
    rw [Int.toNat_natCast] at e3
    rw [e3] at e4
    generalize le.getD j 0 = lj at *
    generalize (b.getD (fi + j) zr).lo = lo at *
    repeat' (first
      | ((with_reducible show VCs _); first | exact True.intro | (simp only [vb, lb]; omega) | (simp only [vb, lb, e1, e2, e5, e7, hlt, hlt2, hpl, f1, f2]; and_intros <;> first | omega | (simp <;> omega)) | (simp [vb, e1, e2, e5, e7, hlt, hlt2, hpl, f1, f2] <;> omega))
      | ((with_reducible show All _); first | exact True.intro | ((try dsimp only [go_sem]); first | (simp [vb, e1, e2, e5, e7, hlt, hlt2, hpl, f1, f2] <;> omega) | (simp only [vb, and_true, true_implies]; (repeat' (first | (with_reducible assumption) | (with_reducible apply And.intro) | intro _ | ((fail_if_success (with_reducible show (_ : Int) ≤ _)); assumption))) <;> first | omega | rfl | (simp only [ab, e1, e2, e5, e7, hlt, hlt2, hpl, f1, f2]; done) | (simp [Nat.mul_one, e1, e2, e5, e7, hlt, hlt2, hpl, f1, f2] <;> omega) | (simp_all; done))))
      | exact (rfl : some _ = _)
      | (
        fail_if_success refine awL ?_
        refine evH [(21, { val := some (.pv (.int .i64 lj)) }), (29, { val := some (.pv (.int .i64 (fi + j : Nat))) }), (32, { val := some (.pv (.int .i64 lo)) })] ?_
        repeat1' dsimp only [c106, intsQ, boxP, rwsP, grsP, casP, go_sem]
        first
        | refine aw4 ?_ ?_ rfl ?_
        | apply aw3
        | apply aw2
        | (refine awB (fun hc => ?_) fun hc => ?_ <;> first | (cases hc; done) | (exfalso; first | (simp at hc <;> omega) | (simp [e1, e2, e5, e7, hlt, hlt2, hpl, f1, f2] at hc; done)) | (try simp only [bn] at hc; try contradiction))
        | skip))
    refine ⟨hlt, trivial, by (repeat' (first | exact trivial | refine And.intro (by first | rfl | (simp [get, Nat.beq]; done) | (simp [get, Nat.beq]; omega) | (dsimp only [get]; congr 1 <;> first | rfl | omega | (simp; done) | (simp; omega))) ?_)), [], ?_⟩
    rw [← e4, ← row_set]
    simp
  · obtain rfl : j = le.length := by omega
    rw [← hpl, fillB_end]
    unfold boolsQ at hpa
    have f3 := bools_len ps
    have hz1 : ¬ n = 0 := by omega
    obtain ⟨q', hq', hqq⟩ := resQ_len res
    obtain rfl : q = q' := by rw [Bool.eq_iff_iff, hcl, hq']
    refine aw_frame [(7, .ref 2 0 0 ps.length), (2, .pv (.int .i64 k)), (3, .ptr 0 0 0), (4, .ptr 1 0 0), (15, .pv (intsQ le)), (16, .pv (.int .i64 ps.length)), (17, .pv (.int .i64 ps.length))] (by (repeat' (first | exact trivial | refine And.intro (by first | rfl | (simp [get, Nat.beq]; done) | (simp [get, Nat.beq]; omega) | (dsimp only [get]; congr 1 <;> first | rfl | omega | (simp; done) | (simp; omega))) ?_))) ?_
    refine (aw_rowSlot (μ := [_, _]) (ps := ps.flatMap boolC) (n := ps.length) (g := 0) (t := 7) (sz := 1) (by simp [okMem, bnd]) (Nat.zero_le _) (by omega) f3 (fun _ => rfl) rfl ?_)
    rcases hqq with ⟨-, hr, rfl⟩ | ⟨m, c, hr, rfl⟩
    · rw [hr] at hpa
      repeat' (first
        | ((with_reducible show VCs _); first | exact True.intro | (simp only [vb, lb]; omega) | (simp only [vb, lb, hn1, hpa, hz1]; and_intros <;> first | omega | (simp <;> omega)) | (simp [vb, hn1, hpa, hz1] <;> omega))
        | ((with_reducible show All _); first | exact True.intro | ((try dsimp only [go_sem]); first | (simp [vb, hn1, hpa, hz1] <;> omega) | (simp only [vb, and_true, true_implies]; (repeat' (first | (with_reducible assumption) | (with_reducible apply And.intro) | intro _ | ((fail_if_success (with_reducible show (_ : Int) ≤ _)); assumption))) <;> first | omega | rfl | (simp only [ab, hn1, hpa, hz1]; done) | (simp [Nat.mul_one, hn1, hpa, hz1] <;> omega) | (simp_all; done))))
        | exact (rfl : some _ = _)
        | (
          fail_if_success refine awL ?_
          refine evTH [(128, fun _ => some .nilsl)] [(43, { val := some (.pv (.int .i64 (k % n : Nat))) }), (47, { val := some (.pv (.int .i64 (k / n : Nat))) })] ?_
          repeat1' dsimp only [c106, boolsQ, go_sem]
          first
          | refine aw4 ?_ ?_ rfl ?_
          | apply aw3
          | apply aw2
          | (refine awB (fun hc => ?_) fun hc => ?_ <;> first | (cases hc; done) | (exfalso; first | (simp at hc <;> omega) | (simp [hn1, hpa, hz1] at hc; done)) | (try simp only [bn] at hc; try contradiction))
          | skip))
    · rw [hr] at hpa
      repeat' (first
        | ((with_reducible show VCs _); first | exact True.intro | (simp only [vb, lb]; omega) | (simp only [vb, lb, hn1, hpa, hz1]; and_intros <;> first | omega | (simp <;> omega)) | (simp [vb, hn1, hpa, hz1] <;> omega))
        | ((with_reducible show All _); first | exact True.intro | ((try dsimp only [go_sem]); first | (simp [vb, hn1, hpa, hz1] <;> omega) | (simp only [vb, and_true, true_implies]; (repeat' (first | (with_reducible assumption) | (with_reducible apply And.intro) | intro _ | ((fail_if_success (with_reducible show (_ : Int) ≤ _)); assumption))) <;> first | omega | rfl | (simp only [ab, hn1, hpa, hz1]; done) | (simp [Nat.mul_one, hn1, hpa, hz1] <;> omega) | (simp_all; done))))
        | exact (rfl : some _ = _)
        | (
          fail_if_success refine awL ?_
          refine evTH [(128, fun _ => some (.sl (m + 1) c))] [(43, { val := some (.pv (.int .i64 (k % n : Nat))) }), (47, { val := some (.pv (.int .i64 (k / n : Nat))) })] ?_
          repeat1' dsimp only [c106, boolsQ, go_sem]
          first
          | refine aw4 ?_ ?_ rfl ?_
          | apply aw3
          | apply aw2
          | (refine awB (fun hc => ?_) fun hc => ?_ <;> first | (cases hc; done) | (exfalso; first | (simp at hc <;> omega) | (simp [hn1, hpa, hz1] at hc; done)) | (try simp only [bn] at hc; try contradiction))
          | skip))
      simp
end Pur
end
section
namespace Rf
open Pur (insideB)
def RgLe (x y:Rg):Prop:=y.lo≤x.lo∧x.hi≤y.hi
structure BoxLe (b b':List Rg):Prop where
 len:b.length=b'.length
 at_:∀k,k<b.length→RgLe (b.getD k zr) (b'.getD k zr)
structure RowLe (r r':Rw):Prop where
 t:r.terms=r'.terms
 b:r.bound≤r'.bound
structure RowsLe (l l':List Rw):Prop where
 len:l.length=l'.length
 at_:∀k,k<l.length→RowLe (l.getD k zw) (l'.getD k zw)
theorem RgLe.refl (x:Rg):RgLe x x:=⟨Int.le_refl _,Int.le_refl _⟩
theorem BoxLe.refl (b:List Rg):BoxLe b b:=⟨rfl,fun _ _=>RgLe.refl _⟩
theorem RowsLe.refl (l:List Rw):RowsLe l l:=⟨rfl,fun _ _=>⟨rfl,Int.le_refl _⟩⟩
theorem getD_out {α:Type} (l:List α) (k:Nat) (d:α) (h:¬k<l.length):l.getD k d=d:=by
 rw[List.getD,List.getElem?_eq_none (by omega)];rfl
theorem BoxLe.all {b b':List Rg} (h:BoxLe b b') (k:Nat):RgLe (b.getD k zr) (b'.getD k zr):=by
 by_cases hk:k<b.length
 ·exact h.at_ k hk
 ·rw[getD_out b k zr hk,getD_out b' k zr (by rw[←h.len];exact hk)];exact RgLe.refl _
theorem getD_setR {b:List Rg} {c k:Nat} {x:Rg} (hc:c<b.length):(b.set c x).getD k zr=if k=c then x else b.getD k zr:=by
 rw[List.getD,List.getD];by_cases h:c=k
 ·subst h;simp[hc]
 ·rw[List.getElem?_set_ne h,if_neg (Ne.symm h)]
theorem BoxLe.set {b b':List Rg} (h:BoxLe b b') {c:Nat} {x y:Rg} (hc:c<b.length) (hxy:RgLe x y):BoxLe (b.set c x) (b'.set c y):=by
 refine⟨by simp[h.len],fun k hk=>?_⟩;rw[getD_setR hc,getD_setR (by rw[←h.len];exact hc)];split
 ·exact hxy
 ·exact h.all k
theorem RowsLe.app {l l':List Rw} (h:RowsLe l l') (m:List Rw):RowsLe (l++m) (l'++m):=by
 refine⟨by simp[h.len],fun k hk=>?_⟩;by_cases h1:k<l.length
 ·have h2:=h.at_ k h1;rw[List.getD,List.getD,List.getElem?_append_left h1,List.getElem?_append_left (by rw[←h.len];exact h1)];exact h2
 ·rw[List.getD,List.getD,List.getElem?_append_right (by omega),List.getElem?_append_right (by rw[←h.len];omega),h.len];exact⟨rfl,Int.le_refl _⟩
theorem emptyB_iff (b:List Rg):emptyB b=true↔∃k,k<b.length∧(b.getD k zr).hi<(b.getD k zr).lo:=by
 unfold emptyB;rw[List.any_eq_true];constructor
 ·rintro⟨x,hx,h⟩;obtain⟨k,hk,rfl⟩:=List.mem_iff_getElem.mp hx;exact⟨k,hk,by rw[List.getD,List.getElem?_eq_getElem hk];simpa [emptyR]using h⟩
 ·rintro⟨k,hk,h⟩;exact⟨_,Pur.getD_mem hk,by simpa [emptyR]using h⟩
theorem BoxLe.empty {b b':List Rg} (h:BoxLe b b') (he:emptyB b'=true):emptyB b=true:=by
 rw[emptyB_iff]at he ⊢;obtain⟨k,hk,h1⟩:=he;have:=h.all k;exact⟨k,by rw[h.len];exact hk,by obtain⟨a,c⟩:=this;omega⟩
theorem endN_le {b b':List Rg} (h:BoxLe b b') (t:Tm):endN b' t≤endN b t:=by
 obtain⟨h1,h2⟩:=h.all t.cell.toNat;unfold endN;split
 ·exact Int.mul_le_mul_of_nonneg_left h1 (by omega)
 ·exact Int.mul_le_mul_of_nonpos_left (by omega) h2
theorem loSum_le {b b':List Rg} (h:BoxLe b b') (c:Int):∀l:List Tm,loSum b' c l≤loSum b c l
 |[]=>Int.le_refl _
 |t::r=>by
  have h1:=loSum_le h c r;have h2:=endN_le h t;simp only[loSum];split<;>omega
theorem tight_le {b b':List Rg} {r r':Rw} (hb:BoxLe b b') (hr:RowLe r r') (c:Int):(tightN r b c).hi<(tightN r b c).lo∨RgLe (tightN r b c) (tightN r' b' c):=by
 obtain⟨h1,h2⟩:=hb.all c.toNat;have h3:=loSum_le hb c r'.terms;have h4:=hr.b;unfold tightN;rw[hr.t];dsimp only;generalize b.getD c.toNat zr=x at *;generalize b'.getD c.toNat zr=y at *;generalize loSum b c r'.terms=s1 at *;generalize loSum b' c r'.terms=s2 at *;generalize facOf c r'.terms=f at *;by_cases hf:f=0
 ·rw[if_pos hf,if_pos hf];exact .inr ⟨h1,h2⟩
 ·rw[if_neg hf,if_neg hf];by_cases hp:0<f
  ·simp only[hp,if_true];have h5:(r.bound-s1) / f≤(r'.bound-s2) / f:=Int.ediv_le_ediv hp (by omega);generalize (r.bound-s1) / f=q1 at *;generalize (r'.bound-s2) / f=q2 at *;by_cases he:min x.hi q1<x.lo
   ·rw[if_pos he];exact .inl (by decide)
   ·rw[if_neg he,if_neg (by omega)];exact .inr ⟨h1,by show min x.hi q1≤min y.hi q2;omega⟩
  ·simp only[hp,if_false];have h5:(r.bound-s1) / -f≤(r'.bound-s2) / -f:=Int.ediv_le_ediv (by omega) (by omega);generalize (r.bound-s1) / -f=q1 at *;generalize (r'.bound-s2) / -f=q2 at *;by_cases he:x.hi<max x.lo (-q1)
   ·rw[if_pos he];exact .inl (by decide)
   ·rw[if_neg he,if_neg (by omega)];exact .inr ⟨by show max y.lo (-q2)≤max x.lo (-q1);omega,h2⟩
theorem tight_sub {b:List Rg} {r:Rw} (c:Int) (h:¬(tightN r b c).hi<(tightN r b c).lo):RgLe (tightN r b c) (b.getD c.toNat zr):=by
 unfold tightN at h ⊢;dsimp only at h ⊢;generalize b.getD c.toNat zr=x at *;generalize (r.bound-loSum b c r.terms)=rest at *;generalize facOf c r.terms=f at *;by_cases hf:f=0
 ·rw[if_pos hf];exact RgLe.refl _
 ·rw[if_neg hf]at h ⊢;by_cases hp:0<f
  ·simp only[hp,if_true]at h ⊢;by_cases he:min x.hi (rest / f)<x.lo
   ·rw[if_pos he]at h;exact absurd (by decide) h
   ·rw[if_neg he];exact⟨Int.le_refl _,by show min _ _≤_;omega⟩
  ·simp only[hp,if_false]at h ⊢;by_cases he:x.hi<max x.lo (-(rest / -f))
   ·rw[if_pos he]at h;exact absurd (by decide) h
   ·rw[if_neg he];exact⟨by show _≤max _ _;omega,Int.le_refl _⟩
theorem reach_mono {n:Nat} {e e':Nat→Nat→Bool} {a b:Nat} (h:∀u v,e u v=true→e' u v=true) (hr:Reach n e a b):Reach n e' a b:=by
 induction hr with
 |here=>exact .here
 |step _ h1 h2 ih=>exact .step ih h1 (h _ _ h2)
theorem present_mono {b b':List Rg} (h:BoxLe b b') (g:Gr) (n u v:Nat) (he:edgeN n (presentN g b') u v=true):edgeN n (presentN g b) u v=true:=by
 unfold edgeN at he ⊢;by_cases hk:u*n+v<g.least.length
 ·rw[presentN_at g b' _ hk,decide_eq_true_eq]at he;rw[presentN_at g b _ hk,decide_eq_true_eq];have:=(h.all (g.first.toNat+(u*n+v))).1;omega
 ·rw[getD_out _ _ _ (by simp[presentN];omega)]at he;cases he
open Classical in
theorem closes_mono {b b':List Rg} (h:BoxLe b b') (g:Gr) (k:Nat) (hc:closesN g b' k=true):closesN g b k=true:=by
 unfold closesN reachB at hc ⊢;rw[decide_eq_true_eq]at hc ⊢;exact reach_mono (fun u v he=>present_mono h g _ u v he) hc
theorem cut_le {b b':List Rg} (h:BoxLe b b') (g:Gr) (k:Nat):RgLe (cutN g b k) (cutN g b' k):=by
 obtain⟨h1,h2⟩:=h.all (g.first.toNat+k);unfold cutN;dsimp only;generalize b.getD (g.first.toNat+k) zr=x at *;generalize b'.getD (g.first.toNat+k) zr=y at *;by_cases hc:closesN g b' k=true
 ·rw[if_pos hc,if_pos (closes_mono h g k hc)];exact⟨h1,by show min _ _≤min _ _;omega⟩
 ·rw[if_neg hc];split
  ·exact⟨h1,by show min _ _≤_;omega⟩
  ·exact⟨h1,h2⟩
theorem cut_sub (g:Gr) (b:List Rg) (k:Nat):RgLe (cutN g b k) (b.getD (g.first.toNat+k) zr):=by
 unfold cutN;dsimp only;split
 ·exact⟨Int.le_refl _,by show min _ _≤_;omega⟩
 ·exact RgLe.refl _
theorem rgOk_sub {x y:Rg} (hy:rgOk y=true) (h:RgLe x y) (he:¬x.hi<x.lo):rgOk x=true:=by
 obtain⟨h1,h2⟩:=h;have:=rgOk_bd hy;simp only[rgOk,insideB,Bool.and_eq_true,decide_eq_true_eq];omega
theorem boxOk_set {b:List Rg} {c:Nat} {x:Rg} (hb:boxOk b=true) (hx:rgOk x=true):boxOk (b.set c x)=true:=by
 simp only[boxOk,Bool.and_eq_true,List.all_eq_true,decide_eq_true_eq,List.length_set]at hb ⊢;refine⟨fun y hy=>?_,hb.2⟩;rcases List.mem_or_eq_of_mem_set hy with h|h
 ·exact hb.1 y h
 ·rw[h];exact hx
def StepLe (p p':List Rg×Bool×Bool):Prop:=p'.2.1=true→p.2.1=true∧(p'.2.2=true→p.2.2=true)∧(p.2.2=true∨(BoxLe p.1 p'.1∧boxOk p.1=true))
theorem step_le {s s':Sy} (hg:s.graphs=s'.graphs) {rows rows':List Rw} (hr:RowsLe rows rows') {b b':List Rg} (hb:BoxLe b b') (hok:boxOk b=true) (hok':boxOk b'=true) (hrow:∀r∈rows,rowOk b.length r=true) (hrow':∀r∈rows',rowOk b'.length r=true) (x:RStep) (hx:0≤x.index) (hgo:∀q∈s.graphs,graphOk b.length q=true) :
  StepLe (stepN s rows b x) (stepN s' rows' b' x):=by
 intro hp;unfold stepN at hp ⊢;rw[←hg]at hp ⊢;by_cases hk:x.kind=1
 ·simp only[if_pos hk]at hp ⊢;by_cases h1:x.index<s.graphs.length
  ·simp only[if_pos h1]at hp ⊢;have hq:=hgo _ (Pur.getD_mem (d:=zg) (show x.index.toNat<s.graphs.length by omega));generalize s.graphs.getD x.index.toNat zg=g at *;(try dsimp only at hp ⊢)
   by_cases h2:g.first≤x.cell∧x.cell<g.first+g.least.length
   ·simp only[if_pos h2];simp only[graphOk,insideB,Bool.and_eq_true,decide_eq_true_eq]at hq;obtain⟨⟨⟨⟨⟨g1,g2⟩,g3⟩,g4⟩,g5⟩,g6⟩:=hq;have hc:x.cell.toNat<b.length:=by omega
    have hfc:g.first.toNat+(x.cell-g.first).toNat=x.cell.toNat:=by omega
    have hle:=cut_le hb g (x.cell-g.first).toNat;have hsub:=cut_sub g b (x.cell-g.first).toNat;rw[hfc]at hsub;refine⟨trivial,fun h=>?_,?_⟩
    ·have h:(cutN g b' (x.cell-g.first).toNat).hi<(cutN g b' (x.cell-g.first).toNat).lo:=of_decide_eq_true h;obtain⟨a1,a2⟩:=hle;exact decide_eq_true (by omega)
    ·by_cases he:(cutN g b (x.cell-g.first).toNat).hi<(cutN g b (x.cell-g.first).toNat).lo
     ·exact .inl (by simp[emptyR,he])
     ·exact .inr ⟨hb.set hc hle,boxOk_set hok (rgOk_sub (boxOk_at hok _) hsub he)⟩
   ·rw[if_neg h2]at hp;cases hp
  ·rw[if_neg h1]at hp;cases hp
 ·rw[if_neg hk]at hp ⊢;rw[if_neg hk];by_cases h1:x.index<rows'.length∧x.cell<b'.length
  ·rw[if_pos h1]at hp ⊢;have h2:x.index<rows.length∧x.cell<b.length:=by rw[hr.len,hb.len];exact h1
   rw[if_pos h2];have hi:x.index.toNat<rows.length:=by omega
   have hrl:=hr.at_ _ hi;have hro:=hrow _ (Pur.getD_mem (d:=zw) hi);have hro':=hrow' _ (Pur.getD_mem (d:=zw) (show x.index.toNat<rows'.length by omega));generalize rows.getD x.index.toNat zw=r at *;generalize rows'.getD x.index.toNat zw=r' at *;dsimp only at hp ⊢;by_cases h3:x.cell<0
   ·rw[if_pos h3]at hp ⊢;rw[if_pos h3];have hp:(r'.terms.isEmpty&&decide (r'.bound<0))=true:=hp;simp only[Bool.and_eq_true,decide_eq_true_eq]at hp;obtain⟨p1,p2⟩:=hp;have p3:=hrl.b;have p4:=hrl.t;have e:(r.terms.isEmpty&&decide (r.bound<0))=true:=by
     rw[p4,p1,decide_eq_true (by omega)];rfl
    exact⟨e,fun _=>e,.inl e⟩
   ·rw[if_neg h3,if_neg h3];have hc:x.cell.toNat<b.length:=by omega
    have t1:tighten r b x.cell=tightN r b x.cell:=by
     unfold tighten;rw[if_pos ⟨by simp[ivOk,hok,hro],by omega,by omega⟩]
    have t2:tighten r' b' x.cell=tightN r' b' x.cell:=by
     unfold tighten;rw[if_pos ⟨by simp[ivOk,hok',hro'],by omega,by omega⟩]
    rw[t1,t2];rcases tight_le hb hrl x.cell with h|h
    ·exact⟨rfl,fun _=>by simp[emptyR,h],.inl (by simp[emptyR,h])⟩
    ·refine⟨rfl,fun h'=>?_,?_⟩
     ·have h':(tightN r' b' x.cell).hi<(tightN r' b' x.cell).lo:=of_decide_eq_true h';obtain⟨a1,a2⟩:=h;exact decide_eq_true (by omega)
     ·by_cases he:(tightN r b x.cell).hi<(tightN r b x.cell).lo
      ·exact .inl (by simp[emptyR,he])
      ·exact .inr ⟨hb.set hc h,boxOk_set hok (rgOk_sub (boxOk_at hok _) (tight_sub x.cell he) he)⟩
  ·rw[if_neg h1]at hp;cases hp
theorem stepN_cp (s:Sy) (rows:List Rw) (b:List Rg) (x:RStep):(stepN s rows b x).2.2=true→(stepN s rows b x).2.1=true:=by
 unfold stepN;dsimp only;(repeat' split)<;>simp
theorem steps_le {s s':Sy} (hg:s.graphs=s'.graphs) {rows rows':List Rw} (hr:RowsLe rows rows') {n:Nat} (hrow:∀r∈rows,rowOk n r=true) (hrow':∀r∈rows',rowOk n r=true) (hgo:∀q∈s.graphs,graphOk n q=true) :
  ∀(l:List RStep),(∀x∈l,0≤x.index)→∀(b b':List Rg),BoxLe b b'→b.length=n→boxOk b=true→boxOk b'=true →
   (stepsOn s' rows' l b'= .error true→stepsOn s rows l b= .error true)∧(∀c',stepsOn s' rows' l b'= .ok c'→stepsOn s rows l b= .error true∨∃c,stepsOn s rows l b= .ok c∧BoxLe c c'∧boxOk c=true∧boxOk c'=true)
 |[],_,b,b',hb,hn,hok,hok'=>⟨fun h=>(by cases h),fun c' h=>by injection h with h;subst h;exact .inr ⟨b,rfl,hb,hok,hok'⟩⟩
 |x::l,hx,b,b',hb,hn,hok,hok'=>by
  have h1:=step_le hg hr hb hok hok' (by rw[hn];exact hrow) (by rw[←hb.len,hn];exact hrow') x (hx x (by simp)) (by rw[hn];exact hgo);have h2:=step_le (s:=s') (s':=s') rfl (RowsLe.refl rows') (BoxLe.refl b') hok' hok' (by rw[←hb.len,hn];exact hrow') (by rw[←hb.len,hn];exact hrow') x (hx x (by simp)) (by rw[←hg,←hb.len,hn];exact hgo);have hl:=stepN_len s rows b x;have hcp:=stepN_cp s' rows' b' x;rw[stepsOn,stepsOn];generalize stepN s rows b x=p at *;generalize stepN s' rows' b' x=p' at *;obtain⟨b1,pp,cc⟩:=p;obtain⟨b1',pp',cc'⟩:=p';simp only at hl;simp only at hcp;cases hpp:pp' with
  |false =>
   cases hcc:cc' with
   |false=>simp
   |true =>
    rw[hpp]at hcp;exact absurd (hcp hcc) (by simp)
  |true =>
   subst hpp;obtain⟨g1,g2,g3⟩:=h1 rfl;obtain⟨-,-,g4⟩:=h2 rfl;simp only at g1 g2 g3 g4;subst g1;cases cc' with
   |true =>
    have:=g2 rfl;subst this;simp
   |false =>
    simp only[Bool.false_eq_true,if_false,if_true];have g4:=(g4.resolve_left (by simp)).2;cases cc with
    |true=>simp
    |false =>
     simp only[Bool.false_eq_true,if_false];have g3:=g3.resolve_left (by simp);exact steps_le hg hr hrow hrow' hgo l (fun y hy=>hx y (by simp[hy])) b1 b1' g3.1 (hl.trans hn) g3.2 g4
structure MonOk (s:Sy) (n:Nat):Prop where
 g:∀q∈s.graphs,graphOk n q=true
 c:∀l∈s.cases,∀r∈l,rowOk n r=true
theorem box_split {b:List Rg} {c:Nat} {x:Rg} (hc:c<b.length) (hok:boxOk b=true) (hx:RgLe x (b.getD c zr)):emptyB (b.set c x)=true∨boxOk (b.set c x)=true:=by
 by_cases he:x.hi<x.lo
 ·exact .inl ((emptyB_iff _).mpr ⟨c,by simpa using hc,by rw[getD_setR hc,if_pos rfl];exact he⟩)
 ·exact .inr (boxOk_set hok (rgOk_sub (boxOk_at hok c) hx he))
theorem accept_mono {s s':Sy} (hg:s.graphs=s'.graphs) (hcs:s.cases=s'.cases) {n:Nat} (hm:MonOk s n):∀(t:Tree),formedB t=true→∀(rows rows':List Rw),RowsLe rows rows'→(∀r∈rows,rowOk n r=true)→(∀r∈rows',rowOk n r=true) →
  ∀(b b':List Rg) (ch:Bool),BoxLe b b'→b.length=n→(emptyB b=true∨boxOk b=true)→(emptyB b'=true∨boxOk b'=true)→acceptN s' t rows' b' ch=true→acceptN s t rows b ch=true:=by
 refine Tree.ind fun k st c a l ih hf rows rows' hr hrow hrow' b b' ch hb hn hok hok' h=>?_
 rw[acceptN_node]at h ⊢;by_cases he:emptyB b=true
 ·rw[if_pos he]
 rw[if_neg he];have he':¬emptyB b'=true:=fun h=>he (hb.empty h)
 rw[if_neg he']at h;have hok:=hok.resolve_left he;have hok':=hok'.resolve_left he';rw[formedB_node]at hf;simp only[Bool.and_eq_true]at hf;obtain⟨⟨hf1,hf2⟩,hf3⟩:=hf;obtain⟨s1,s2⟩:=steps_le hg hr hrow hrow' hm.g st (fun x hx=>by
  have:=List.all_eq_true.mp hf1 x hx;simp only[rstepOk,insideB,Bool.and_eq_true,decide_eq_true_eq]at this;omega) b b' hb hn hok hok'
 cases hs:stepsOn s' rows' st b' with
 |error r =>
  rw[hs]at h;simp only at h;subst h;rw[s1 hs]
 |ok c' =>
  rw[hs]at h;simp only at h;rcases s2 c' hs with h1|⟨b1,h1,hb1,o1,o1'⟩
  ·rw[h1]
  rw[h1];simp only;have hn1:b1.length=n:=(stepsOn_len _ _ _ _ _ h1).trans hn;unfold accT at h ⊢;by_cases hk:k=1
  ·rw[if_pos hk]at h ⊢;by_cases hc:c<c'.length
   ·rw[if_pos hc]at h;rw[if_pos (by rw[hb1.len];exact hc)];subst hk;simp[tailOk,insideB]at hf2;obtain⟨⟨t1,t2,t3⟩,t4,t5⟩:=hf2;match l,t1,h with
    |[k0,k1],_,h =>
     simp only[List.map_cons,List.map_nil,Bool.and_eq_true]at h ⊢;have hc1:c.toNat<b1.length:=by rw[hb1.len];omega
     have hc2:c.toNat<c'.length:=by omega
     obtain⟨y1,y2⟩:=hb1.all c.toNat;have m1:RgLe ⟨(b1.getD c.toNat zr).lo,min (b1.getD c.toNat zr).hi a⟩ (b1.getD c.toNat zr):=⟨Int.le_refl _,by show min _ _≤_;omega⟩
     have m2:RgLe ⟨(c'.getD c.toNat zr).lo,min (c'.getD c.toNat zr).hi a⟩ (c'.getD c.toNat zr):=⟨Int.le_refl _,by show min _ _≤_;omega⟩
     have m3:RgLe ⟨max (b1.getD c.toNat zr).lo (a+1),(b1.getD c.toNat zr).hi⟩ (b1.getD c.toNat zr):=⟨by show _≤max _ _;omega,Int.le_refl _⟩
     have m4:RgLe ⟨max (c'.getD c.toNat zr).lo (a+1),(c'.getD c.toNat zr).hi⟩ (c'.getD c.toNat zr):=⟨by show _≤max _ _;omega,Int.le_refl _⟩
     simp only[List.all_cons,List.all_nil,Bool.and_true,Bool.and_eq_true]at hf3;exact⟨ih k0 (by simp) hf3.1 rows rows' hr hrow hrow' _ _ ch (hb1.set hc1 (y:=⟨(c'.getD c.toNat zr).lo,min (c'.getD c.toNat zr).hi a⟩) ⟨y1,by show min _ _≤min _ _;omega⟩) (by simpa using hn1) (box_split hc1 o1 m1) (box_split hc2 o1' m2) h.1,
      ih k1 (by simp) hf3.2 rows rows' hr hrow hrow' _ _ ch (hb1.set hc1 (y:=⟨max (c'.getD c.toNat zr).lo (a+1),(c'.getD c.toNat zr).hi⟩) ⟨by show max _ _≤max _ _;omega,y2⟩) (by simpa using hn1) (box_split hc1 o1 m3) (box_split hc2 o1' m4) h.2⟩
   ·rw[if_neg hc]at h;cases h
  ·rw[if_neg hk]at h ⊢;by_cases hk2:k=2
   ·rw[if_pos hk2]at h ⊢;simp only[Bool.and_eq_true,List.length_map]at h ⊢;rw[←hcs]at h;refine⟨h.1,?_⟩;have key:∀(l:List Tree) (cs:List (List Rw)),(∀t∈l,∀(rows rows':List Rw),RowsLe rows rows'→(∀r∈rows,rowOk n r=true)→(∀r∈rows',rowOk n r=true)→acceptN s' t rows' c' true=true→acceptN s t rows b1 true=true)→(∀q∈cs,∀r∈q,rowOk n r=true) →
      accK rows' c' (l.map (acceptN s')) cs=true→accK rows b1 (l.map (acceptN s)) cs=true:=by
     intro l;induction l with
     |nil=>intro cs _ _ _;cases cs<;>rfl
     |cons t r ihr =>
      intro cs h1 h2 h3;cases cs with
      |nil=>rfl
      |cons q cs =>
       simp only[List.map_cons,accK,Bool.and_eq_true]at h3 ⊢;refine⟨h1 t (by simp) _ _ (hr.app q) (fun r hr=>?_) (fun r hr=>?_) h3.1,ihr cs (fun t ht=>h1 t (by simp[ht])) (fun q hq=>h2 q (by simp[hq])) h3.2⟩
       ·rcases List.mem_append.mp hr with h|h
        ·exact hrow r h
        ·exact h2 q (by simp) r h
       ·rcases List.mem_append.mp hr with h|h
        ·exact hrow' r h
        ·exact h2 q (by simp) r h
    refine key l s.cases (fun t ht R R' g1 g2 g3 g4=>?_) hm.c h.2;exact ih t ht (List.all_eq_true.mp hf3 t ht) R R' g1 g2 g3 b1 c' true hb1 hn1 (.inr o1) (.inr o1') g4
   ·rw[if_neg hk2]at h;cases h
end Rf
end
end Go.Proofs.YtaleoeblooeglaaGreatDoor
