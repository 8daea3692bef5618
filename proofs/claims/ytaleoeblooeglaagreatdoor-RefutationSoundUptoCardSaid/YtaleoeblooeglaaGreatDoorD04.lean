/-
  RefutationSound: what a tree refutes has no solution, for any system and tree whose bulk is at most 1048576 (the tables laid); names shortened by a program (RfY RfH RfZ RfZA RfMA RfG2 RfG3 RfI RfZB RfMB RfPb RfMC RfAx RfAy RfMD RfG4 RfMo RfT2 RfT4 Grow)
-/
import Derived.Test.YtaleoeblooeglaaGreatDoorD03
import Derived.Shelf.Spec.SlicesGrow
set_option maxRecDepth 10000
set_option linter.unusedSimpArgs false
set_option linter.unusedVariables false
namespace Go.Proofs.YtaleoeblooeglaaGreatDoor
section
namespace Rf
open Pur
def Ej (k:Int) (_:Int) (t:Tree):Bool×Int:=(true,IntKind.i64.wrap (k+t.steps.length))
def G1 (k:Int) (lev:Int) (_:Tree):Bool×Int:=(true,if k<lev then lev else k)
theorem zE {n:Int} (h1:0≤n) (h2:n≤4000000000):IntKind.i64.wrap n=n:=jf (by unfold mi;omega) (by unfold ij;omega)
mutual
theorem zF:∀(t:Tree) (k lev:Int),0≤k→k+wt t≤3000000000→qH Ej k lev t=(true,k+ko t)
 | .node kd s c a l,k,lev,h0,h1=>by
  rw[dI]at h1;rw[qH,mT];show(match Ej k lev (.node kd s c a l) with|(false,k1)=>(false,k1)|(true,k1)=>iQ Ej k1 (lev+1) l)=_;have hs:Ej k lev (.node kd s c a l)=(true,k+s.length):=by
   simp only[Ej,Tree.steps];rw[zE (by omega) (by omega)]
  rw[hs];show iQ Ej _ _ l=_;rw[wY l _ _ (by omega) (by push_cast at h1;omega)];simp only[Prod.mk.injEq,true_and];push_cast;omega
theorem wY:∀(l:List Tree) (k lev:Int),0≤k→k+jG l≤3000000000→iQ Ej k lev l=(true,k+jv l)
 |[],k,lev,h0,h1=>by rw[iQ];simp[jv]
 |t::r,k,lev,h0,h1=>by
  rw[jG]at h1;have:=AJ t;rw[iQ,zF t k lev h0 (by push_cast at h1;omega)];show iQ Ej _ _ r=_;rw[wY r _ _ (by omega) (by push_cast at h1;omega),jv];simp only[Prod.mk.injEq,true_and];push_cast;omega
end
mutual
theorem zG:∀(t:Tree) (k lev:Int),lev-1≤k→qH G1 k lev t=(true,if k<lev+fK t-1 then lev+fK t-1 else k)
 | .node kd s c a l,k,lev,h0=>by
  rw[qH,mU];show iQ G1 (if k<lev then lev else k) (lev+1) l=_;rw[wZ l _ _ (by split<;>omega)];simp only[Prod.mk.injEq,true_and];(repeat' split)<;>omega
theorem wZ:∀(l:List Tree) (k lev:Int),lev-1≤k→iQ G1 k lev l=(true,if k<lev+gj l-1 then lev+gj l-1 else k)
 |[],k,lev,h0=>by
  rw[iQ];simp only[gj,Prod.mk.injEq,true_and];(repeat' split)<;>omega
 |t::r,k,lev,h0=>by
  rw[iQ,zG t k lev h0];show iQ G1 _ lev r=_;rw[wZ r _ _ (by split<;>omega),gj];simp only[Prod.mk.injEq,true_and];rcases Nat.le_total (fK t) (gj r) with h|h
  ·rw[Nat.max_eq_right h];(repeat' split)<;>omega
  ·rw[Nat.max_eq_left h];(repeat' split)<;>omega
end
def ud (k:Int×Bool) (lev:Int) (t:Tree):Bool×Int×Bool :=
 let c:=IntKind.i64.wrap (k.1+(1+t.steps.length))
 let bad:=bif decide (lev>4096) then true else bif decide (c>65536) then true else !qu t
 (!bad,c,bad)
theorem F6 (a b:Bool):(bif a then true else b)=(a||b):=by cases a<;>rfl
mutual
theorem zH:∀(t:Tree) (c lev:Int),0≤c→c+wt t≤3000000000→(qH ud (c,false) lev t).2.2= !(qH ud (c,false) lev t).1 ∧
  ((qH ud (c,false) lev t).1=true↔(lev+fK t≤4097∧c+wt t≤65536∧gp t=true))∧((qH ud (c,false) lev t).1=true→(qH ud (c,false) lev t).2=(c+wt t,false))
 | .node kd s x a l,c,lev,h0,h1=>by
  rw[dI]at h1 ⊢;rw[qH,mU,dU];have hs:ud (c,false) lev (.node kd s x a l)=(!(decide (lev>4096)||(decide (c+(1+s.length)>65536)|| !(s.all bY&&gm kd x a l.length))),c+(1+s.length),decide (lev>4096)||(decide (c+(1+s.length)>65536)|| !(s.all bY&&gm kd x a l.length))):=by
   have hw:IntKind.i64.wrap (c+(1+s.length))=c+(1+s.length):=zE (by omega) (by push_cast at h1;omega);simp only[ud,qu,Tree.steps,Tree.kind,Tree.cell,Tree.pos,Tree.kids,F6,hw]
  rw[hs];cases hb:decide (lev>4096)||(decide (c+(1+s.length)>65536)|| !(s.all bY&&gm kd x a l.length)) with
  |true =>
   refine⟨rfl,⟨(fun h=>by cases h),fun ⟨g1,g2,g3⟩=>?_⟩,(fun h=>by cases h)⟩;exfalso;simp only[Bool.and_eq_true]at g3;simp only[Bool.or_eq_true,decide_eq_true_eq,Bool.not_eq_true',Bool.and_eq_false_iff]at hb;rw[g3.1.1,g3.1.2]at hb;push_cast at g1 g2;simp at hb;omega
  |false =>
   simp only[Bool.or_eq_false_iff,decide_eq_false_iff_not,Bool.not_eq_false']at hb;obtain⟨b1,b2,b3⟩:=hb;obtain⟨q1,q2,q3⟩:=w5 l (c+(1+s.length)) (lev+1) (by omega) (by push_cast at h1;omega) (by omega) (by omega);refine⟨q1,q2.trans ?_,fun h=>(q3 h).trans ?_⟩
   ·rw[b3,Bool.true_and];push_cast;constructor
    ·rintro⟨g1,g2,g3⟩;exact⟨by omega,by omega,g3⟩
    ·rintro⟨g1,g2,g3⟩;exact⟨by omega,by omega,g3⟩
   ·push_cast;rw[Prod.mk.injEq];exact⟨by omega,rfl⟩
theorem w5:∀(l:List Tree) (c lev:Int),0≤c→c+jG l≤3000000000→c≤65536→lev≤4097→(iQ ud (c,false) lev l).2.2= !(iQ ud (c,false) lev l).1 ∧
  ((iQ ud (c,false) lev l).1=true↔(lev+gj l≤4097∧c+jG l≤65536∧l.all gp=true))∧((iQ ud (c,false) lev l).1=true→(iQ ud (c,false) lev l).2=(c+jG l,false))
 |[],c,lev,h0,h1,h2,h3=>by
  rw[iQ];refine⟨rfl,⟨fun _=>⟨by simp[gj];omega,by simp[jG];omega,rfl⟩,fun _=>rfl⟩,fun _=>by simp[jG]⟩
 |t::r,c,lev,h0,h1,h2,h3=>by
  rw[jG]at h1 ⊢;rw[iQ,gj,List.all_cons];obtain⟨q1,q2,q3⟩:=zH t c lev h0 (by push_cast at h1;omega);generalize qH ud (c,false) lev t=v at *;obtain⟨b,k1⟩:=v;simp only at q1 q2 q3;cases b with
  |false =>
   refine⟨q1,⟨(fun h=>by cases h),fun ⟨g1,g2,g3⟩=>?_⟩,(fun h=>by cases h)⟩;rw[Bool.and_eq_true]at g3;have:=Nat.le_max_left (fK t) (gj r);exact absurd (q2.mpr ⟨by omega,by push_cast at g2;omega,g3.1⟩) (by simp)
  |true =>
   obtain⟨g1,g2,g3⟩:=q2.mp rfl;obtain rfl:=q3 rfl;obtain⟨p1,p2,p3⟩:=w5 r (c+wt t) lev (by omega) (by push_cast at h1;omega) (by omega) h3;refine⟨p1,p2.trans ?_,fun h=>(p3 h).trans ?_⟩
   ·rw[g3,Bool.true_and];push_cast;constructor
    ·rintro⟨e1,e2,e3⟩;exact⟨by rcases Nat.le_total (fK t) (gj r) with h|h<;>simp only[Nat.max_eq_right h,Nat.max_eq_left h]<;>omega,by omega,e3⟩
    ·rintro⟨e1,e2,e3⟩;exact⟨by have:=Nat.le_max_right (fK t) (gj r);omega,by omega,e3⟩
   ·push_cast;rw[Prod.mk.injEq];exact⟨by omega,rfl⟩
end
theorem CJ (t:Tree) (h:wt t≤1000000000):(qH ud (0,false) 1 t).2.2= !iR t:=by
 obtain⟨q1,q2,-⟩:=zH t 0 1 (by omega) (by omega);rw[q1];congr 1;rw[Bool.eq_iff_iff,q2];simp only[iR,Bool.and_eq_true,decide_eq_true_eq];constructor
 ·rintro⟨a,b,c⟩;exact⟨⟨by omega,by omega⟩,c⟩
 ·rintro⟨⟨a,b⟩,c⟩;exact⟨by omega,by omega,c⟩
end Rf
namespace Pur
open Go.RowKit
attribute [local go_sem] bI fa bR bu cS gf List.map aX aG get put tmpsOf dF iW gF iG conds ev cond_true cond_false Nat.beq Nat.ble Nat.add quiet dG cf cF pn List.append_eq List.nil_append List.cons_append dE cy cz cA cB cC cD fg eY dv jb dH calm quiet.isCallK cH List.getElem?_cons_zero List.getElem?_cons_succ bp b6 cellsOf List.all bC List.length_cons List.length_nil eP a6 List.drop List.take List.getD Option.getD_some qR qS qF qT qU qV eB gC eC eD setAt List.set Nat.reduceAdd Nat.reduceMul b9 bw refsOf bG bM scalar cd ef bL ca aN after freeze im gT aS dx dQ dt eH c6 c7 cj da db de dh di dj dk dm dn dp dq ck cp cu dw jc bytesOf bH cU aQ bD dS bA bT cI still bW ed dy dW bP eI List.isEmpty cv cw cx Int.reduceToNat Nat.mul_one Nat.reduceSub oM cV b7 dK cG look dL strip guarded fV eK eO cK dV cY hJ dc dd Bool.or_false Bool.or_true Bool.and_true Bool.and_false Nat.blt gg fx gq dD idxOf gU gV iX eV aN mI
open Rf
def iv (k:Int):fw:=⟨[.pv (.int .i64 k)],0,1,3,false⟩
theorem zI (k:Int):∀b∈[iv k],AB b:=by
 intro b hb;rw[List.mem_singleton.mp hb];exact⟨by simp[iv,wz],rfl,rfl,by simp[iv]⟩
set_option maxHeartbeats 2000000 in
theorem CK (t:Tree) (hw:wt t≤1000000000):ah ctx 15 [aI t] (.int .i64 (ko t)):=by
 refine n3 (C:=ctx) (Fn.of HJ rfl) rfl ?_;unfold HI;refine ig (gu fun D=>?_);refine aV ?_;dsimp only[aI,go_sem];try dsimp only[aI,go_sem]
 refine⟨(by simp[vb]<;>omega),(by simp[vb]<;>omega),?_⟩;refine ig (gu fun D=>?_);refine aV ?_;dsimp only[aI,go_sem];try dsimp only[aI,go_sem]
 refine⟨(by simp[vb]<;>omega),(by simp[vb]<;>omega),?_⟩;refine ig (ig (gu fun D=>?_));have hn:=(sw t [af t,iv 0] rfl).DQ D;refine bJ [(7,{val:=some (.fn 67 [.ptr 2 0 0]),mem:=some ([af t,iv 0]++[af t])})] ?_;dsimp only[aI,af,iv,go_sem];try dsimp only[aI,af,iv,go_sem]
 refine⟨(by simp[vb]<;>omega),?_,?_⟩
 ·exact⟨hn,trivial⟩
 refine sf [1,2] rfl ?_;dsimp only[gg,fx,gq,dD,idxOf,go_sem]
 refine pM (pN (σ:=Int) (q:=1) (bt:=1) (k0:=0) (k':=ko t) (fo:=fun k=>[iv k]) (stop:=fun _=>false) (junk:=[af t]) (kb:=af t) (cells:=[.int .i64 t.kind,ai t.steps,.int .i64 t.cell,.int .i64 t.pos,az t.kids]) (g0:=[(3,.ptr 0 0 0)]) (rv:=.pv (.tup [])) rfl (by omega) rfl rfl rfl (by simp[af]) (by kernel_rfl) (fun _=>rfl) zI rfl rfl (by (repeat' (first|exact trivial|refine And.intro (by first|rfl|(simp[get,Nat.beq];done)|(simp[get,Nat.beq];omega)|(dsimp only[get];congr 1<;>first|rfl|omega|(simp;done)|(simp;omega))) ?_))) (by omega) (by omega) (by omega) ?_ (fun _=>?_) (fun h=>by cases h))
 ·intro w0 w1 S γ l L hX hround;have:=pR (X:=⟨_,hX.hE,_⟩) l Ej (fun _=>True) (fun _ _ _ _ _=>trivial) (fun k lev u μ _ hμ hwu hl0 hl1=>hround (.int .i64 lev) (aI u) k _ true μ rfl rfl ?_) t hw 0 trivial
  ·rw[zF t 0 1 (by omega) (by omega)]at this;rw[Int.zero_add]at this;exact this
  ·refine j5 false [] ?_;dsimp only[aI,ai,az,iv,cf,go_sem];refine⟨by simp[aH],by simp[aP],?_⟩;refine pL (j5 false [(4,{mode:=1})] ?_);dsimp only[aI,ai,az,iv,cf,go_sem];refine⟨by simp[aH],by simp[aP],?_⟩;exact⟨rfl,_,rfl⟩
 ·refine gu fun D=>?_
  repeat' (first
   |((with_reducible first|show aH _|show aP _);simp[vb]<;>omega)
   |exact(rfl:some _=_)
   |(
    fail_if_success refine a7 ?_
    refine aV ?_;repeat1' dsimp only[HI,iv,go_sem]
    first
    |refine a8 ?_ ?_ rfl ?_
    |apply ba
    |apply bc
    |(refine bf (fun hc=>?_) fun hc=>?_<;>first|(cases hc;done)|(exfalso;simp at hc<;>omega)|(try simp only[bn]at hc;try contradiction))
    |skip))
set_option maxHeartbeats 2000000 in
theorem CL (t:Tree) (hw:wt t≤1000000000):ah ctx 17 [aI t] (.int .i64 (fK t)):=by
 refine n3 (C:=ctx) (Fn.of HL rfl) rfl ?_;unfold HK;refine ig (gu fun D=>?_);refine aV ?_;dsimp only[aI,go_sem];try dsimp only[aI,go_sem]
 refine⟨(by simp[vb]<;>omega),(by simp[vb]<;>omega),?_⟩;refine ig (gu fun D=>?_);refine aV ?_;dsimp only[aI,go_sem];try dsimp only[aI,go_sem]
 refine⟨(by simp[vb]<;>omega),(by simp[vb]<;>omega),?_⟩;refine ig (ig (gu fun D=>?_));have hn:=(sw t [af t,iv 0] rfl).DQ D;refine bJ [(6,{val:=some (.fn 67 [.ptr 2 0 0]),mem:=some ([af t,iv 0]++[af t])})] ?_;dsimp only[aI,af,iv,go_sem];try dsimp only[aI,af,iv,go_sem]
 refine⟨(by simp[vb]<;>omega),?_,?_⟩
 ·exact⟨hn,trivial⟩
 refine sf [1,2] rfl ?_;dsimp only[gg,fx,gq,dD,idxOf,go_sem]
 refine pM (pN (σ:=Int) (q:=1) (bt:=1) (k0:=0) (k':=fK t) (fo:=fun k=>[iv k]) (stop:=fun _=>false) (junk:=[af t]) (kb:=af t) (cells:=[.int .i64 t.kind,ai t.steps,.int .i64 t.cell,.int .i64 t.pos,az t.kids]) (g0:=[(3,.ptr 0 0 0)]) (rv:=.pv (.tup [])) rfl (by omega) rfl rfl rfl (by simp[af]) (by kernel_rfl) (fun _=>rfl) zI rfl rfl (by (repeat' (first|exact trivial|refine And.intro (by first|rfl|(simp[get,Nat.beq];done)|(simp[get,Nat.beq];omega)|(dsimp only[get];congr 1<;>first|rfl|omega|(simp;done)|(simp;omega))) ?_))) (by omega) (by omega) (by omega) ?_ (fun _=>?_) (fun h=>by cases h))
 ·intro w0 w1 S γ l L hX hround;have:=pR (X:=⟨_,hX.hE,_⟩) l G1 (fun _=>True) (fun _ _ _ _ _=>trivial) (fun k lev u μ _ hμ hwu hl0 hl1=>hround (.int .i64 lev) (aI u) k _ true μ rfl rfl ?_) t hw 0 trivial
  ·rw[zG t 0 1 (by omega)]at this;have e:(if (0:Int)<1+fK t-1 then (1:Int)+fK t-1 else 0)=fK t:=by split<;>omega
   rw[e]at this;exact this
  ·refine j5 false [] ?_;dsimp only[aI,ai,az,iv,cf,go_sem];refine⟨by simp[aH],by simp[aP],?_⟩;refine pL (j5 false [] ?_);dsimp only[aI,ai,az,iv,cf,go_sem];refine⟨by simp[aH],by simp[aP],?_⟩;exact⟨rfl,[],rfl⟩
 ·refine gu fun D=>?_
  repeat' (first
   |((with_reducible first|show aH _|show aP _);simp[vb]<;>omega)
   |exact(rfl:some _=_)
   |(
    fail_if_success refine a7 ?_
    refine aV ?_;repeat1' dsimp only[HK,iv,go_sem]
    first
    |refine a8 ?_ ?_ rfl ?_
    |apply ba
    |apply bc
    |(refine bf (fun hc=>?_) fun hc=>?_<;>first|(cases hc;done)|(exfalso;simp at hc<;>omega)|(try simp only[bn]at hc;try contradiction))
    |skip))
def o4 (k:Int×Bool):AM:=[⟨[.pv (.bool false)],0,1,4,false⟩,iv k.1]
theorem Ek (k:Int×Bool):∀b∈o4 k,AB b:=by
 intro b hb;simp only[o4,List.mem_cons,List.not_mem_nil,or_false]at hb;rcases hb with rfl|rfl
 ·exact⟨by simp[wz],rfl,rfl,by simp⟩
 ·exact⟨by simp[iv,wz],rfl,rfl,by simp[iv]⟩
set_option maxHeartbeats 4000000 in
theorem sH (t:Tree) (hw:wt t≤1000000000):ah ctx 13 [aI t] (.bool (iR t)):=by
 refine n3 (C:=ctx) (Fn.of HN rfl) rfl ?_;unfold HM;refine ig (gu fun D=>?_);refine aV ?_;dsimp only[aI,go_sem];try dsimp only[aI,go_sem]
 refine⟨(by simp[vb]<;>omega),(by simp[vb]<;>omega),?_⟩;refine ig (gu fun D=>?_);refine aV ?_;dsimp only[aI,go_sem];try dsimp only[aI,go_sem]
 refine⟨(by simp[vb]<;>omega),(by simp[vb]<;>omega),?_⟩;refine ig (ig (gu fun D=>?_));have hn:=(sw t ([af t]++o4 (0,false)) rfl).DQ D;refine bJ [(7,{val:=some (.fn 67 [.ptr 3 0 0]),mem:=some (([af t]++o4 (0,false))++[af t])})] ?_;dsimp only[aI,af,iv,o4,go_sem];try dsimp only[aI,af,iv,o4,go_sem]
 refine⟨(by simp[vb]<;>omega),?_,?_⟩
 ·exact⟨hn,trivial⟩
 refine sf [1,2,3] rfl ?_;dsimp only[gg,fx,gq,dD,idxOf,go_sem];have hve:=CJ t hw
 refine pM (pN (σ:=Int×Bool) (q:=2) (bt:=2) (k0:=(0,false)) (k':=(qH ud (0,false) 1 t).2) (fo:=o4) (stop:=fun k=>k.2) (junk:=[af t]) (kb:=af t) (cells:=[.int .i64 t.kind,ai t.steps,.int .i64 t.cell,.int .i64 t.pos,az t.kids]) (g0:=[(2,.ptr 0 0 0),(3,.ptr 1 0 0)]) (rv:=.pv (.tup [])) rfl (by omega) rfl rfl rfl (by simp[af]) (by kernel_rfl) (fun _=>rfl) Ek rfl rfl (by (repeat' (first|exact trivial|refine And.intro (by first|rfl|(simp[get,Nat.beq];done)|(simp[get,Nat.beq];omega)|(dsimp only[get];congr 1<;>first|rfl|omega|(simp;done)|(simp;omega))) ?_))) (by omega) (by omega) (by omega) ?_ (fun hst=>?_) (fun hst=>?_))
 ·intro w0 w1 S γ l L hX hround;refine pR (X:=⟨_,hX.hE,_⟩) l ud (fun k=>k.2=false) (fun k lev u hk hst=>?_) (fun k lev u μ hk hμ hwu hl0 hl1=>hround (.int .i64 lev) (aI u) k _ (ud k lev u).1 μ hk ?_ ?_) t hw (0,false) rfl
  ·simp only[ud,Bool.not_eq_true']at hst ⊢;exact hst
  ·simp only[ud,Bool.not_not]
  ·refine qX (j5 false [] ?_);dsimp only[aI,ai,az,iv,o4,cf,go_sem];refine⟨by simp[aH],by simp[aP],?_⟩;refine j5 false [] ?_;dsimp only[aI,ai,az,iv,o4,cf,go_sem];refine⟨by simp[aH],by simp[aP],?_⟩;have hnode:=D7 u hwu;refine pL (qX (j5 false [(5,{mode:=1})] ?_));dsimp only[aI,ai,az,iv,o4,cf,go_sem];have hsl:u.steps.length≤1000000000:=by
    obtain⟨kd,s,c,a,ks⟩:=u;rw[dI]at hwu;simp only[Tree.steps];omega
   refine⟨by simp[aH,mi,ij];omega,by simp[aP],?_⟩;have hst:ud k lev u=(!(bif decide (4096<lev) then true else bif decide (65536<IntKind.i64.wrap (k.1+(1+(u.steps.length:Int)))) then true else !qu u),IntKind.i64.wrap (k.1+(1+u.steps.length)),bif decide (4096<lev) then true else bif decide (65536<IntKind.i64.wrap (k.1+(1+(u.steps.length:Int)))) then true else !qu u):=rfl;rw[hst];unfold aI ai az at hnode;refine qX (j5 true [(8,{val:=some (.pv (.bool (qu u)))})] ?_);dsimp only[aI,ai,az,iv,o4,cf,go_sem];generalize decide (4096<lev)=A
   generalize decide (65536<IntKind.i64.wrap (k.1+(1+(u.steps.length:Int))))=B;generalize qu u=N at *;refine⟨by simp[aH],by cases A<;>cases B<;>simp[aP,aH]<;>exact hnode,?_⟩;refine B6 rfl ?_;cases A<;>cases B<;>cases N;all_goals first
    |(
     refine B7 ?_;exact⟨rfl,_,rfl⟩)
    |(
     refine qX (j5 false [] ?_);dsimp only[aI,ai,az,iv,o4,cf,go_sem];refine⟨by simp[aH],by simp[aP],?_⟩;refine DN ?_;exact⟨rfl,_,rfl⟩)
 ·rw[hve,Bool.not_eq_false']at hst;refine gu fun D=>?_
  repeat' (first
   |((with_reducible first|show aH _|show aP _);simp[vb]<;>omega)
   |exact(rfl:some _=_)
   |(
    fail_if_success refine a7 ?_
    refine aV ?_;repeat1' dsimp only[HM,iv,o4,go_sem]
    first
    |refine a8 ?_ ?_ rfl ?_
    |apply ba
    |apply bc
    |(refine bf (fun hc=>?_) fun hc=>?_<;>first|(cases hc;done)|(exfalso;simp at hc<;>omega)|(try simp only[bn]at hc;try contradiction))
    |skip))
  rw[hst]
 ·rw[hve,Bool.not_eq_true']at hst;rw[hst];dsimp only[cF,cf,o4,iv,go_sem];exact⟨by simp[aH],rfl⟩
end Pur
end
section
namespace Rf
def l8 (x:bj):List UInt8:=(if x.kind=1 then [103,114,97,112,104,32] else [114,111,119,32])++Lib.itoa x.index++[32]++Lib.itoa x.cell++[10]
def jI (k c a:Int) (n:Nat):List UInt8 :=
 if k=1 then [115,112,108,105,116,32]++Lib.itoa c++[32]++Lib.itoa a++[10]
 else if k=2 then [99,97,115,101,115,32]++Lib.itoa n++[10]
 else [99,108,111,115,101,100,10]
def fW:Tree→List UInt8
 | .node k s c a l=>(s.map l8).flatten++jI k c a l.length++(l.attach.map fun x=>fW x.1).flatten
decreasing_by
 have:=List.sizeOf_lt_of_mem x.2;simp;omega
theorem jo (k:Int) (s:List bj) (c a:Int) (l:List Tree):fW (.node k s c a l)=(s.map l8).flatten++jI k c a l.length++(l.map fW).flatten:=by
 rw[fW,attach_map]
end Rf
namespace Pur
open Go.RowKit
attribute [local go_sem] bI fa bR bu cS gf List.map aX aG get put tmpsOf dF iW gF iG conds ev cond_true cond_false Nat.beq Nat.ble Nat.add quiet dG cf cF pn List.append_eq List.nil_append List.cons_append dE cy cz cA cB cC cD fg eY dv jb dH calm quiet.isCallK cH List.getElem?_cons_zero List.getElem?_cons_succ bp b6 cellsOf List.all bC List.length_cons List.length_nil eP a6 List.drop List.take List.getD Option.getD_some qR qS qF qT qU qV eB gC eC eD setAt List.set Nat.reduceAdd Nat.reduceMul b9 bw refsOf bG bM scalar cd ef bL ca aN after freeze im gT aS dx dQ dt eH c6 c7 cj da db de dh di dj dk dm dn dp dq ck cp cu dw jc bytesOf bH cU aQ bD dS bA bT cI still bW ed dy dW bP eI List.isEmpty cv cw cx Int.reduceToNat Nat.mul_one Nat.reduceSub oM cV b7 dK cG look dL strip guarded fV eK eO cK dV cY hJ dc dd Bool.or_false Bool.or_true Bool.and_true Bool.and_false Nat.blt gg fx gq dD idxOf gU gV iX eV aN mI
open Rf
theorem l9 {x:bj} (h:bY x=true):(0≤x.index∧x.index≤2048)∧(-1≤x.cell∧x.cell≤127):=by
 simp only[bY,aK,Bool.and_eq_true,decide_eq_true_eq]at h;split at h<;>omega
theorem nc {k c a:Int} {n:Nat} (h:gm k c a n=true):(0≤c∧c≤127)∧(-1000000≤a∧a≤1000000):=by
 simp only[gm,aK]at h;(repeat' split at h)<;>simp only[Bool.and_eq_true,decide_eq_true_eq,Bool.false_eq_true]at h<;>omega
theorem w6 {x:bj} (h:bY x=true):(l8 x).length≤60:=by
 have h1:=l9 h;have h2:=kz x.index (by omega) (by omega);have h3:=kz x.cell (by omega) (by omega);unfold l8;split<;>simp only[List.length_append,List.length_cons,List.length_nil]<;>omega
theorem p7 {k c a:Int} {n:Nat} (h:gm k c a n=true) (hn:n≤1000000000):(jI k c a n).length≤60:=by
 have h1:=nc h;have h2:=kz c (by omega) (by omega);have h3:=kz a (by omega) (by omega);have h4:=kz n (by omega) (by omega);unfold jI;(repeat' split)<;>simp only[List.length_append,List.length_cons,List.length_nil]<;>omega
theorem sI:∀(s:List bj),s.all bY=true→(s.map l8).flatten.length≤60*s.length
 |[],_=>by simp
 |x::r,h=>by
  rw[List.all_cons,Bool.and_eq_true]at h;have h1:=w6 h.1;have h2:=sI r h.2;rw[List.map_cons,List.flatten_cons,List.length_append,List.length_cons];omega
theorem ue:∀(l:List Tree),(∀t∈l,(fW t).length≤60*wt t)→(l.map fW).flatten.length≤60*jG l
 |[],_=>by simp
 |t::r,h=>by
  have h1:=h t (by simp);have h2:=ue r fun x hx=>h x (by simp[hx])
  rw[List.map_cons,List.flatten_cons,List.length_append,jG];omega
theorem Ba:∀(t:Tree),gp t=true→wt t≤1000000000→(fW t).length≤60*wt t:=by
 refine Tree.ind fun k s c a l ih h hw=>?_
 rw[dU,Bool.and_eq_true,Bool.and_eq_true]at h;rw[dI]at hw;have hl:=kR l;have h1:=sI s h.1.1;have h2:=p7 h.1.2 (by omega);have:∀(l:List Tree),(∀t∈l,gp t=true→wt t≤1000000000→(fW t).length≤60*wt t)→l.all gp=true→jG l≤1000000000→(l.map fW).flatten.length≤60*jG l:=fun l=>by
  induction l with
  |nil=>intro _ _ _;simp
  |cons t r ihr =>
   intro hh ha hb;rw[List.all_cons,Bool.and_eq_true]at ha;rw[jG]at hb ⊢;have h3:=hh t (by simp) ha.1 (by omega);have h4:=ihr (fun x hx=>hh x (by simp[hx])) ha.2 (by omega);rw[List.map_cons,List.flatten_cons,List.length_append];omega
 have h5:=this l ih h.2 (by omega);rw[jo,dI];simp only[List.length_append];omega
def c53:ay:=(⟨_,by conv=>(lhs;reduce;try simp only[eA,Int.cast_ofNat_Int,Int.reduceNegSucc,UInt8.reduceOfNat])⟩:{x // codeOf Tryz.prog 53 (fun _=>false)=some x}).1
end Pur
end
section
namespace Rf
def cR (w:List UInt8) (ns:List Int):List UInt8:=w++(ns.map fun n=>32::Lib.itoa n).flatten++[10]
def mh (ns:List Int):List UInt8:=(ns.map fun n=>32::Lib.itoa n).flatten
theorem sJ (l:List Int) (n:Int):mh (l++[n])=mh l++32::Lib.itoa n:=by simp[mh]
end Rf
namespace Pur
open Go.RowKit
attribute [local go_sem] bI fa bR bu cS gf List.map aX aG get put tmpsOf dF iW gF iG conds ev cond_true cond_false Nat.beq Nat.ble Nat.add quiet dG cf cF pn List.append_eq List.nil_append List.cons_append dE cy cz cA cB cC cD fg eY dv jb dH calm quiet.isCallK cH List.getElem?_cons_zero List.getElem?_cons_succ bp b6 cellsOf List.all bC List.length_cons List.length_nil eP a6 List.drop List.take List.getD Option.getD_some qR qS qF qT qU qV eB gC eC eD setAt List.set Nat.reduceAdd Nat.reduceMul b9 bw refsOf bG bM scalar cd ef bL ca aN after freeze im gT aS dx dQ dt eH c6 c7 cj da db de dh di dj dk dm dn dp dq ck cp cu dw jc bytesOf bH cU aQ bD dS bA bT cI still bW ed dy dW bP eI List.isEmpty cv cw cx Int.reduceToNat Nat.mul_one Nat.reduceSub oM cV b7 dK cG look dL strip guarded fV eK eO cK dV cY hJ dc dd Bool.or_false Bool.or_true Bool.and_true Bool.and_false Nat.blt gg fx gq dD idxOf gU gV iX eV aN mI
open Rf
def fP (μ:AM) (b g r:Nat) (out:List UInt8) (j:Nat):AM:=(μ.set r (eo out j)).set b (cZ (.ptr b g 0) (.ref r j 0 out.length) g)
def aW (b g:Nat):fw:=⟨[.ptr b g 0],0,1,75,false⟩
theorem cE {μ:AM} {b g r j:Nat} {out:List UInt8}:(fP μ b g r out j).length=μ.length:=by simp[fP]
theorem G2 {μ:AM} {b g r j:Nat} {out:List UInt8} (hb:b<μ.length):(fP μ b g r out j)[b]?=some (cZ (.ptr b g 0) (.ref r j 0 out.length) g):=by
 unfold fP;exact List.getElem?_set_self (by simpa using hb)
theorem G3 {μ:AM} {b g r j:Nat} {out:List UInt8} (hr:r<μ.length) (hne:r≠b):(fP μ b g r out j)[r]?=some (eo out j):=by
 unfold fP;rw[List.getElem?_set_ne (Ne.symm hne)];exact List.getElem?_set_self hr
theorem zJ {μ:AM} {b g r j c:Nat} {out:List UInt8} (hb:c≠b) (hr:c≠r):(fP μ b g r out j)[c]?=μ[c]?:=by
 unfold fP;rw[List.getElem?_set_ne (Ne.symm hb),List.getElem?_set_ne (Ne.symm hr)]
theorem El {μ:AM} {b g r j j':Nat} {out out':List UInt8} (hne:r≠b):fP (fP μ b g r out j) b g r out' j'=fP μ b g r out' j':=by
 unfold fP;rw[List.set_comm _ _ (Ne.symm hne),List.set_set,List.set_set]
theorem k8 {μ:AM} {b g r j m:Nat} {out:List UInt8} (h:aM μ m=true) (hb:b<m) (hr:r<m):aM (fP μ b g r out j) m=true:=by
 unfold fP;refine ly (ly h (pS _ _)) ?_;simp[cZ,dA,Nat.blt_eq,hb,hr,Nat.blt,Nat.ble_eq,Nat.succ_le_iff]
theorem p8 {μ:AM} (hμ:aM μ μ.length=true) {b g r j:Nat} {old:List UInt8} (hb:b<μ.length) (hr:r<μ.length) (hne:r≠b) (l:List UInt8) (hl:old.length+l.length≤140737488355328) :
  aJ ctx 83 [.ptr b g 0,.pv (.str l)] (fP μ b g r old j) (.pv (.tup [.int .i64 l.length,.val .nilIface])) (fP μ b g r (old++l) (j+1)):=by
 have:=yv (μ:=fP μ b g r old j) (by rw[cE];exact k8 hμ hb hr) hne (G2 hb) (G3 hr hne) l hl;have e:((fP μ b g r old j).set r (eo (old++l) (j+1))).set b (cZ (.ptr b g 0) (.ref r (j+1) 0 (old.length+l.length)) g)=fP μ b g r (old++l) (j+1):=by
  have:=El (μ:=μ) (b:=b) (g:=g) (r:=r) (j:=j) (j':=j+1) (out:=old) (out':=old++l) hne;rw[←this];conv=>rhs;unfold fP
  rw[List.length_append];rfl
 rw[e]at this;exact this
def HZ:ay:=(⟨_,by conv=>(lhs;reduce;try simp only[eA,Int.cast_ofNat_Int,Int.reduceNegSucc,UInt8.reduceOfNat])⟩:{x // codeOf Tryz.prog 82 (fun _=>false)=some x}).1
theorem G4:bK Tryz.prog 82 (fun _=>false)=some (HZ,[],24,true):=by kernel_rfl
def G5:ay:=(⟨_,by conv=>(lhs;reduce;try simp only[eA,Int.cast_ofNat_Int,Int.reduceNegSucc,UInt8.reduceOfNat])⟩:{x // (codeOf Tryz.prog 82 (fun _=>false)).map (fun y=>y.sub [1])=some x}).1
theorem CM (ns:List Int) (hns:∀n∈ns,-10000000000≤n∧n≤10000000000):∀k,k≤ns.length→(mh (ns.take k)).length≤22*k:=by
 intro k;induction k with
 |zero=>intro _;simp[mh]
 |succ k ih =>
  intro hk;rw[bz ns k 0 (by omega),sJ,List.length_append,List.length_cons];have:=kz (ns.getD k 0) (hns _ (aT (by omega))).1 (hns _ (aT (by omega))).2;have:=ih (by omega);omega
set_option maxHeartbeats 4000000 in
theorem uf {μ:AM} (hμ:aM μ μ.length=true) {m b g r j c:Nat} {old:List UInt8} (hmm:m≤μ.length) (hb:b<μ.length) (hr:r<μ.length) (hne:r≠b) (hcb:c≠b) (hcr:c≠r) (hc:μ[c]?=some (aW b g)) (ns:List Int) (hn:ns.length≤1000) (hns:∀n∈ns,-10000000000≤n∧n≤10000000000) (ho:old.length≤10000001000) {f:AF} (hf:Sub [(1,.pv (.sl ns.length (ns.map (.int .i64)))),(2,.ptr c 0 0)] f) :
  Aw ctx (fun _=>false) 24 m G5 (eK [] (.pv (.tup [])) (fP μ b g r (old++mh ns++[10]) (j+(ns.length+1)))) f (fP μ b g r old j):=by
 have hcl:c<μ.length:=(List.getElem?_eq_some_iff.mp hc).1;have hcell:∀o i,(fP μ b g r o i)[c]?=some (aW b g):=fun o i=>(zJ hcb hcr).trans hc
 have hnl:=CM ns hns;refine bO _ hf ?_;unfold G5;refine aV ?_;simp only[hcell,aW,aw,aj,an,aq,av,mem_set,aD,go_sem];try simp only[hcell,aW,aw,aj,an,aq,av,mem_set,aD,go_sem]
 refine⟨(by simp[vb]<;>omega),(by simp[vb]<;>omega),?_⟩;refine cg ?_
 refine bF ns.length (fun _=>True) (fun k=>[(2,.ptr c 0 0),(10,.pv (.sl ns.length (ns.map (.int .i64)))),(11,.pv (.int .i64 ns.length)),(12,.pv (.int .i64 k))]) (fun k=>fP μ b g r (old++mh (ns.take k)) (j+k)) trivial (by (repeat' (first|exact trivial|refine And.intro (by first|rfl|(simp[get,Nat.beq];done)|(simp[get,Nat.beq];omega)|(dsimp only[get];congr 1<;>first|rfl|omega|(simp;done)|(simp;omega))) ?_))) ⟨[],by simp[mh]⟩ (fun k=>⟨by rw[cE];omega,by simp[ga,dA,cE,Nat.blt,Nat.succ_le_iff,hcl],by rw[cE];exact k8 hμ hb hr⟩) fun k hk _=>?_
 by_cases hlt:k<ns.length
 ·have hnk:=hns _ (aT (d:=0) hlt);have e:(ns.map (PV.int .i64))[k]?=some (.int .i64 (ns.getD k 0)):=by rw[List.getElem?_map,List.getD,List.getElem?_eq_getElem hlt];rfl
  have e2:=bz ns k 0 hlt;have e0:ns[k]=ns.getD k 0:=by rw[List.getD,List.getElem?_eq_getElem hlt];rfl
  have hli:=kz (ns.getD k 0) hnk.1 hnk.2;have hi:=DV (ns.getD k 0) (by omega) (by omega);have hnum:=hnl k hk;generalize ns.getD k 0=n at *;have h2:=p8 (g:=g) (j:=j+k) (old:=old++mh (ns.take k)) hμ hb hr hne (32::Lib.itoa n) (by simp only[List.length_append,List.length_cons];omega);iterate 7 first
   |refine⟨fun _=>?_,fun h=>by simp at h<;>omega⟩
   |refine⟨by simp[vb,e,e0,hlt]<;>omega,by simp[vb,e,e0,hlt]<;>omega,?_⟩
   |(refine bJ [(15,{val:=some (.pv (.int .i64 n))})] ?_;iterate 2 (try simp only[hcell,aW,aw,aj,an,aq,av,mem_set,aD,go_sem]))
  refine kP (T:=[(84,fun _=>some (.str (Lib.itoa n)))]) (H:=[(20,{val:=some (.pv (.tup [.int .i64 (32::Lib.itoa n).length,.val .nilIface])),mem:=some (fP μ b g r (old++mh (ns.take k)++32::Lib.itoa n) (j+k+1))})]) (by rfl) ?_;simp only[eg,go_sem,hcell,aW];refine⟨by simp[aH,ij];omega,⟨h2,hi,trivial⟩,?_⟩;refine aV ?_;simp only[hcell,aW,aw,aj,an,aq,av,mem_set,aD,go_sem];try simp only[hcell,aW,aw,aj,an,aq,av,mem_set,aD,go_sem]
  refine⟨(by simp[vb]<;>omega),(by simp[vb]<;>omega),?_⟩;exact⟨hlt,trivial,by (repeat' (first|exact trivial|refine And.intro (by first|rfl|(simp[get,Nat.beq];done)|(simp[get,Nat.beq];omega)|(dsimp only[get];congr 1<;>first|rfl|omega|(simp;done)|(simp;omega))) ?_)),[],by rw[e2,sJ,List.append_nil,List.append_assoc,Nat.add_assoc j k 1]⟩
 ·obtain rfl:k=ns.length:=by omega
  rw[List.take_length];have h3:=p8 (g:=g) (j:=j+ns.length) (old:=old++mh ns) hμ hb hr hne [10] (by have:=hnl _ (Nat.le_refl _);rw[List.take_length]at this;simp only[List.length_append,List.length_cons,List.length_nil];omega);iterate 5 first
   |refine⟨fun h=>by simp at h<;>omega,fun _=>?_⟩
   |refine⟨by simp[vb]<;>omega,by simp[vb]<;>omega,?_⟩
   |(refine aV ?_;iterate 2 (try simp only[hcell,aW,aw,aj,an,aq,av,mem_set,aD,go_sem]))
  refine bJ [(23,{val:=some (.pv (.tup [.int .i64 1,.val .nilIface])),mem:=some (fP μ b g r (old++mh ns++[10]) (j+ns.length+1))})] ?_;simp only[hcell,aW,aw,aj,an,aq,av,mem_set,aD,go_sem];try simp only[hcell,aW,aw,aj,an,aq,av,mem_set,aD,go_sem]
  refine⟨(by simp[vb]<;>omega),?_,?_⟩
  ·exact⟨h3,trivial⟩
  exact⟨⟨trivial,trivial⟩,[],by simp[Nat.add_assoc]⟩
set_option maxHeartbeats 4000000 in
theorem G6 {μ:AM} (hμ:aM μ μ.length=true) {b g r j c:Nat} {old:List UInt8} (hb:b<μ.length) (hr:r<μ.length) (hne:r≠b) (hcb:c≠b) (hcr:c≠r) (hc:μ[c]?=some (aW b g)) (w:List UInt8) (ns:List Int) (hn:ns.length≤1000) (hns:∀n∈ns,-10000000000≤n∧n≤10000000000) (hw:w.length≤100) (ho:old.length≤10000000000) :
  aJ ctx 82 [.pv (.str w),.pv (.sl ns.length (ns.map (.int .i64))),.ptr c 0 0] (fP μ b g r old j) (.pv (.tup [])) (fP μ b g r (old++cR w ns) (j+(ns.length+2))):=by
 have hcell:∀o i,(fP μ b g r o i)[c]?=some (aW b g):=fun o i=>(zJ hcb hcr).trans hc
 refine bq (C:=ctx) (Fn.of G4 rfl) rfl (by rw[cE,cE];omega) rfl (by rw[cE];exact k8 hμ hb hr) ?_;rw[cE];unfold HZ;have h1:=p8 (g:=g) (j:=j) (old:=old) hμ hb hr hne w (by omega);refine bJ [(9,{val:=some (.pv (.tup [.int .i64 w.length,.val .nilIface])),mem:=some (fP μ b g r (old++w) (j+1))})] ?_;simp only[hcell,aW,aw,aj,an,aq,av,mem_set,aD,go_sem];try simp only[hcell,aW,aw,aj,an,aq,av,mem_set,aD,go_sem]
 refine⟨(by simp[vb]<;>omega),?_,?_⟩
 ·exact⟨h1,trivial⟩
 have:=uf hμ (m:=μ.length) (b:=b) (g:=g) (r:=r) (j:=j+1) (c:=c) (old:=old++w) (Nat.le_refl _) hb hr hne hcb hcr hc ns hn hns (by rw[List.length_append];omega) (f:=[(9,.pv (.tup [.int .i64 w.length,.val .nilIface])),(8,.pv (.str w)),(7,.ptr b g 0),(0,.pv (.str w)),(1,.pv (.sl ns.length (ns.map (.int .i64)))),(2,.ptr c 0 0)]) (by (repeat' (first|exact trivial|refine And.intro (by first|rfl|(simp[get,Nat.beq];done)|(simp[get,Nat.beq];omega)|(dsimp only[get];congr 1<;>first|rfl|omega|(simp;done)|(simp;omega))) ?_)))
 rw[List.append_assoc old w,List.append_assoc old,show j+1+(ns.length+1)=j+(ns.length+2) by omega]at this;exact this
set_option maxHeartbeats 4000000 in
theorem Fw {μ:AM} (hμ:aM μ μ.length=true) {b g c:Nat} (hk:μ[b]?=some (cZ (.pv (.val (.pointer none))) (.pv .nilsl) g)) (hcb:c≠b) (hc:μ[c]?=some (aW b g)) (w:List UInt8) (ns:List Int) (hn:ns.length≤1000) (hns:∀n∈ns,-10000000000≤n∧n≤10000000000) (hw0:1≤w.length) (hw:w.length≤100) :
  aJ ctx 82 [.pv (.str w),.pv (.sl ns.length (ns.map (.int .i64))),.ptr c 0 0] μ (.pv (.tup [])) (fP (μ++[eo [] 0]) b g μ.length (cR w ns) (ns.length+1)):=by
 have hb:b<μ.length:=(List.getElem?_eq_some_iff.mp hk).1;have hcl:c<μ.length:=(List.getElem?_eq_some_iff.mp hc).1;have hl:(μ++[eo [] 0]).length=μ.length+1:=by simp
 have hok:aM (μ++[eo [] 0]) (μ++[eo [] 0]).length=true:=by rw[hl];exact ke (jm hμ (by omega)) rfl
 have hc1:(μ++[eo [] 0])[c]?=some (aW b g):=by rw[List.getElem?_append_left hcl];exact hc
 have h1:=wN hμ hk w hw0 (by omega);have e:μ.set b (cZ (.ptr b g 0) (.ref μ.length 0 0 w.length) g)++[eo w 0]=fP (μ++[eo [] 0]) b g μ.length w 0:=by
  unfold fP;rw[mem_set,List.set_append_left _ _ hb]
 rw[e]at h1;refine bq (C:=ctx) (Fn.of G4 rfl) rfl (by rw[cE,hl];omega) rfl (by rw[cE];exact k8 hok (by omega) (by omega)) ?_;unfold HZ;refine bJ [(9,{val:=some (.pv (.tup [.int .i64 w.length,.val .nilIface])),mem:=some (fP (μ++[eo [] 0]) b g μ.length w 0)})] ?_;simp only[hc,aW,aw,aj,an,aq,av,mem_set,aD,go_sem];try simp only[hc,aW,aw,aj,an,aq,av,mem_set,aD,go_sem]
 refine⟨(by simp[vb]<;>omega),?_,?_⟩
 ·exact⟨h1,trivial⟩
 have:=uf hok (m:=μ.length) (b:=b) (g:=g) (r:=μ.length) (j:=0) (c:=c) (old:=w) (by omega) (by omega) (by omega) (by omega) hcb (by omega) hc1 ns hn hns (by omega) (f:=[(9,.pv (.tup [.int .i64 w.length,.val .nilIface])),(8,.pv (.str w)),(7,.ptr b g 0),(0,.pv (.str w)),(1,.pv (.sl ns.length (ns.map (.int .i64)))),(2,.ptr c 0 0)]) (by (repeat' (first|exact trivial|refine And.intro (by first|rfl|(simp[get,Nat.beq];done)|(simp[get,Nat.beq];omega)|(dsimp only[get];congr 1<;>first|rfl|omega|(simp;done)|(simp;omega))) ?_)));rw[Nat.zero_add]at this;exact this
theorem aJ.Ah {C:Ctx} {g:FuncId} {al al':List AV} {μ μ':AM} {r:AV} (h:aJ C g al μ r μ') (hw:PW CW al' al):aJ C g al' μ r μ' :=
 ⟨h.1,fun w0 S γ w vs hW hp=>h.2 w0 S γ w vs hW ⟨hw.len.symm.trans hp.len,fun i a v ha hv=>by
  have hi:i<al'.length:=by rw[hw.len];exact(List.getElem?_eq_some_iff.mp ha).1
  exact hw.at_ i _ a (List.getElem?_eq_getElem hi) ha w S γ v (hp.at_ i _ v (List.getElem?_eq_getElem hi) hv)⟩⟩
end Pur
end
section
namespace Rf
def jJ (k:Int):Nat:=if k=1 then 4 else if k=2 then 3 else 2
def fG:Tree→Nat
 | .node k s c a l=>4*s.length+jJ k+(l.attach.map fun x=>fG x.1).sum
decreasing_by
 have:=List.sizeOf_lt_of_mem x.2;simp;omega
theorem o5 (k:Int) (s:List bj) (c a:Int) (l:List Tree):fG (.node k s c a l)=4*s.length+jJ k+(l.map fG).sum:=by
 rw[fG,attach_map]
def lD (l:List Tree):List UInt8:=(l.map fW).flatten
theorem yD (l:List Tree) (t:Tree):lD (l++[t])=lD l++fW t:=by simp[lD]
def jV (l:List Tree):Nat:=(l.map fG).sum
theorem yE (l:List Tree) (t:Tree):jV (l++[t])=jV l+fG t:=by simp[jV]
def fL (s:List bj):List UInt8:=(s.map l8).flatten
theorem nd (s:List bj) (x:bj):fL (s++[x])=fL s++l8 x:=by simp[fL]
theorem ug (x:bj):l8 x=if x.kind=1 then cR [103,114,97,112,104] [x.index,x.cell] else cR [114,111,119] [x.index,x.cell]:=by
 unfold l8 cR;split<;>simp
theorem sK (k c a:Int) (n:Nat):jI k c a n=if k=1 then cR [115,112,108,105,116] [c,a] else if k=2 then cR [99,97,115,101,115] [(n:Int)] else cR [99,108,111,115,101,100] []:=by
 unfold jI cR;split
 ·simp
 ·split<;>simp
end Rf
namespace Pur
open Go.RowKit
attribute [local go_sem] bI fa bR bu cS gf List.map aX aG get put tmpsOf dF iW gF iG conds ev cond_true cond_false Nat.beq Nat.ble Nat.add quiet dG cf cF pn List.append_eq List.nil_append List.cons_append dE cy cz cA cB cC cD fg eY dv jb dH calm quiet.isCallK cH List.getElem?_cons_zero List.getElem?_cons_succ bp b6 cellsOf List.all bC List.length_cons List.length_nil eP a6 List.drop List.take List.getD Option.getD_some qR qS qF qT qU qV eB gC eC eD setAt List.set Nat.reduceAdd Nat.reduceMul b9 bw refsOf bG bM scalar cd ef bL ca aN after freeze im gT aS dx dQ dt eH c6 c7 cj da db de dh di dj dk dm dn dp dq ck cp cu dw jc bytesOf bH cU aQ bD dS bA bT cI still bW ed dy dW bP eI List.isEmpty cv cw cx Int.reduceToNat Nat.mul_one Nat.reduceSub oM cV b7 dK cG look dL strip guarded fV eK eO cK dV cY hJ dc dd Bool.or_false Bool.or_true Bool.and_true Bool.and_false Nat.blt gg fx gq dD idxOf gU gV iX eV aN mI
open Rf
theorem re {μ:AM} {b g r j:Nat} {o:List UInt8} (hb:b<μ.length) (hr:r<μ.length) (tl:AM):fP μ b g r o j++tl=fP (μ++tl) b g r o j:=by
 unfold fP;rw[List.set_append_left _ _ hr,List.set_append_left _ _ (by simpa using hb)]
def H0:ay:=(⟨_,by conv=>(lhs;reduce;try simp only[eA,Int.cast_ofNat_Int,Int.reduceNegSucc,UInt8.reduceOfNat])⟩:{x // codeOf Tryz.prog 50 (fun _=>false)=some x}).1
theorem G7:bK Tryz.prog 50 (fun _=>false)=some (H0,[],67,true):=by kernel_rfl
def G8:ay:=(⟨_,by conv=>(lhs;reduce;try simp only[eA,Int.cast_ofNat_Int,Int.reduceNegSucc,UInt8.reduceOfNat])⟩:{x // (codeOf Tryz.prog 50 (fun _=>false)).map (fun y=>y.sub [1,1,0,1,0,0])=some x}).1
def Em:ay:=(⟨_,by conv=>(lhs;reduce;try simp only[eA,Int.cast_ofNat_Int,Int.reduceNegSucc,UInt8.reduceOfNat])⟩:{x // (codeOf Tryz.prog 50 (fun _=>false)).map (fun y=>y.sub [1,1,1])=some x}).1
def G9:ay:=(⟨_,by conv=>(lhs;reduce;try simp only[eA,Int.cast_ofNat_Int,Int.reduceNegSucc,UInt8.reduceOfNat])⟩:{x // (codeOf Tryz.prog 50 (fun _=>false)).map (fun y=>y.sub [1,1,1,1])=some x}).1
structure tq (μ:AM) (b g r:Nat) (t:Tree):Prop where
 ok:aM μ μ.length=true
 hb:b<μ.length
 hr:r<μ.length
 ne:r≠b
 hf:gp t=true
 hw:wt t≤1000000
def jW (μ:AM) (b g:Nat) (t:Tree):AM:=μ++[aW b g,af t]
section
variable {μ:AM} {b g r:Nat} {t:Tree}
theorem o6:(jW μ b g t).length=μ.length+2:=by simp[jW]
theorem CN (h:tq μ b g r t) (o:List UInt8) (i:Nat):(fP (jW μ b g t) b g r o i)[μ.length]?=some (aW b g):=by
 rw[zJ (by have:=h.hb;omega) (by have:=h.hr;omega),jW,List.getElem?_append_right (Nat.le_refl _),Nat.sub_self];rfl
theorem CO (h:tq μ b g r t) (o:List UInt8) (i:Nat):(fP (jW μ b g t) b g r o i)[μ.length+1]?=some (af t):=by
 rw[zJ (by have:=h.hb;omega) (by have:=h.hr;omega),jW,List.getElem?_append_right (by omega),show μ.length+1-μ.length=1 by omega];rfl
theorem p9 (h:tq μ b g r t):aM (jW μ b g t) (jW μ b g t).length=true:=by
 rw[o6];have h1:=jm h.ok (m':=μ.length+2) (by omega);have h2:=ke (k:=aW b g) h1 (by have:=h.hb;simp only[aW,List.all_cons,List.all_nil,Bool.and_true,dA];exact Nat.blt_eq.mpr (by omega));have h3:=ke (k:=af t) h2 rfl;simpa [jW]using h3
theorem yF {x:fw} {o:List UInt8} {i q:Nat} (hq:q<(jW μ b g t).length):(fP (jW μ b g t) b g r o i++[x])[q]?=(fP (jW μ b g t) b g r o i)[q]?:=List.getElem?_append_left (by rw[cE];exact hq)
end
def vv (x:bj):fw:=⟨[.pv (.int .i64 x.kind),.pv (.int .i64 x.index),.pv (.int .i64 x.cell)],0,3,66,false⟩
def zK (n:Nat) (s:List bj) (k:Nat):AF:=[(2,.ptr n 0 0),(3,.ptr (n+1) 0 0),(4,.fn 82 [.ptr n 0 0]),(11,.pv (.sl s.length (s.flatMap aO))),(12,.pv (.int .i64 s.length)),(13,.pv (.int .i64 k))]
theorem vj {μ:AM} {b g r:Nat} {t:Tree} (h:tq μ b g r t) (tl:AM) (htl:aM (jW μ b g t++tl) (jW μ b g t++tl).length=true) (w:List UInt8) (ns:List Int) (o:List UInt8) (j:Nat) (hn:ns.length≤1000) (hns:∀n∈ns,-10000000000≤n∧n≤10000000000) (hw:w.length≤100) (ho:o.length≤10000000000) :
  aJ ctx 82 [.pv (.str w),.pv (.sl ns.length (ns.map (.int .i64))),.ptr μ.length 0 0] (fP (jW μ b g t) b g r o j++tl) (.pv (.tup [])) (fP (jW μ b g t) b g r (o++cR w ns) (j+(ns.length+2))++tl):=by
 have hl:=o6 (μ:=μ) (b:=b) (g:=g) (t:=t);have hb:=h.hb;have hr:=h.hr;have e:∀o j,fP (jW μ b g t) b g r o j++tl=fP (jW μ b g t++tl) b g r o j:=fun o j=>re (by omega) (by omega) tl
 rw[e,e];refine G6 htl (by rw[List.length_append];omega) (by rw[List.length_append];omega) h.ne (by omega) (by omega) ?_ w ns hn hns hw ho;rw[List.getElem?_append_left (by omega)];simp[jW]
set_option maxHeartbeats 4000000 in
theorem sL {μ:AM} {b g r:Nat} {kd c a:Int} {s:List bj} {ks:List Tree} (h:tq μ b g r (.node kd s c a ks)) {m:Nat} {R:Exit→AF→AM→Prop} {o:List UInt8} {j k:Nat} (hlt:k<s.length) (ho:o.length≤1000000000) :
  Aw ctx (fun _=>false) 67 m G8 (cf (fun f' μ'=>Sub (zK μ.length s (k+1)) f'∧∃junk,μ'=fP (jW μ b g (.node kd s c a ks)) b g r (o++l8 (s.getD k zs)) (j+4)++junk) R) (zK μ.length s k) (fP (jW μ b g (.node kd s c a ks)) b g r o j):=by
 have hf:=h.hf;rw[dU]at hf;simp only[Bool.and_eq_true]at hf;have hxo:bY (s.getD k zs)=true:=List.all_eq_true.mp hf.1.1 _ (aT hlt);have hw:=h.hw;rw[dI]at hw;have e:=dC ek s k zs hlt;have hle:=kr s;generalize s.getD k zs=x at *;obtain⟨b1,b2⟩:=l9 hxo;have hkind:x.kind=0∨x.kind=1:=by
  simp[bY,aK]at hxo;omega
 have hok3:aM (jW μ b g (.node kd s c a ks)++[vv x]) (jW μ b g (.node kd s c a ks)++[vv x]).length=true:=by
  rw[List.length_append,List.length_singleton];exact ke (jm (p9 h) (by omega)) rfl
 have hc:=CN h;have hlen:∀o i,(fP (jW μ b g (.node kd s c a ks)) b g r o i).length=μ.length+2:=fun o i=>by rw[cE,o6]
 unfold G8 zK;obtain⟨xk,xi,xc⟩:=x;simp only at b1 b2 hkind;have hb2:∀n∈[xi,xc],-10000000000≤n∧n≤10000000000:=by
  intro n hn;simp only[List.mem_cons,List.not_mem_nil,or_false]at hn;rcases hn with rfl|rfl<;>omega
 have h6:=vj h [vv ⟨xk,xi,xc⟩] hok3 [114,111,119] [xi,xc] o j (by simp) hb2 (by decide) (by omega);have h7:=vj h [vv ⟨xk,xi,xc⟩] hok3 [103,114,97,112,104] [xi,xc] o j (by simp) hb2 (by decide) (by omega);rw[ug];simp only;rcases hkind with rfl|rfl
 ·iterate 9 first
   |refine⟨fun _=>?_,fun h=>by simp at h<;>omega⟩
   |refine⟨by simp[vb,e,hle,hlt,aO]<;>omega,by simp[vb,e,hle,hlt,aO]<;>omega,?_⟩
   |(refine bJ [(16,{val:=some (.pv (.agg (aO ⟨0,xi,xc⟩)))})] ?_;iterate 2 (try simp only[aW,aO,aw,aj,an,aq,av,mem_set,aD,go_sem]))
  refine bJ [(26,{val:=some (.pv (.tup [])),mem:=some (fP (jW μ b g (.node kd s c a ks)) b g r (o++cR [114,111,119] [xi,xc]) (j+4)++[vv ⟨0,xi,xc⟩])})] ?_;simp only[aW,aO,aw,aj,an,aq,av,mem_set,aD,go_sem];refine⟨fun _=>?_,fun h=>by simp at h<;>omega⟩;refine bJ [(26,{val:=some (.pv (.tup [])),mem:=some (fP (jW μ b g (.node kd s c a ks)) b g r (o++cR [114,111,119] [xi,xc]) (j+4)++[vv ⟨0,xi,xc⟩])})] ?_;simp only[aW,aO,aw,aj,an,aq,av,mem_set,aD,go_sem]
  try simp only[aW,aO,aw,aj,an,aq,av,mem_set,aD,go_sem]
  refine⟨(by simp[vb,e,hle,hlt]<;>omega),?_,?_⟩
  ·exact⟨h6,trivial⟩
  refine aV ?_;simp only[aW,aO,aw,aj,an,aq,av,mem_set,aD,go_sem];try simp only[aW,aO,aw,aj,an,aq,av,mem_set,aD,go_sem]
  refine⟨(by simp[vb,e,hle,hlt]<;>omega),(by simp[vb,e,hle,hlt]<;>omega),?_⟩;exact⟨by (repeat' (first|exact trivial|refine And.intro (by first|rfl|(simp[get,Nat.beq];done)|(simp[get,Nat.beq];omega)|(dsimp only[get];congr 1<;>first|rfl|omega|(simp;done)|(simp;omega))) ?_)),_,rfl⟩
 ·iterate 9 first
   |refine⟨fun _=>?_,fun h=>by simp at h<;>omega⟩
   |refine⟨by simp[vb,e,hle,hlt,aO]<;>omega,by simp[vb,e,hle,hlt,aO]<;>omega,?_⟩
   |(refine bJ [(16,{val:=some (.pv (.agg (aO ⟨1,xi,xc⟩)))})] ?_;iterate 2 (try simp only[aW,aO,aw,aj,an,aq,av,mem_set,aD,go_sem]))
  refine bJ [(33,{val:=some (.pv (.tup [])),mem:=some (fP (jW μ b g (.node kd s c a ks)) b g r (o++cR [103,114,97,112,104] [xi,xc]) (j+4)++[vv ⟨1,xi,xc⟩])})] ?_;simp only[aW,aO,aw,aj,an,aq,av,mem_set,aD,go_sem];refine⟨fun h=>by simp at h<;>omega,fun _=>?_⟩;refine bJ [(33,{val:=some (.pv (.tup [])),mem:=some (fP (jW μ b g (.node kd s c a ks)) b g r (o++cR [103,114,97,112,104] [xi,xc]) (j+4)++[vv ⟨1,xi,xc⟩])})] ?_;simp only[aW,aO,aw,aj,an,aq,av,mem_set,aD,go_sem]
  try simp only[aW,aO,aw,aj,an,aq,av,mem_set,aD,go_sem]
  refine⟨(by simp[vb,e,hle,hlt]<;>omega),?_,?_⟩
  ·exact⟨h7,trivial⟩
  refine aV ?_;simp only[aW,aO,aw,aj,an,aq,av,mem_set,aD,go_sem];try simp only[aW,aO,aw,aj,an,aq,av,mem_set,aD,go_sem]
  refine⟨(by simp[vb,e,hle,hlt]<;>omega),(by simp[vb,e,hle,hlt]<;>omega),?_⟩;exact⟨by (repeat' (first|exact trivial|refine And.intro (by first|rfl|(simp[get,Nat.beq];done)|(simp[get,Nat.beq];omega)|(dsimp only[get];congr 1<;>first|rfl|omega|(simp;done)|(simp;omega))) ?_)),_,rfl⟩
theorem CP {μ:AM} (h:aM μ μ.length=true) (t:Tree):aM (μ++[af t]) (μ++[af t]).length=true:=by
 rw[List.length_append,List.length_singleton];exact ke (jm h (by omega)) rfl
def rf (x:Tree):Prop:=∀(μ:AM) (b g r:Nat) (o:List UInt8) (j:Nat),tq μ b g r x→o.length+60*wt x≤1000000000 →
 aJ ctx 50 [.ptr b g 0,.pv (aI x)] (fP μ b g r o j) (.pv (.tup [])) (fP μ b g r (o++fW x) (j+fG x))
theorem zL {μ:AM} {b g r:Nat} {t:Tree} (h:tq μ b g r t) (o:List UInt8) (j:Nat):fP (jW μ b g t) b g r o j=fP μ b g r o j++[aW b g,af t]:=(re h.hb h.hr _).symm
set_option maxHeartbeats 4000000 in
theorem sN {μ:AM} {b g r:Nat} {kd c a:Int} {s:List bj} {ks:List Tree} (h:tq μ b g r (.node kd s c a ks)) {m:Nat} (hm:m≤μ.length) (ih:∀x∈ks,rf x) {o:List UInt8} {j:Nat} (ho:o.length+60*jG ks≤1000000000) {f:AF} (hf:Sub [(2,.ptr μ.length 0 0),(3,.ptr (μ.length+1) 0 0)] f) :
  Aw ctx (fun _=>false) 67 m G9 (eK [] (.pv (.tup [])) (fP μ b g r (o++lD ks) (j+jV ks))) f (fP (jW μ b g (.node kd s c a ks)) b g r o j):=by
 have hft:=h.hf;rw[dU]at hft;simp only[Bool.and_eq_true]at hft;have hw:=h.hw;rw[dI]at hw;have hwl:=kR ks;have hb:=h.hb;have hr:=h.hr;have hc:=CN h;have ht:=CO h;have hL:=o6 (μ:=μ) (b:=b) (g:=g) (t:=.node kd s c a ks);have htx:∀l:List Tree,(∀x∈l,x∈ks)→(lD l).length≤60*jG l:=fun l hl=>ue l fun x hx=>Ba x (List.all_eq_true.mp hft.2 _ (hl x hx)) (by have:=pQ (hl x hx);omega)
 refine bO _ hf ?_;unfold G9;refine aV ?_;simp only[ht,af,Tree.kind,Tree.steps,Tree.cell,Tree.pos,Tree.kids,az,aw,aj,an,aq,av,mem_set,aD,go_sem];try simp only[ht,af,Tree.kind,Tree.steps,Tree.cell,Tree.pos,Tree.kids,az,aw,aj,an,aq,av,mem_set,aD,go_sem]
 refine⟨(by simp[vb]<;>omega),(by simp[vb]<;>omega),?_⟩;refine cg ?_
 refine bF ks.length (fun _=>True) (fun k=>[(2,.ptr μ.length 0 0),(57,.pv (.sl ks.length (ks.flatMap iP))),(58,.pv (.int .i64 ks.length)),(59,.pv (.int .i64 k))]) (fun k=>fP (jW μ b g (.node kd s c a ks)) b g r (o++lD (ks.take k)) (j+jV (ks.take k))) trivial (by (repeat' (first|exact trivial|refine And.intro (by first|rfl|(simp[get,Nat.beq];done)|(simp[get,Nat.beq];omega)|(dsimp only[get];congr 1<;>first|rfl|omega|(simp;done)|(simp;omega))) ?_))) ⟨[],by simp[lD,jV]⟩ (fun k=>⟨by rw[cE,hL];omega,by simp only[ga,List.all_cons,List.all_nil,dA,cE,hL,Bool.and_true];exact Nat.blt_eq.mpr (by omega),by rw[cE];exact k8 (p9 h) (by omega) (by omega)⟩) fun k hk _=>?_
 by_cases hlt:k<ks.length
 ·have e:=kp ks k hlt;have hle:=kq ks;have hmem:=aT (d:=zt) hlt;have hx:=ih _ hmem;have hfx:=List.all_eq_true.mp hft.2 _ hmem;have hwx:=pQ hmem;have e2:=bz ks k zt hlt;have htk:=htx (ks.take k) fun x hx=>List.mem_of_mem_take hx
  have hws:jG (ks.take k)+wt (ks.getD k zt)≤jG ks:=by
   have h1:=Cr ks (k+1);rw[e2,oa]at h1;simpa [jG]using h1
  generalize ks.getD k zt=x at *;have hok3:=CP (p9 h) x;have hcall:=hx (jW μ b g (.node kd s c a ks)++[af x]) b g r (o++lD (ks.take k)) (j+jV (ks.take k)) ⟨hok3,by rw[List.length_append];omega,by rw[List.length_append];omega,h.ne,hfx,by omega⟩ (by rw[List.length_append];omega);rw[←re (by omega) (by omega),←re (by omega) (by omega)]at hcall;obtain⟨xk,xs,xc,xa,xl⟩:=x;simp only[Tree.kind,Tree.steps,Tree.cell,Tree.pos,Tree.kids]at e;iterate 7 first
   |refine⟨fun _=>?_,fun h=>by simp at h<;>omega⟩
   |refine⟨by simp[vb,e,hle,hlt,ai,az]<;>omega,by simp[vb,e,hle,hlt,ai,az]<;>omega,?_⟩
   |(refine bJ [(62,{val:=some (.pv (.agg [.int .i64 xk,ai xs,.int .i64 xc,.int .i64 xa,az xl]))})] ?_;iterate 2 (try simp only[ht,af,ai,az,aw,aj,an,aq,av,mem_set,aD,go_sem]))
  have hc2:∀(o:List UInt8) (i:Nat) (y:fw),(fP (jW μ b g (.node kd s c a ks)) b g r o i++[y])[μ.length]?=some (aW b g):=fun o i y=>(yF (by omega)).trans (hc o i)
  refine bJ [(65,{val:=some (.pv (.tup [])),mem:=some (fP (jW μ b g (.node kd s c a ks)) b g r (o++lD (ks.take k)++fW (.node xk xs xc xa xl)) (j+jV (ks.take k)+fG (.node xk xs xc xa xl))++[af (.node xk xs xc xa xl)])})] ?_;simp only[hc2,aW,aw,aj,an,aq,av,mem_set,aD,go_sem];try simp only[hc2,aW,aw,aj,an,aq,av,mem_set,aD,go_sem]
  refine⟨(by simp[vb]<;>omega),?_,?_⟩
  ·exact⟨hcall,trivial⟩
  refine aV ?_;simp only[ht,aw,aj,an,aq,av,mem_set,aD,go_sem];try simp only[ht,aw,aj,an,aq,av,mem_set,aD,go_sem]
  refine⟨(by simp[vb,hlt]<;>omega),(by simp[vb,hlt]<;>omega),?_⟩;exact⟨hlt,trivial,by (repeat' (first|exact trivial|refine And.intro (by first|rfl|(simp[get,Nat.beq];done)|(simp[get,Nat.beq];omega)|(dsimp only[get];congr 1<;>first|rfl|omega|(simp;done)|(simp;omega))) ?_)),_,by rw[e2,yD,yE,List.append_assoc o,Nat.add_assoc j]⟩
 ·obtain rfl:k=ks.length:=by omega
  rw[List.take_length];iterate 5 first
   |refine⟨fun h=>by simp at h<;>omega,fun _=>?_⟩
   |refine⟨by simp[vb,hlt]<;>omega,by simp[vb,hlt]<;>omega,?_⟩
   |(refine aV ?_;iterate 2 (try simp only[ht,aw,aj,an,aq,av,mem_set,aD,go_sem]))
  exact⟨⟨trivial,trivial⟩,_,zL h _ _⟩
theorem sO {k c a:Int} {n:Nat} (h:Rf.gm k c a n=true):(k=0∧n=0)∨k=1∨(k=2∧n≤1024):=by
 unfold Rf.gm at h;split at h
 ·simp at h;omega
 ·split at h
  ·omega
  ·split at h
   ·simp at h;omega
   ·cases h
set_option maxHeartbeats 4000000 in
theorem sP {μ:AM} {b g r:Nat} {kd c a:Int} {s:List bj} {ks:List Tree} (h:tq μ b g r (.node kd s c a ks)) {m:Nat} (hm:m≤μ.length) (ih:∀x∈ks,rf x) {o:List UInt8} {j:Nat} (ho:o.length+60+60*jG ks≤1000000000) {f:AF} (hf:Sub [(2,.ptr μ.length 0 0),(3,.ptr (μ.length+1) 0 0),(4,.fn 82 [.ptr μ.length 0 0])] f) :
  Aw ctx (fun _=>false) 67 m Em (eK [] (.pv (.tup [])) (fP μ b g r (o++jI kd c a ks.length++lD ks) (j+jJ kd+jV ks))) f (fP (jW μ b g (.node kd s c a ks)) b g r o j):=by
 have hft:=h.hf;rw[dU]at hft;simp only[Bool.and_eq_true]at hft;have hw:=h.hw;rw[dI]at hw;have hwl:=kR ks;have hc:=CN h;have ht:=CO h;obtain⟨b1,b2⟩:=nc hft.1.2;have htl:=p7 hft.1.2 (by omega);have hkk:=fun f hf=>sN h (m:=m) hm ih (o:=o++jI kd c a ks.length) (j:=j+jJ kd) (by rw[List.length_append];omega) (f:=f) hf
 have hln:=fun w ns hn hns hw=>vj h [] (by rw[List.append_nil];exact p9 h) w ns o j hn hns hw (by omega)
 simp only[List.append_nil]at hln;refine bO _ hf ?_;rw[sK]at hkk ⊢;unfold Em;rcases sO hft.1.2 with⟨rfl,h0⟩|rfl|⟨rfl,h2⟩
 ·have h1:=(hln [99,108,111,115,101,100] [] (by simp) (by simp) (by decide)).Ah (al':=[.pv (.str [99,108,111,115,101,100]),.pv .nilsl,.ptr μ.length 0 0]) ⟨rfl,fun i x y hx hy=>by
   match i,hx,hy with
   |0,hx,hy=>injection hx with hx;injection hy with hy;subst hx hy;exact .refl _
   |1,hx,hy=>injection hx with hx;injection hy with hy;subst hx hy;exact CW.nil
   |2,hx,hy=>injection hx with hx;injection hy with hy;subst hx hy;exact .refl _
   |_+3,hx,_=>simp at hx⟩
  refine aV ?_;simp only[ht,af,Tree.kind,Tree.steps,Tree.cell,Tree.pos,Tree.kids,aw,aj,an,aq,av,mem_set,aD,go_sem];try simp only[ht,af,Tree.kind,Tree.steps,Tree.cell,Tree.pos,Tree.kids,aw,aj,an,aq,av,mem_set,aD,go_sem]
  refine⟨(by simp[vb]<;>omega),(by simp[vb]<;>omega),?_⟩;refine aV ?_;simp only[ht,af,Tree.kind,Tree.steps,Tree.cell,Tree.pos,Tree.kids,aw,aj,an,aq,av,mem_set,aD,go_sem];try simp only[ht,af,Tree.kind,Tree.steps,Tree.cell,Tree.pos,Tree.kids,aw,aj,an,aq,av,mem_set,aD,go_sem]
  refine⟨(by simp[vb]<;>omega),(by simp[vb]<;>omega),?_⟩;refine bJ [(46,{val:=some (.pv (.tup [])),mem:=some (fP (jW μ b g (.node 0 s c a ks)) b g r (o++cR [99,108,111,115,101,100] []) (j+2))})] ?_;simp only[ht,af,Tree.kind,Tree.steps,Tree.cell,Tree.pos,Tree.kids,aw,aj,an,aq,av,mem_set,aD,go_sem];refine⟨fun _=>?_,fun h=>by simp at h<;>omega⟩;refine bJ [(46,{val:=some (.pv (.tup [])),mem:=some (fP (jW μ b g (.node 0 s c a ks)) b g r (o++cR [99,108,111,115,101,100] []) (j+2))})] ?_
  simp only[ht,af,Tree.kind,Tree.steps,Tree.cell,Tree.pos,Tree.kids,aw,aj,an,aq,av,mem_set,aD,go_sem];try simp only[ht,af,Tree.kind,Tree.steps,Tree.cell,Tree.pos,Tree.kids,aw,aj,an,aq,av,mem_set,aD,go_sem]
  refine⟨(by simp[vb]<;>omega),?_,?_⟩
  ·exact⟨h1,trivial⟩
  exact hkk _ (by (repeat' (first|exact trivial|refine And.intro (by first|rfl|(simp[get,Nat.beq];done)|(simp[get,Nat.beq];omega)|(dsimp only[get];congr 1<;>first|rfl|omega|(simp;done)|(simp;omega))) ?_)))
 ·have h1:=hln [115,112,108,105,116] [c,a] (by simp) (by intro n hn;simp only[List.mem_cons,List.not_mem_nil,or_false]at hn;rcases hn with rfl|rfl<;>omega) (by decide);refine aV ?_;simp only[ht,af,Tree.kind,Tree.steps,Tree.cell,Tree.pos,Tree.kids,aw,aj,an,aq,av,mem_set,aD,go_sem];try simp only[ht,af,Tree.kind,Tree.steps,Tree.cell,Tree.pos,Tree.kids,aw,aj,an,aq,av,mem_set,aD,go_sem]
  refine⟨(by simp[vb]<;>omega),(by simp[vb]<;>omega),?_⟩;refine aV ?_;simp only[ht,af,Tree.kind,Tree.steps,Tree.cell,Tree.pos,Tree.kids,aw,aj,an,aq,av,mem_set,aD,go_sem];try simp only[ht,af,Tree.kind,Tree.steps,Tree.cell,Tree.pos,Tree.kids,aw,aj,an,aq,av,mem_set,aD,go_sem]
  refine⟨(by simp[vb]<;>omega),(by simp[vb]<;>omega),?_⟩;refine aV ?_;simp only[ht,af,Tree.kind,Tree.steps,Tree.cell,Tree.pos,Tree.kids,aw,aj,an,aq,av,mem_set,aD,go_sem];refine⟨fun h=>by simp at h<;>omega,fun _=>?_⟩;refine aV ?_;simp only[ht,af,Tree.kind,Tree.steps,Tree.cell,Tree.pos,Tree.kids,aw,aj,an,aq,av,mem_set,aD,go_sem];try simp only[ht,af,Tree.kind,Tree.steps,Tree.cell,Tree.pos,Tree.kids,aw,aj,an,aq,av,mem_set,aD,go_sem]
  refine⟨(by simp[vb]<;>omega),(by simp[vb]<;>omega),?_⟩;refine bJ [(55,{val:=some (.pv (.tup [])),mem:=some (fP (jW μ b g (.node 1 s c a ks)) b g r (o++cR [115,112,108,105,116] [c,a]) (j+4))})] ?_;simp only[ht,af,Tree.kind,Tree.steps,Tree.cell,Tree.pos,Tree.kids,aw,aj,an,aq,av,mem_set,aD,go_sem];refine⟨fun _=>?_,fun h=>by simp at h<;>omega⟩;refine bJ [(55,{val:=some (.pv (.tup [])),mem:=some (fP (jW μ b g (.node 1 s c a ks)) b g r (o++cR [115,112,108,105,116] [c,a]) (j+4))})] ?_
  simp only[ht,af,Tree.kind,Tree.steps,Tree.cell,Tree.pos,Tree.kids,aw,aj,an,aq,av,mem_set,aD,go_sem];try simp only[ht,af,Tree.kind,Tree.steps,Tree.cell,Tree.pos,Tree.kids,aw,aj,an,aq,av,mem_set,aD,go_sem]
  refine⟨(by simp[vb]<;>omega),?_,?_⟩
  ·exact⟨h1,trivial⟩
  exact hkk _ (by (repeat' (first|exact trivial|refine And.intro (by first|rfl|(simp[get,Nat.beq];done)|(simp[get,Nat.beq];omega)|(dsimp only[get];congr 1<;>first|rfl|omega|(simp;done)|(simp;omega))) ?_)))
 ·have h1:=hln [99,97,115,101,115] [(ks.length:Int)] (by simp) (by intro n hn;simp only[List.mem_cons,List.not_mem_nil,or_false]at hn;subst hn;omega) (by decide);refine aV ?_;simp only[ht,af,Tree.kind,Tree.steps,Tree.cell,Tree.pos,Tree.kids,az,aw,aj,an,aq,av,mem_set,aD,go_sem];try simp only[ht,af,Tree.kind,Tree.steps,Tree.cell,Tree.pos,Tree.kids,az,aw,aj,an,aq,av,mem_set,aD,go_sem]
  refine⟨(by simp[vb]<;>omega),(by simp[vb]<;>omega),?_⟩;refine aV ?_;simp only[ht,af,Tree.kind,Tree.steps,Tree.cell,Tree.pos,Tree.kids,az,aw,aj,an,aq,av,mem_set,aD,go_sem];try simp only[ht,af,Tree.kind,Tree.steps,Tree.cell,Tree.pos,Tree.kids,az,aw,aj,an,aq,av,mem_set,aD,go_sem]
  refine⟨(by simp[vb]<;>omega),(by simp[vb]<;>omega),?_⟩;refine aV ?_;simp only[ht,af,Tree.kind,Tree.steps,Tree.cell,Tree.pos,Tree.kids,az,aw,aj,an,aq,av,mem_set,aD,go_sem];refine⟨fun h=>by simp at h<;>omega,fun _=>?_⟩;refine aV ?_;simp only[ht,af,Tree.kind,Tree.steps,Tree.cell,Tree.pos,Tree.kids,az,aw,aj,an,aq,av,mem_set,aD,go_sem];try simp only[ht,af,Tree.kind,Tree.steps,Tree.cell,Tree.pos,Tree.kids,az,aw,aj,an,aq,av,mem_set,aD,go_sem]
  refine⟨(by simp[vb]<;>omega),(by simp[vb]<;>omega),?_⟩;refine bJ [(42,{val:=some (.pv (.tup [])),mem:=some (fP (jW μ b g (.node 2 s c a ks)) b g r (o++cR [99,97,115,101,115] [(ks.length:Int)]) (j+3))})] ?_;simp only[ht,af,Tree.kind,Tree.steps,Tree.cell,Tree.pos,Tree.kids,az,aw,aj,an,aq,av,mem_set,aD,go_sem];refine⟨fun h=>by simp at h<;>omega,fun _=>?_⟩;refine bJ [(42,{val:=some (.pv (.tup [])),mem:=some (fP (jW μ b g (.node 2 s c a ks)) b g r (o++cR [99,97,115,101,115] [(ks.length:Int)]) (j+3))})] ?_
  simp only[ht,af,Tree.kind,Tree.steps,Tree.cell,Tree.pos,Tree.kids,az,aw,aj,an,aq,av,mem_set,aD,go_sem];try simp only[ht,af,Tree.kind,Tree.steps,Tree.cell,Tree.pos,Tree.kids,az,aw,aj,an,aq,av,mem_set,aD,go_sem]
  refine⟨(by simp[vb]<;>omega),?_,?_⟩
  ·exact⟨h1,trivial⟩
  exact hkk _ (by (repeat' (first|exact trivial|refine And.intro (by first|rfl|(simp[get,Nat.beq];done)|(simp[get,Nat.beq];omega)|(dsimp only[get];congr 1<;>first|rfl|omega|(simp;done)|(simp;omega))) ?_)))
end Pur
end
section
namespace Pur
open Go.RowKit
attribute [local go_sem] bI fa bR bu cS gf List.map aX aG get put tmpsOf dF iW gF iG conds ev cond_true cond_false Nat.beq Nat.ble Nat.add quiet dG cf cF pn List.append_eq List.nil_append List.cons_append dE cy cz cA cB cC cD fg eY dv jb dH calm quiet.isCallK cH List.getElem?_cons_zero List.getElem?_cons_succ bp b6 cellsOf List.all bC List.length_cons List.length_nil eP a6 List.drop List.take List.getD Option.getD_some qR qS qF qT qU qV eB gC eC eD setAt List.set Nat.reduceAdd Nat.reduceMul b9 bw refsOf bG bM scalar cd ef bL ca aN after freeze im gT aS dx dQ dt eH c6 c7 cj da db de dh di dj dk dm dn dp dq ck cp cu dw jc bytesOf bH cU aQ bD dS bA bT cI still bW ed dy dW bP eI List.isEmpty cv cw cx Int.reduceToNat Nat.mul_one Nat.reduceSub oM cV b7 dK cG look dL strip guarded fV eK eO cK dV cY hJ dc dd Bool.or_false Bool.or_true Bool.and_true Bool.and_false Nat.blt gg fx gq dD idxOf gU gV iX eV aN mI
section
open Rf
theorem fM {α:Type} (l:List α) (k:Nat) (d:α) (hk:k<l.length):l.drop k=l.getD k d::l.drop (k+1):=by
 rw[List.drop_eq_getElem_cons hk,List.getD,List.getElem?_eq_getElem hk];rfl
theorem sQ (x:Rg):ah ctx 102 [.agg [.int .i64 x.lo,.int .i64 x.hi]] (.bool (fc x)):=by
 refine ar (C:=ctx) (Fn.of E9 rfl) rfl ?_;unfold Ec;repeat' (first
  |((with_reducible first|show aH _|show aP _);simp[vb]<;>omega)
  |exact(rfl:some _=_)
  |(
   fail_if_success refine a7 ?_
   refine aV ?_;repeat1' dsimp only[Ec,fc,go_sem]
   first
   |refine a8 ?_ ?_ rfl ?_
   |apply ba
   |apply bc
   |(refine bf (fun hc=>?_) fun hc=>?_<;>first|(cases hc;done)|(exfalso;simp at hc<;>omega)|(try simp only[bn]at hc;try contradiction))
   |skip))
theorem w7 (b:List Rg) (hb:b.length≤1000000000):ah ctx 72 [ae b] (.bool (cX b)):=by
 have hx:=A4 102 b hb fc fun x _=>sQ x
 unfold cX;generalize b.any fc=q at *;unfold ae at hx;refine ar (C:=ctx) (Fn.of GQ rfl) rfl ?_;unfold c72;repeat' (first
  |((with_reducible first|show aH _|show aP _);simp[vb,hx,ae]<;>omega)
  |exact(rfl:some _=_)
  |(
   fail_if_success refine a7 ?_
   refine iF [(101,fun _=>some (.bool q))] ?_;repeat1' dsimp only[c72,ae,go_sem]
   first
   |refine a8 ?_ ?_ rfl ?_
   |apply ba
   |apply bc
   |(refine bf (fun hc=>?_) fun hc=>?_<;>first|(cases hc;done)|(exfalso;simp[hx,ae]at hc<;>omega)|(try simp only[bn]at hc;try contradiction))
   |skip))
theorem F7 (b:List Rg) (hb:b.length≤1000000000):ah ctx 97 [ae b] (.bool (eh b)):=by
 unfold eh;have f1:=du b;refine ar (C:=ctx) (Fn.of GX rfl) rfl ?_;unfold Gx;repeat' (first
  |((with_reducible first|show aH _|show aP _);simp[vb]<;>omega)
  |exact(rfl:some _=_)
  |(
   fail_if_success refine a7 ?_
   refine aV ?_;repeat1' dsimp only[Gx,ae,go_sem]
   first
   |refine a8 ?_ ?_ rfl ?_
   |apply ba
   |apply bc
   |(refine bf (fun hc=>?_) fun hc=>?_<;>first|(cases hc;done)|(exfalso;simp at hc<;>omega)|(try simp only[bn]at hc;try contradiction))
   |skip))
 refine bF b.length (fun k=>(b.take k).all mn=true) (fun k=>[(0,.pv (ae b)),(5,.pv (ae b)),(6,.pv (.int .i64 b.length)),(7,.pv (.int .i64 k))]) (fun _=>[]) rfl (by (repeat' (first|exact trivial|refine And.intro (by first|rfl|(simp[get,Nat.beq];done)|(simp[get,Nat.beq];omega)|(dsimp only[get];congr 1<;>first|rfl|omega|(simp;done)|(simp;omega))) ?_))) ⟨[],rfl⟩ (fun _=>⟨Nat.zero_le _,rfl,rfl⟩) fun k hk hP=>?_
 by_cases hlt:k<b.length
 ·have e:=dC iS b k zr hlt;have h1:=ew mn b k zr hlt;have h2:=l5 mn b k zr hlt;rw[h1,hP,Bool.true_and];clear h1;generalize b.getD k zr=x at *;repeat' (first
   |((with_reducible show aH _);first|exact True.intro|(simp only[vb,lb,e,f1,hlt,jM];and_intros<;>first|omega|(simp<;>omega)))
   |((with_reducible show aP _);first|exact True.intro|((try dsimp only[go_sem]);(simp[vb,e,f1,hlt,jM]<;>omega)))
   |exact(rfl:some _=_)
   |(
    fail_if_success refine a7 ?_
    refine bJ [(10,{val:=some (.pv (.agg [.int .i64 x.lo,.int .i64 x.hi]))})] ?_;repeat1' dsimp only[Gx,ae,go_sem]
    first
    |refine a8 ?_ ?_ rfl ?_
    |apply ba
    |apply bc
    |(refine bf (fun hc=>?_) fun hc=>?_<;>first|(cases hc;done)|(exfalso;(simp at hc<;>omega))|(try simp only[bn]at hc;try contradiction))
    |skip))
  all_goals first
   |(rw[h2 (by
     cases h:mn x with
     |false=>rfl
     |true =>
      exfalso;simp only[mn,aK,Bool.and_eq_true,decide_eq_true_eq]at h;omega),Bool.false_and];done)
   |(
    refine⟨hlt,?_,by (repeat' (first|exact trivial|refine And.intro (by first|rfl|(simp[get,Nat.beq];done)|(simp[get,Nat.beq];omega)|(dsimp only[get];congr 1<;>first|rfl|omega|(simp;done)|(simp;omega))) ?_)),_,rfl⟩;simp only[mn,aK,Bool.and_eq_true,decide_eq_true_eq];omega)
 ·obtain rfl:k=b.length:=by omega
  rw[List.take_length]at hP;repeat' (first
   |((with_reducible show aH _);exact True.intro)
   |((with_reducible show aP _);exact True.intro)
   |exact(rfl:some _=_)
   |(
    fail_if_success refine a7 ?_
    refine aV ?_;repeat1' dsimp only[Gx,ae,go_sem]
    first
    |refine a8 ?_ ?_ rfl ?_
    |apply ba
    |apply bc
    |(refine bf (fun hc=>?_) fun hc=>?_<;>first|(cases hc;done)|(exfalso;(simp at hc<;>omega))|(try simp only[bn]at hc;try contradiction))
    |skip))
  rw[hP,Bool.true_and];simp;omega
set_option maxHeartbeats 4000000 in
theorem En (n : Int) (r : Rw) (hr : r.terms.length ≤ 1000000000) : ah ctx 100 [.int .i64 n, .agg [au r.terms, .int .i64 r.bound]] (.bool (gD n r)) := by
  obtain ⟨ts, bd⟩ := r
  unfold gD
  simp only at hr ⊢
  generalize hq : eU n (-1) ts = q
  have f1 := jn ts
  refine ar (C := ctx) (Fn.of Fi rfl) rfl ?_
  unfold A0
  repeat' (first
    | ((with_reducible first | show aH _ | show aP _); simp [vb] <;> omega)
    | exact (rfl : some _ = _)
    | (
      fail_if_success refine a7 ?_
      refine aV ?_
      repeat1' dsimp only [A0, au, go_sem]
      first
      | refine a8 ?_ ?_ rfl ?_
      | apply ba
      | apply bc
      | (refine bf (fun hc => ?_) fun hc => ?_ <;> first | (cases hc; done) | (exfalso; simp at hc <;> omega) | (try simp only [bn] at hc; try contradiction))
      | skip))
  refine dY (σ := Nat × Int) (fun s => s.1 ≤ ts.length ∧ eU n s.2 (ts.drop s.1) = q) (fun s => [(0, .pv (.int .i64 n)), (3, .ptr 0 0 0), (5, .pv (.int .i64 s.2)), (9, .pv (au ts)), (10, .pv (.int .i64 ts.length)), (11, .pv (.int .i64 s.1))]) (fun _ => [⟨[.pv (au ts), .pv (.int .i64 bd)], 0, 2, 62, false⟩]) (fun s => ts.length - s.1) (0, -1) ⟨Nat.zero_le _, hq⟩ (by (repeat' (first | exact trivial | refine And.intro (by first | rfl | (simp [get, Nat.beq]; done) | (simp [get, Nat.beq]; omega) | (dsimp only [get]; congr 1 <;> first | rfl | omega | (simp; done) | (simp; omega))) ?_))) ⟨[], rfl⟩ (fun _ _ => ⟨Nat.zero_le _, rfl, rfl⟩) fun s hP => ?_
  obtain ⟨k, last⟩ := s
  obtain ⟨p1, p2⟩ := hP
  simp only at p1 p2
  by_cases hlt : k < ts.length
  · have e := dC kT ts k zm hlt
    rw [fM ts k zm hlt, eU] at p2
    generalize ts.getD k zm = x at *
    generalize hq2 : eU n x.cell (ts.drop (k + 1)) = q2 at *
    repeat' (first
      | ((with_reducible show aH _); first | exact True.intro | (simp only [vb, lb, e, f1, hlt, kG]; and_intros <;> first | omega | (simp <;> omega)))
      | ((with_reducible show aP _); first | exact True.intro | ((try dsimp only [go_sem]); (simp [vb, e, f1, hlt, kG] <;> omega)))
      | exact (rfl : some _ = _)
      | (
        fail_if_success refine a7 ?_
        refine bJ [(14, { val := some (.pv (.agg [.int .i64 x.cell, .int .i64 x.fac])) })] ?_
        repeat1' dsimp only [A0, au, go_sem]
        first
        | refine a8 ?_ ?_ rfl ?_
        | apply ba
        | apply bc
        | (refine bf (fun hc => ?_) fun hc => ?_ <;> first | (cases hc; done) | (exfalso; (simp at hc <;> omega)) | (try simp only [bn] at hc; try contradiction))
        | skip))
    all_goals first
      | (rw [← p2, show (decide (last < x.cell) && decide (x.cell < n) && decide (x.fac ≠ 0) && aK x.fac (-1000) 1000) = false from by
          rw [Bool.eq_false_iff]
          simp only [aK, ne_eq, Bool.and_eq_true, decide_eq_true_eq]
          omega]; rfl)
      | (
        refine ⟨(k + 1, x.cell), by show ts.length - (k + 1) < ts.length - k; omega, ⟨by show k + 1 ≤ _; omega, ?_⟩, by (repeat' (first | exact trivial | refine And.intro (by first | rfl | (simp [get, Nat.beq]; done) | (simp [get, Nat.beq]; omega) | (dsimp only [get]; congr 1 <;> first | rfl | omega | (simp; done) | (simp; omega))) ?_)), _, rfl⟩
        show eU n x.cell (ts.drop (k + 1)) = q
        rw [hq2, ← p2, show (decide (last < x.cell) && decide (x.cell < n) && decide (x.fac ≠ 0) && aK x.fac (-1000) 1000) = true from by
         simp only [aK, ne_eq, Bool.and_eq_true, decide_eq_true_eq]
         omega, Bool.true_and])
  · obtain rfl : k = ts.length := by omega
    rw [List.drop_length, eU] at p2
    subst p2
    repeat' (first
      | ((with_reducible show aH _); first | exact True.intro | (simp only [vb, lb, hlt]; and_intros <;> first | omega | (simp <;> omega)))
      | ((with_reducible show aP _); first | exact True.intro | ((try dsimp only [go_sem]); (simp [vb, hlt] <;> omega)))
      | exact (rfl : some _ = _)
      | (
        fail_if_success refine a7 ?_
        refine aV ?_
        repeat1' dsimp only [A0, au, go_sem]
        first
        | refine a8 ?_ ?_ rfl ?_
        | apply ba
        | apply bc
        | (refine bf (fun hc => ?_) fun hc => ?_ <;> first | (cases hc; done) | (exfalso; (simp at hc <;> omega)) | (try simp only [bn] at hc; try contradiction))
        | skip))
    all_goals simp [aK]
theorem Bb (b:List Rg) (r:Rw) (hr:r.terms.length≤1000000000):aJ ctx 99 [.pv (.agg [au r.terms,.int .i64 r.bound]),.ptr 0 0 0] [⟨[.pv (ae b)],0,1,31,false⟩] (.pv (.bool (!gD b.length r))) [⟨[.pv (ae b)],0,1,31,false⟩]:=by
 have hx:=En b.length r hr;generalize gD b.length r=q at *;unfold au at hx;refine bq (C:=ctx) (Fn.of GZ rfl) rfl (by simp) rfl rfl ?_;unfold Hv;repeat' (first
  |((with_reducible first|show aH _|show aP _);simp[vb,hx]<;>omega)
  |exact(rfl:some _=_)
  |(
   fail_if_success refine a7 ?_
   refine bJ [(7,{val:=some (.pv (.bool q))})] ?_;repeat1' dsimp only[Hv,ae,au,go_sem]
   first
   |refine a8 ?_ ?_ rfl ?_
   |apply ba
   |apply bc
   |(refine bf (fun hc=>?_) fun hc=>?_<;>first|(cases hc;done)|(exfalso;simp[hx]at hc<;>omega)|(try simp only[bn]at hc;try contradiction))
   |skip))
 exact⟨⟨trivial,rfl⟩,_,rfl⟩
theorem sR (b:List Rg) (l:List Rw) (hb:b.length≤1000000000) (hl:l.length≤1000000000) (ht:∀r∈l,r.terms.length≤1000000000):ah ctx 71 [ae b,ax l] (.bool (fQ b l)):=by
 have h1:=F7 b hb;have h2:=CH 99 [⟨[.pv (ae b)],0,1,31,false⟩] rfl 0 (by simp) l hl (fun r=>!gD b.length r) fun r hr=>Bb b r (ht r hr)
 unfold fQ;have e:l.all (gD b.length)= !(l.any fun r=>!gD b.length r):=by simp[List.any_eq_not_all_not]
 rw[e];clear e;generalize (l.any fun r=>!gD b.length r)=q at *;generalize eh b=q2 at *;unfold ae ax at h2;unfold ae at h1;cases q2 with
 |false =>
  refine ar (C:=ctx) (Fn.of F3 rfl) rfl ?_;unfold Hr;refine iF [(97,fun _=>some (.bool false))] ?_;dsimp only[ae,ax,go_sem];try dsimp only[ae,ax,go_sem]
  refine⟨(by simp[vb,h1]<;>omega),(by simp[vb,h1]<;>omega),?_⟩;refine bU (ju (T:=[(97,fun _=>some (.bool false))]) (H:=[]) ?_);dsimp only[ae,ax,go_sem];try dsimp only[ae,ax,go_sem]
  refine⟨(by simp[vb,h1]<;>omega),(by simp[vb,h1]<;>omega),?_⟩;refine iF [(97,fun _=>some (.bool false))] ?_;dsimp only[ae,ax,go_sem];exact⟨trivial,rfl⟩
 |true =>
  refine ar (C:=ctx) (Fn.of F3 rfl) rfl ?_;unfold Hr;refine eW [(97,fun _=>some (.bool true))] [(10,{val:=some (.pv (.bool q)),ro:=true})] ?_;dsimp only[ae,ax,go_sem];try dsimp only[ae,ax,go_sem]
  refine⟨(by simp[vb,h1,h2]<;>omega),(by simp[vb,h1,h2]<;>omega),?_⟩;refine bU (ju (T:=[(97,fun _=>some (.bool true))]) (H:=[(10,{val:=some (.pv (.bool q)),ro:=true})]) ?_);dsimp only[ae,ax,go_sem];try dsimp only[ae,ax,go_sem]
  refine⟨(by simp[vb,h1,h2]<;>omega),(by simp[vb,h1,h2]<;>omega),?_⟩;refine eW [(97,fun _=>some (.bool true))] [(10,{val:=some (.pv (.bool q)),ro:=true})] ?_;dsimp only[ae,ax,go_sem];exact⟨trivial,rfl⟩
theorem Bc (b:List Rg) (hb:b.length≤1000000000):ah ctx 71 [ae b,.nilsl] (.bool (eh b)):=by
 have h:=sR b [] hb (by simp) (by simp);rw[show fQ b []=eh b by simp[fQ]]at h;refine ah.n8 1 ?_;have e:∀l:List PV,l.map (canon 0)=l:=fun l=>by rw[show canon 0=id from funext fun _=>by simp[canon]];simp
 simpa [canon,ae,ax,e]using h
end
section
open Rf
def vk (l:List Int):fw:=⟨(l.flatMap bS).map .pv,1,1,3,false⟩
theorem Eo (k:Nat) (cells:List PV) (hk:k≤1000000000) (hc:cells.length=(k+1)*1):aJ ctx 167 [.pv (.sl (k+1) cells)] [] (.ref 0 1 0 (k+1)) [⟨cells.map .pv,1,1,3,false⟩]:=by
 refine bq (C:=ctx) (Fn.of Fv rfl) rfl (by simp) rfl (by simp[aM,dA]) ?_;unfold c167;iterate 9 first
  |refine⟨fun h=>by simp at h<;>omega,fun _=>?_⟩
  |refine⟨by simp[vb]<;>omega,by simp[vb]<;>omega,?_⟩
  |(refine bJ [(7,{mode:=1})] ?_;iterate 2 (try dsimp only[go_sem]))
 refine aV ?_;dsimp only[go_sem];exact⟨⟨trivial,by simp⟩,[],rfl⟩
theorem F8 (l:List Int) (h0:l≠[]) (hl:l.length≤1000000000) (μ:AM):aJ ctx 167 [.pv (.sl l.length (l.flatMap bS))] μ (.ref μ.length 1 0 l.length) (μ++[vk l]):=by
 cases l with
 |nil=>exact absurd rfl h0
 |cons x r =>
  have h:=Eo r.length ((x::r).flatMap bS) (by simp at hl;omega) (by rw[cJ];rfl);have:=h.frame [] μ (by simp) (by simp) trivial rfl (by simp[dA]) (by simp);have he:∀cs:List PV,(cs.map AV.pv).map (pI [] μ.length 3)=cs.map AV.pv:=fun cs=>by simp[pI,Function.comp_def]
  simpa [pI,oR,xA,r5,vk,he,Function.comp_def]using this
theorem CQ (n:Nat) (es:List Bool) (a b:Nat) (hlen:es.length=n*n) (ha:a<n) (hb:b<n):(es.flatMap dT)[a*n+b]?.getD default= .bool (ey n es a b):=by
 have hlt:a*n+b<es.length:=by
  rw[hlen];calc a*n+b<a*n+n:=by omega
   _=(a+1)*n:=by rw[Nat.add_mul,Nat.one_mul]
   _≤n*n:=Nat.mul_le_mul_right _ ha
 rw[iu (g:=dT) (fun _=>rfl) es _ false default hlt];rfl
theorem F9 (n:Nat) (es:List Bool) (a b:Nat) (hlen:es.length=n*n) (hn:n≤6) (ha:a<n) (hb:b<n) :
  ah ctx 166 [.agg [.int .i64 n,bE es],.int .i64 a,.int .i64 b] (.bool (ey n es a b)):=by
 have e:=CQ n es a b hlen ha hb;have f1:=eN es;generalize ey n es a b=q at *;have hlt:a*n+b<es.length:=by
  rw[hlen];calc a*n+b<a*n+n:=by omega
   _=(a+1)*n:=by rw[Nat.add_mul,Nat.one_mul]
   _≤n*n:=Nat.mul_le_mul_right _ ha
 have hm:a*n≤36:=by
  have:=Nat.mul_le_mul (show a≤6 by omega) hn;omega
 have ez:((a:Int)*(n:Int)+(b:Int))=((a*n+b:Nat):Int):=by simp
 have ez2:((a:Int)*(n:Int))=((a*n:Nat):Int):=by simp
 generalize a*n=m at *;refine ar (C:=ctx) (Fn.of Fu rfl) rfl ?_;unfold Eh;repeat' (first
  |((with_reducible show aH _);first|exact True.intro|(simp only[vb,lb,e,f1,hlt,ez,ez2];and_intros<;>first|omega|(simp<;>omega)))
  |((with_reducible show aP _);first|exact True.intro|((try dsimp only[go_sem]);(simp only[vb,and_true,true_implies];(repeat' (first|(with_reducible assumption)|(with_reducible apply And.intro)|intro _|((fail_if_success (with_reducible show(_:Int)≤_));assumption)))<;>first|rfl|(simp only[ab,e,f1,hlt,ez,ez2];done))))
  |exact(rfl:some _=_)
  |(
   fail_if_success refine a7 ?_
   refine bJ [(12,{val:=some (.pv (.int .i64 m))}),(14,{val:=some (.pv (.int .i64 (m+b:Nat)))}),(16,{val:=some (.pv (.bool q))})] ?_;repeat1' dsimp only[Eh,bE,go_sem]
   first
   |refine a8 ?_ ?_ rfl ?_
   |apply ba
   |apply bc
   |(refine bf (fun hc=>?_) fun hc=>?_<;>first|(cases hc;done)|(try simp only[bn]at hc;try contradiction))
   |skip))
end
section
open Rf
def CR:Nat→Bool:=fun d=>Nat.beq d 20||Nat.beq d 64
def Fx:ay:=(⟨_,by conv=>(lhs;reduce;try simp only[eA,Int.cast_ofNat_Int,Int.reduceNegSucc,UInt8.reduceOfNat])⟩:{x // codeOf Tryz.prog 146 CR=some x}).1
theorem Ga:bK Tryz.prog 146 CR=some (Fx,[.t 6],67,true):=by kernel_rfl
def nf (n:Nat) (es:List Bool):fw:=⟨[.pv (.int .i64 n),.pv (bE es)],0,2,187,false⟩
def kA (s:List Bool):fw:=⟨(s.flatMap dT).map .pv,0,1,4,false⟩
def gz (l:List (List Int)):List PV:=l.map aa
def nh (l:List (List Int)) (g:Nat):fw:=⟨(gz l).map .pv,g,1,49,false⟩
def yG:List Int→PV
 |[]=>.nilsl
 |x::r=>aa (x::r)
theorem Ep {l:List Int} (h:l≠[]):yG l=aa l:=by
 cases l with
 |nil=>exact absurd rfl h
 |cons x r=>rfl
theorem Bd (l:List Int) (h:l≠[]):∃m u,l=m++[u]:=⟨l.dropLast,l.getLast h,(List.dropLast_concat_getLast h).symm⟩
theorem ni (s:List Bool):s.flatMap dT=s.map PV.bool:=by
 induction s with
 |nil=>rfl
 |cons b r ih=>rw[List.flatMap_cons,ih];rfl
theorem w8 (s:List Bool) (k:Nat):setAt ((s.flatMap dT).map AV.pv) k [.pv (.bool true)]=((s.set k true).flatMap dT).map AV.pv:=by
 rw[ni,ni,setAt,setAt,List.map_set,List.map_set]
theorem oi:∀n:Nat,dy [.bool false] n=(List.replicate n false).flatMap dT
 |0=>rfl
 |n+1=>by rw[dy,oi n,List.replicate_succ,List.flatMap_cons];rfl
theorem Er (s:List Bool) (k:Nat) (hk:k<s.length):(s.flatMap dT)[k]?=some (.bool (s.getD k false)):=by
 rw[ni,List.getElem?_map,List.getElem?_eq_getElem hk,List.getD,List.getElem?_eq_getElem hk];rfl
theorem Es (pre:List (List Int)) (l:List Int) (r:List (List Int)):((gz (pre++l::r)).map AV.pv)[pre.length]?.getD .any= .pv (aa l):=by
 simp[gz]
theorem Et (m:List Int) (u:Int):((m++[u]).flatMap bS)[m.length]?.getD default= .int .i64 u:=by
 rw[iu (g:=bS) (fun _=>rfl) (m++[u]) m.length 0 default (by simp)];simp
theorem Gb (aB:List Nat) (l:List PV):(l.map AV.pv).map (dD aB 3)=l.map AV.pv:=by
 simp[dD,Function.comp_def]
theorem uh {own:Nat→Bool} {nn:Nat} {x:ay} {R:Exit→AF→AM→Prop} {f:AF} {b0 b1 b4:fw} {p0 p1 cs ps:List PV} {g g3 k:Nat} {e e3:TypeId} (h0:b0.cells=p0.map .pv) (h1:b1.cells=p1.map .pv) (hl:ps.length=k)
  (hr:gg [0,1,2,3] f=f) (hs:∀M,gU M 3 f=f) (ho:ga f 3=true)
  (h:Aw ctx own nn 0 x R f [b0,b1,⟨cs.map .pv++[.pv (.sl k ps)],g,1,e,false⟩]):Aw ctx own nn 0 x R f [b0,b1,⟨cs.map .pv++[.ref 3 g3 0 k],g,1,e,false⟩,⟨ps.map .pv,g3,1,e3,false⟩,b4]:=by
 refine jt [0,1,2,3] rfl ?_;rw[hr];have hm:fx [0,1,2,3] [b0,b1,⟨cs.map .pv++[.ref 3 g3 0 k],g,1,e,false⟩,⟨ps.map .pv,g3,1,e3,false⟩,b4]=[b0,b1,⟨cs.map .pv++[.ref 3 g3 0 k],g,1,e,false⟩,⟨ps.map .pv,g3,1,e3,false⟩]:=by
  obtain⟨a0,a1,a2,a3,a4⟩:=b0;obtain⟨d0,d1,d2,d3,d4⟩:=b1;simp only at h0 h1;subst h0 h1;simp[fx,gq,dD,idxOf,Function.comp_def];rfl
 rw[hm];have hk:aM [b0,b1] 2=true:=by simp[aM,h0,h1,dA]
 exact nT (μ:=[b0,b1]) (c1:=cs) (c2:=[]) hk (Nat.zero_le _) (by simp) (by omega) hs ho h
set_option maxHeartbeats 8000000 in
theorem CS (n:Nat) (es:List Bool) (fr tg:Nat) (hlen:es.length=n*n) (hn:n≤6) (hf:fr<n) (ht:tg<n) :
  ah ctx 146 [.agg [.int .i64 n,bE es],.int .i64 fr,.int .i64 tg] (yG (oX n (ey n es) tg (n+2) [[(fr:Int)]] (jH n fr))):=by
 generalize hres:oX n (ey n es) tg (n+2) [[(fr:Int)]] (jH n fr)=res;have hb0:=tX (e:=ey n es) hf;have hz:=oi n;have hzl:(dy [.bool false] n).length=n:=by rw[hz,eN];simp
 refine ar (C:=ctx) (Fn.of Ga rfl) rfl ?_;unfold Fx;repeat' (first
  |((with_reducible first|show aH _|show aP _);simp[vb,hf,hzl]<;>omega)
  |exact(rfl:some _=_)
  |(
   fail_if_success refine a7 ?_
   refine aV ?_;repeat1' dsimp only[c146,bE,go_sem]
   first
   |refine a8 ?_ ?_ rfl ?_
   |apply ba
   |apply bc
   |(refine bf (fun hc=>?_) fun hc=>?_<;>first|(cases hc;done)|(exfalso;simp[hf,hzl]at hc<;>omega)|(try simp only[bn]at hc;try contradiction))
   |skip))
 refine dY (σ:=List (List Int)×List (List Int)×List Bool×Nat×Nat)
  (fun s=>FP n (ey n es) fr s.2.1 s.2.2.1∧s.1.length+s.2.1.length+fu s.2.2.1≤n+1∧oX n (ey n es) tg s.2.2.2.2 s.2.1 s.2.2.1=res∧s.2.1.length+fu s.2.2.1<s.2.2.2.2)
  (fun s=>[(2,.pv (.int .i64 tg)),(3,.ptr 0 0 0),(7,.ref 1 0 0 n),(8,.ref 2 s.2.2.2.1 s.1.length s.2.1.length)])
  (fun s=>[nf n es,kA s.2.2.1,nh (s.1++s.2.1) s.2.2.2.1]) (fun s=>s.2.1.length+fu s.2.2.1) ([],[[(fr:Int)]],jH n fr,0,n+2) ⟨hb0,?_,hres,?_⟩ (by (repeat' (first|exact trivial|refine And.intro (by first|rfl|(simp[get,Nat.beq];done)|(simp[get,Nat.beq];omega)|(dsimp only[get];congr 1<;>first|rfl|omega|(simp;done)|(simp;omega))) ?_))) ?_ (fun s _=>⟨Nat.zero_le _,rfl,by simp[aM,nf,kA,nh,dA]⟩) fun s hP=>?_
 ·have:=(hb0.ne [(fr:Int)] (by simp)).2.2.2.2;simp at this ⊢;omega
 ·have:=(hb0.ne [(fr:Int)] (by simp)).2.2.2.2;simp at this ⊢;omega
 ·refine⟨[],?_⟩;simp[nf,kA,nh,gz,jH,←w8,setAt,hz,aa,bS,bE]
 obtain⟨pre,q,seen,g,f⟩:=s;obtain⟨p1,p2,p3,p4⟩:=hP;simp only at p1 p2 p3 p4 ⊢;cases q with
 |nil =>
  cases f with
  |zero=>omega
  |succ f =>
   rw[oX]at p3;subst p3;repeat' (first
    |((with_reducible first|show aH _|show aP _);simp[vb]<;>omega)
    |exact(rfl:some _=_)
    |(
     fail_if_success refine a7 ?_
     refine aV ?_;repeat1' dsimp only[c146,yG,go_sem]
     first
     |refine a8 ?_ ?_ rfl ?_
     |apply ba
     |apply bc
     |(refine bf (fun hc=>?_) fun hc=>?_<;>first|(cases hc;done)|(exfalso;simp at hc<;>omega)|(try simp only[bn]at hc;try contradiction))
     |skip))
 |cons l r =>
  cases f with
  |zero=>omega
  |succ f =>
   obtain⟨q1,q2,q3,q4,q5⟩:=p1.ne l (by simp);obtain⟨m,u',rfl⟩:=Bd l q1;obtain⟨u,rfl⟩:∃u:Nat,u'=(u:Int):=⟨u'.toNat,by simp at q2;omega⟩
   obtain⟨hu,-⟩:=pV m u;have e1:=Es pre (m++[(u:Int)]) r;have e2:=Et m (u:Int);have f1:=cJ (m++[(u:Int)]);rw[oX,hu]at p3;rw[hu]at q3 q4;have hml:m.length≤7:=by simp at q5;omega
   by_cases hut:u=tg
   ·rw[if_pos hut]at p3;subst hut p3;repeat' (first
     |((with_reducible show aH _);first|exact True.intro|(simp only[vb,lb,e1,e2,f1,aa,gz];and_intros<;>first|omega|(simp<;>omega)))
     |((with_reducible show aP _);first|exact True.intro|((try dsimp only[go_sem]);first|(simp[vb,e1,e2,f1,aa,gz]<;>omega)|(simp only[vb,and_true,true_implies];(repeat' (first|(with_reducible assumption)|(with_reducible apply And.intro)|intro _|((fail_if_success (with_reducible show(_:Int)≤_));assumption)))<;>(simp_all;done))))
     |exact(rfl:some _=_)
     |(
      fail_if_success refine a7 ?_
      refine bJ [(28,{val:=some (.pv (.sl (m++[(u:Int)]).length ((m++[(u:Int)]).flatMap bS)))}),(34,{val:=some (.pv (.int .i64 u))})] ?_;repeat1' dsimp only[c146,nf,nh,aa,go_sem]
      first
      |refine a8 ?_ ?_ rfl ?_
      |apply ba
      |apply bc
      |(refine bf (fun hc=>?_) fun hc=>?_<;>first|(cases hc;done)|(exfalso;(simp at hc<;>omega))|(try simp only[bn]at hc;try contradiction))
      |skip))
    rw[Ep q1];rfl
   ·rw[if_neg hut]at p3;repeat' (first
     |((with_reducible show aH _);first|exact True.intro|(simp only[vb,lb,e1,e2,f1,aa,gz];and_intros<;>first|omega|(simp<;>omega)))
     |((with_reducible show aP _);first|exact True.intro|((try dsimp only[go_sem]);first|(simp[vb,e1,e2,f1,aa,gz]<;>omega)|(simp only[vb,and_true,true_implies];(repeat' (first|(with_reducible assumption)|(with_reducible apply And.intro)|intro _|((fail_if_success (with_reducible show(_:Int)≤_));assumption)))<;>(simp_all;done))))
     |exact(rfl:some _=_)
     |(
      fail_if_success refine a7 ?_
      refine bJ [(28,{val:=some (.pv (.sl (m++[(u:Int)]).length ((m++[(u:Int)]).flatMap bS)))}),(34,{val:=some (.pv (.int .i64 u))})] ?_;repeat1' dsimp only[c146,nf,nh,aa,go_sem]
      first
      |refine a8 ?_ ?_ rfl ?_
      |apply ba
      |apply bc
      |(refine bf (fun hc=>?_) fun hc=>?_<;>first|(cases hc;done)|(exfalso;(simp at hc<;>omega))|(try simp only[bn]at hc;try contradiction))
      |skip))
    have hLl:(m++[(u:Int)]).length≤8:=by simp;omega
    have hX:=fun k hk=>sD p1 (l:=m++[(u:Int)]) (by simp) k hk
    rw[hu]at hX;clear e1 e2 q2 q4 hml hres hb0 hz hzl;generalize m++[(u:Int)]=L at *;have hX1:=fun k=>tV k (ey n es) L u (L::r) seen
    have hX0:l6 0 (ey n es) L u (L::r) seen=(L::r,seen):=rfl;generalize hXX:(fun k=>l6 k (ey n es) L u (L::r) seen)=X;have hXe:∀k,l6 k (ey n es) L u (L::r) seen=X k:=fun k=>by rw[←hXX]
    simp only[hXe]at hX hX1 hX0 p3;clear hXe hXX;refine dY (σ:=Nat×List (List Int)×Nat) (fun s=>s.1≤n∧s.2.1.length+(X s.1).1.length+fu (X s.1).2≤n+1)
     (fun s=>[(2,.pv (.int .i64 tg)),(3,.ptr 0 0 0),(7,.ref 1 0 0 n),(8,.ref 2 s.2.2 s.2.1.length (X s.1).1.length),(9,.pv (.sl L.length (L.flatMap bS))),(10,.pv (.int .i64 u)),(40,.pv (.int .i64 n)),(41,.pv (.int .i64 s.1))])
     (fun s=>[nf n es,kA (X s.1).2,nh (s.2.1++(X s.1).1) s.2.2]) (fun s=>n-s.1) (0,pre,g) ⟨Nat.zero_le _,by simp only[hX0];exact p2⟩ (by simp only[hX0];(repeat' (first|exact trivial|refine And.intro (by first|rfl|(simp[get,Nat.beq];done)|(simp[get,Nat.beq];omega)|(dsimp only[get];congr 1<;>first|rfl|omega|(simp;done)|(simp;omega))) ?_))) ⟨[],by simp only[hX0];rfl⟩ (fun s _=>⟨Nat.zero_le _,rfl,by simp[aM,nf,kA,nh,dA]⟩) fun s hP=>?_
    obtain⟨k,pre,g⟩:=s;obtain⟨t1,t2⟩:=hP;simp only at t1 t2 ⊢;obtain⟨b1,b2,⟨mm,b3⟩,-,-,-⟩:=hX k t1;have hxl:=b1.len;by_cases hlt:k<n
    ·have hs1:=hX1 k;have hha:=F9 n es u k hlen hn q3 hlt;have hsa:=Er (X k).2 k (by omega);have hse:=w8 (X k).2 k;have f3:=eN (X k).2;have hsd:(X k).2.getD k true=(X k).2.getD k false:=by rw[List.getD,List.getD,List.getElem?_eq_getElem (by omega)];rfl
     unfold pU at hs1;rw[hsd]at hs1;generalize hsb:(X k).2.getD k false=sb at *;generalize ey n es u k=eb at *;have same:X (k+1)=X k→∃s',n-s'.1<n-k∧(s'.1≤n∧s'.2.1.length+(X s'.1).1.length+fu (X s'.1).2≤n+1)∧s'=(k+1,pre,g):=fun h=>⟨(k+1,pre,g),by show n-(k+1)<n-k;omega,⟨by show k+1≤n;omega,by show pre.length+(X (k+1)).1.length+_≤_;rw[h];exact t2⟩,rfl⟩
     unfold bE at hha;cases eb with
     |false =>
      have hs2:X (k+1)=X k:=by rw[hs1];simp
      obtain⟨s',w1,w2,rfl⟩:=same hs2;repeat' (first
       |((with_reducible show aH _);first|exact True.intro|(simp only[vb,lb,hha,hlt,hxl,f3];and_intros<;>first|omega|(simp<;>omega)))
       |((with_reducible show aP _);first|exact True.intro|((try dsimp only[go_sem]);(simp[vb,hha,hlt,hxl,f3]<;>omega)))
       |exact(rfl:some _=_)
       |(
        fail_if_success refine a7 ?_
        refine eW [(166,fun _=>some (.bool false))] [(52,{val:=some (.pv (.bool false))})] ?_;repeat1' dsimp only[c146,nf,kA,bE,go_sem]
        first
        |refine a8 ?_ ?_ rfl ?_
        |apply ba
        |apply bc
        |(refine bf (fun hc=>?_) fun hc=>?_<;>first|(cases hc;done)|(exfalso;(simp at hc<;>omega))|(try simp only[bn]at hc;try contradiction))
        |skip))
      exact⟨_,w1,w2,by simp only[hs2];(repeat' (first|exact trivial|refine And.intro (by first|rfl|(simp[get,Nat.beq];done)|(simp[get,Nat.beq];omega)|(dsimp only[get];congr 1<;>first|rfl|omega|(simp;done)|(simp;omega))) ?_)),[],by simp only[hs2]<;>rfl⟩
     |true =>
      cases sb with
      |true =>
       have hs2:X (k+1)=X k:=by rw[hs1];simp
       obtain⟨s',w1,w2,rfl⟩:=same hs2;repeat' (first
        |((with_reducible show aH _);first|exact True.intro|(simp only[vb,lb,hha,hlt,hsa,hxl,f3];and_intros<;>first|omega|(simp<;>omega)))
        |((with_reducible show aP _);first|exact True.intro|((try dsimp only[go_sem]);(simp only[vb,and_true,true_implies];(repeat' (first|(with_reducible assumption)|(with_reducible apply And.intro)|intro _|((fail_if_success (with_reducible show(_:Int)≤_));assumption)))<;>first|omega|(simp only[ab,hha,hlt,hsa,hxl,f3];done)|(simp[Nat.mul_one,hha,hlt,hsa,hxl,f3]<;>omega)|(simp_all;done))))
        |exact(rfl:some _=_)
        |(
         fail_if_success refine a7 ?_
         refine eW [(166,fun _=>some (.bool true))] [(52,{val:=some (.pv (.bool true))})] ?_;repeat1' dsimp only[c146,nf,kA,bE,go_sem]
         first
         |refine a8 ?_ ?_ rfl ?_
         |apply ba
         |apply bc
         |(refine bf (fun hc=>?_) fun hc=>?_<;>first|(cases hc;done)|(exfalso;(simp at hc<;>omega))|(try simp only[bn]at hc;try contradiction))
         |skip))
       exact⟨_,w1,w2,by simp only[hs2];(repeat' (first|exact trivial|refine And.intro (by first|rfl|(simp[get,Nat.beq];done)|(simp[get,Nat.beq];omega)|(dsimp only[get];congr 1<;>first|rfl|omega|(simp;done)|(simp;omega))) ?_)),[],by simp only[hs2]<;>rfl⟩
      |false =>
       iterate 7 first
        |refine⟨fun _=>?_,fun h=>by simp at h<;>omega⟩
        |refine⟨by simp[vb,hha,hlt,hsa,hxl,f3]<;>omega,by simp[vb,hha,hlt,hsa,hxl,f3]<;>omega,?_⟩
        |(refine eW [(166,fun _=>some (.bool true))] [(52,{val:=some (.pv (.bool false))})] ?_;iterate 2 (try dsimp only[nf,kA,bE,go_sem]))
       refine bU (ju (T:=[(166,fun _=>some (.bool true))]) (H:=[(52,{val:=some (.pv (.bool false))})]) ?_);dsimp only[nf,kA,bE,go_sem];try dsimp only[nf,kA,bE,go_sem]
       refine⟨(by first|exact True.intro|(simp only[vb,lb];omega)|(simp only[vb,lb,hha,hlt,hsa,hxl,f3];and_intros<;>first|omega|(simp<;>omega))|(simp[vb,hha,hlt,hsa,hxl,f3]<;>omega)),(by first|exact True.intro|((try dsimp only[go_sem]);first|(simp[vb,hha,hlt,hsa,hxl,f3]<;>omega)|(simp only[vb,and_true,true_implies];(repeat' (first|(with_reducible assumption)|(with_reducible apply And.intro)|intro _|((fail_if_success (with_reducible show(_:Int)≤_));assumption)))<;>first|omega|rfl|(simp only[ab,hha,hlt,hsa,hxl,f3];done)|(simp[Nat.mul_one,hha,hlt,hsa,hxl,f3]<;>omega)|(simp_all;done)))),?_⟩
       refine eW [(166,fun _=>some (.bool true))] [(52,{val:=some (.pv (.bool false))})] ?_;dsimp only[nf,kA,bE,go_sem];refine⟨fun _=>?_,fun h=>by simp at h<;>omega⟩;refine eW [(166,fun _=>some (.bool true))] [(52,{val:=some (.pv (.bool false))})] ?_;dsimp only[nf,kA,bE,go_sem];try dsimp only[nf,kA,bE,go_sem]
       refine⟨(by first|exact True.intro|(simp only[vb,lb];omega)|(simp only[vb,lb,hha,hlt,hsa,hxl,f3];and_intros<;>first|omega|(simp<;>omega))|(simp[vb,hha,hlt,hsa,hxl,f3]<;>omega)),(by first|exact True.intro|((try dsimp only[go_sem]);first|(simp[vb,hha,hlt,hsa,hxl,f3]<;>omega)|(simp only[vb,and_true,true_implies];(repeat' (first|(with_reducible assumption)|(with_reducible apply And.intro)|intro _|((fail_if_success (with_reducible show(_:Int)≤_));assumption)))<;>first|omega|rfl|(simp only[ab,hha,hlt,hsa,hxl,f3];done)|(simp[Nat.mul_one,hha,hlt,hsa,hxl,f3]<;>omega)|(simp_all;done)))),?_⟩
       have hcl:=fun μ=>F8 L q1 (by omega) μ
       rw[show(((X k).2.flatMap dT).map AV.pv).set (0+(k:Int).toNat*1) (.pv (.bool true))=(((X k).2.set k true).flatMap dT).map AV.pv from by rw[←hse];simp[setAt]];refine BZ 7 false [(2,{val:=some (.ref 3 1 0 L.length),mem:=some ([⟨[.pv (.int .i64 n),.pv (.sl es.length (es.flatMap dT))],0,2,187,false⟩,⟨(((X k).2.set k true).flatMap dT).map .pv,0,1,4,false⟩,nh (pre++(X k).1) g]++[vk L])}),(5,{mode:=1})] [] ?_;iterate 3 (try dsimp only[uV,nh,vk,go_sem])
       have hls:∀l:List (List Int),(gz l).length=l.length:=fun l=>by simp[gz]
       have hxk:X (k+1)=((X k).1++[L++[(k:Int)]],(X k).2.set k true):=by rw[hs1];simp
       have hun:=kx (X k).2 k hsd;have fin:∀(pre':List (List Int)),pre'.length≤pre.length→∃s',n-s'.1<n-k∧(s'.1≤n∧s'.2.1.length+(X s'.1).1.length+fu (X s'.1).2≤n+1)∧s'=(k+1,pre',g+1):=fun pre' h=>⟨(k+1,pre',g+1),by show n-(k+1)<n-k;omega,⟨by show k+1≤n;omega,by show pre'.length+(X (k+1)).1.length+fu (X (k+1)).2≤n+1;rw[hxk];simp;omega⟩,rfl⟩
       have hps:(L.flatMap bS).map AV.pv++[.pv (.int .i64 k)]=((L++[(k:Int)]).flatMap bS).map AV.pv:=by simp[bS]
       rw[hps];have hcs:∀pre':List (List Int),(gz (pre'++(X k).1)).map AV.pv++[.pv (.sl (L.length+1) ((L++[(k:Int)]).flatMap bS))]=(gz (pre'++(X (k+1)).1)).map AV.pv:=fun pre'=>by rw[hxk];simp[gz,aa]
       have c1:pre.length+(X k).1.length*1=((gz (pre++(X k).1)).map AV.pv).length:=by simp[gz]
       have c2:0<(X k).1.length:=by rw[b3];simp
       refine⟨by simp[vb,f1]<;>omega,⟨hcl _,trivial⟩,by simp[vb],⟨rfl,rfl,rfl,rfl,c1,c2,by omega,by omega⟩,⟨trivial,trivial,?_⟩,trivial,trivial,?_⟩
       ·refine bO [(2,.pv (.int .i64 tg)),(3,.ptr 0 0 0),(7,.ref 1 0 0 n),(8,.ref 2 (g+1) pre.length ((X k).1.length+1)),(9,.pv (.sl L.length (L.flatMap bS))),(10,.pv (.int .i64 u)),(40,.pv (.int .i64 n)),(41,.pv (.int .i64 k))] (by (repeat' (first|exact trivial|refine And.intro (by first|rfl|(simp[get,Nat.beq];done)|(simp[get,Nat.beq];omega)|(dsimp only[get];congr 1<;>first|rfl|omega|(simp;done)|(simp;omega))) ?_))) ?_;refine uh (p0:=[.int .i64 n,.sl es.length (es.flatMap dT)]) rfl rfl (by rw[cJ];simp) rfl (fun _=>rfl) rfl ?_;rw[hcs]
        obtain⟨s',w1,w2,rfl⟩:=fin pre (Nat.le_refl _);repeat' (first
         |((with_reducible show aH _);(simp only[vb,lb,hlt];and_intros<;>first|omega|(simp<;>omega)))
         |((with_reducible show aP _);exact True.intro)
         |exact(rfl:some _=_)
         |(
          fail_if_success refine a7 ?_
          refine aV ?_;repeat1' dsimp only[c146,go_sem]
          first
          |refine a8 ?_ ?_ rfl ?_
          |apply ba
          |apply bc
          |(refine bf (fun hc=>?_) fun hc=>?_<;>first|(cases hc;done)|(try simp only[bn]at hc;try contradiction))
          |skip))
        exact⟨_,w1,w2,by simp only[hxk];(repeat' (first|exact trivial|refine And.intro (by first|rfl|(simp[get,Nat.beq];done)|(simp[get,Nat.beq];omega)|(dsimp only[get];congr 1<;>first|rfl|omega|(simp;done)|(simp;omega))) ?_)),[],by simp only[hxk]<;>rfl⟩
       ·refine bO [(2,.pv (.int .i64 tg)),(3,.ptr 0 0 0),(7,.ref 1 0 0 n),(8,.ref 2 (g+1) 0 ((X k).1.length+1)),(9,.pv (.sl L.length (L.flatMap bS))),(10,.pv (.int .i64 u)),(40,.pv (.int .i64 n)),(41,.pv (.int .i64 k))] (by (repeat' (first|exact trivial|refine And.intro (by first|rfl|(simp[get,Nat.beq];done)|(simp[get,Nat.beq];omega)|(dsimp only[get];congr 1<;>first|rfl|omega|(simp;done)|(simp;omega))) ?_))) ?_;rw[show((gz (pre++(X k).1)).map AV.pv).drop pre.length=(gz ([]++(X k).1)).map AV.pv from by simp[gz]]
        refine uh (p0:=[.int .i64 n,.sl es.length (es.flatMap dT)]) rfl rfl (by rw[cJ];simp) rfl (fun _=>rfl) rfl ?_;rw[hcs];obtain⟨s',w1,w2,rfl⟩:=fin [] (Nat.zero_le _);repeat' (first
         |((with_reducible show aH _);(simp only[vb,lb,hlt];and_intros<;>first|omega|(simp<;>omega)))
         |((with_reducible show aP _);exact True.intro)
         |exact(rfl:some _=_)
         |(
          fail_if_success refine a7 ?_
          refine aV ?_;repeat1' dsimp only[c146,go_sem]
          first
          |refine a8 ?_ ?_ rfl ?_
          |apply ba
          |apply bc
          |(refine bf (fun hc=>?_) fun hc=>?_<;>first|(cases hc;done)|(try simp only[bn]at hc;try contradiction))
          |skip))
        exact⟨_,w1,w2,by simp only[hxk];(repeat' (first|exact trivial|refine And.intro (by first|rfl|(simp[get,Nat.beq];done)|(simp[get,Nat.beq];omega)|(dsimp only[get];congr 1<;>first|rfl|omega|(simp;done)|(simp;omega))) ?_)),[],by simp only[hxk]<;>rfl⟩
    ·obtain rfl:k=n:=by omega
     repeat' (first
      |((with_reducible show aH _);first|exact True.intro|(simp only[vb,lb,hlt,b3];and_intros<;>first|omega|(simp<;>omega)))
      |((with_reducible show aP _);exact True.intro)
      |exact(rfl:some _=_)
      |(
       fail_if_success refine a7 ?_
       refine aV ?_;repeat1' dsimp only[c146,nf,kA,nh,go_sem]
       first
       |refine a8 ?_ ?_ rfl ?_
       |apply ba
       |apply bc
       |(refine bf (fun hc=>?_) fun hc=>?_<;>first|(cases hc;done)|(exfalso;(simp at hc<;>omega))|(try simp only[bn]at hc;try contradiction))
       |skip))
     generalize X k=Z at *;obtain⟨Z1,Z2⟩:=Z;simp only at b1 b2 b3 t2 p3 ⊢;subst b3;refine⟨(pre++[L],r++mm,Z2,g,f),?_,⟨⟨b1.len,fun x hx=>b1.ne x (by simp only[List.cons_append,List.mem_cons];exact .inr hx),b1.sr⟩,?_,p3,?_⟩,?_,[],?_⟩
     ·simp at b2 ⊢;omega
     ·simp at t2 ⊢;omega
     ·simp at b2 p4 ⊢;omega
     ·simp only[List.length_append,List.length_cons,List.length_nil];(repeat' (first|exact trivial|refine And.intro (by first|rfl|(simp[get,Nat.beq];done)|(simp[get,Nat.beq];omega)|(dsimp only[get];congr 1<;>first|rfl|omega|(simp;done)|(simp;omega))) ?_))
     ·simp[nf,kA,nh]
end
section
open Rf
theorem vl {t:Tree} (h:iR t=true):gp t=true∧wt t≤65536:=by
 simp only[iR,Bool.and_eq_true,decide_eq_true_eq]at h;exact⟨h.2,h.1.2⟩
def jx (t:Tree):List UInt8×Int:=if iR t then (if (fW t).length>65536 then ([],8) else (fW t,0)) else ([],1)
end
section
open Rf
theorem qv (s:List bj) (h:s.all bY=true):∀k,k≤s.length→(fL (s.take k)).length≤60*k:=by
 intro k;induction k with
 |zero=>intro _;simp[fL]
 |succ k ih =>
  intro hk;rw[bz s k zs (by omega),nd,List.length_append];have:=w6 (List.all_eq_true.mp h _ (aT (d:=zs) (by omega:k<s.length)));have:=ih (by omega);omega
set_option maxHeartbeats 4000000 in
theorem CT:∀t,rf t:=by
 refine Tree.ind fun kd s c a ks ih μ b g r o j h ho=>?_
 have hft:=h.hf;rw[dU]at hft;simp only[Bool.and_eq_true]at hft;have hw:=h.hw;rw[dI]at hw ho;have hb:=h.hb;have hr:=h.hr;have ht:=CO h;have hL:=o6 (μ:=μ) (b:=b) (g:=g) (t:=.node kd s c a ks);have hsl:=qv s hft.1.1;refine bq (C:=ctx) (Fn.of G7 rfl) rfl (by rw[cE,cE];omega) rfl (by rw[cE];exact k8 h.ok hb hr) ?_;rw[cE,jo,o5];unfold H0;refine aV ?_;simp only[aI,Tree.kind,Tree.steps,Tree.cell,Tree.pos,Tree.kids,az,ai,aw,aj,an,aq,av,mem_set,aD,go_sem]
 try simp only[aI,Tree.kind,Tree.steps,Tree.cell,Tree.pos,Tree.kids,az,ai,aw,aj,an,aq,av,mem_set,aD,go_sem]
 refine⟨(by simp[vb]<;>omega),(by simp[vb]<;>omega),?_⟩;have e:fP μ b g r o j++[⟨[.ptr b g 0],0,1,75,false⟩]++[⟨[.pv (.int .i64 kd),.pv (.sl s.length (s.flatMap aO)),.pv (.int .i64 c),.pv (.int .i64 a),.pv (.sl ks.length (ks.flatMap iP))],0,5,25,false⟩]=fP (jW μ b g (.node kd s c a ks)) b g r o j:=by
  rw[zL h,List.append_assoc];rfl
 rw[e];simp only[List.length_append,List.length_cons,List.length_nil,cE];refine aV ?_;simp only[ht,af,Tree.kind,Tree.steps,Tree.cell,Tree.pos,Tree.kids,az,ai,aw,aj,an,aq,av,mem_set,aD,go_sem];try simp only[ht,af,Tree.kind,Tree.steps,Tree.cell,Tree.pos,Tree.kids,az,ai,aw,aj,an,aq,av,mem_set,aD,go_sem]
 refine⟨(by simp[vb]<;>omega),(by simp[vb]<;>omega),?_⟩;refine aV ?_;simp only[ht,af,Tree.kind,Tree.steps,Tree.cell,Tree.pos,Tree.kids,az,ai,aw,aj,an,aq,av,mem_set,aD,go_sem];try simp only[ht,af,Tree.kind,Tree.steps,Tree.cell,Tree.pos,Tree.kids,az,ai,aw,aj,an,aq,av,mem_set,aD,go_sem]
 refine⟨(by simp[vb]<;>omega),(by simp[vb]<;>omega),?_⟩;refine cg ?_
 refine bF s.length (fun _=>True) (zK μ.length s) (fun k=>fP (jW μ b g (.node kd s c a ks)) b g r (o++fL (s.take k)) (j+4*k)) trivial (by unfold zK;(repeat' (first|exact trivial|refine And.intro (by first|rfl|(simp[get,Nat.beq];done)|(simp[get,Nat.beq];omega)|(dsimp only[get];congr 1<;>first|rfl|omega|(simp;done)|(simp;omega))) ?_))) ⟨[],by simp[fL]⟩ (fun k=>⟨by rw[cE,hL];omega,by simp only[zK,ga,List.all_cons,List.all_nil,dA,cE,hL,Bool.and_true,Bool.true_and,Bool.and_eq_true];exact⟨Nat.blt_eq.mpr (by omega),Nat.blt_eq.mpr (by omega),Nat.blt_eq.mpr (by omega)⟩,by rw[cE];exact k8 (p9 h) (by omega) (by omega)⟩) fun k hk _=>?_
 have hsk:=hsl k hk;by_cases hlt:k<s.length
 ·have hs:=sL h (m:=μ.length) (R:=cF 0 (cf (fun f μ'=>Aw ctx (fun _=>false) 67 μ.length Em (eK [] (.pv (.tup [])) (fP μ b g r (o++((s.map l8).flatten++jI kd c a ks.length++(ks.map fW).flatten)) (j+(4*s.length+jJ kd+(ks.map fG).sum)))) f μ') (eK [] (.pv (.tup [])) (fP μ b g r (o++((s.map l8).flatten++jI kd c a ks.length++(ks.map fW).flatten)) (j+(4*s.length+jJ kd+(ks.map fG).sum)))))) (o:=o++fL (s.take k)) (j:=j+4*k) hlt (by rw[List.length_append];omega);refine fD hs fun e' f' μ' hh=>?_
  cases e' with
  |normal =>
   obtain⟨h1,junk,h2⟩:=hh;refine⟨hlt,trivial,h1,junk,?_⟩;rw[h2,bz s k zs hlt,nd,List.append_assoc o,show j+4*k+4=j+4*(k+1) by omega]
  |_=>exact hh
 ·obtain rfl:k=s.length:=by omega
  rw[List.take_length]at hsk ⊢;have htl:=fun f hf=>sP h (m:=μ.length) (Nat.le_refl _) ih (o:=o++fL s) (j:=j+4*s.length) (by rw[List.length_append];omega) (f:=f) hf
  unfold zK;iterate 5 first
   |refine⟨fun h=>by simp at h<;>omega,fun _=>?_⟩
   |refine⟨by simp[vb]<;>omega,by simp[vb]<;>omega,?_⟩
   |(refine aV ?_;iterate 2 (try simp only[ht,aw,aj,an,aq,av,mem_set,aD,go_sem]))
  have:=htl [(14,.pv (.bool (decide ((s.length:Int)<s.length)))),(2,.ptr μ.length 0 0),(3,.ptr (μ.length+1) 0 0),(4,.fn 82 [.ptr μ.length 0 0]),(11,.pv (.sl s.length (s.flatMap aO))),(12,.pv (.int .i64 s.length)),(13,.pv (.int .i64 s.length))] (by (repeat' (first|exact trivial|refine And.intro (by first|rfl|(simp[get,Nat.beq];done)|(simp[get,Nat.beq];omega)|(dsimp only[get];congr 1<;>first|rfl|omega|(simp;done)|(simp;omega))) ?_)))
  rw[show o++fL s++jI kd c a ks.length++lD ks=o++((s.map l8).flatten++jI kd c a ks.length++(ks.map fW).flatten) by simp[fL,lD],show j+4*s.length+jJ kd+jV ks=j+(4*s.length+jJ kd+(ks.map fG).sum) by simp[jV];omega]at this;exact this
theorem o7 (aB:List Nat) (d:Nat) (l:List UInt8):(fS l).map (dD aB d)=fS l:=by
 unfold fS;rw[List.map_map];refine List.map_congr_left fun x _=>?_
 cases d<;>rfl
def iw:fw:=cZ (.pv (.val (.pointer none))) (.pv .nilsl) 0
def Gc (s:List bj):Nat→AF
 |0=>zK 2 s 0
 |k+1=>zK 3 s (k+1)
def Bu (t:Tree) (s:List bj):Nat→AM
 |0=>[af t,iw,aW 1 0,af t]
 |k+1=>fP (jW [af t,iw,eo [] 0] 1 0 t) 1 0 2 (fL (s.take (k+1))) (4*(k+1)-1)
set_option maxHeartbeats 4000000 in
theorem Be (t:Tree) (hf:gp t=true) (hw:wt t≤1000000):aJ ctx 50 [.ptr 1 0 0,.pv (aI t)] [af t,iw] (.pv (.tup [])) (fP [af t,iw,eo [] 0] 1 0 2 (fW t) (fG t-1)):=by
 obtain⟨kd,s,c,a,ks⟩:=t;have h:tq [af (.node kd s c a ks),iw,eo [] 0] 1 0 2 (.node kd s c a ks):=⟨rfl,by simp,by simp,by simp,hf,hw⟩
 have hft:=hf;rw[dU]at hft;simp only[Bool.and_eq_true]at hft;rw[dI]at hw;have hsl:=qv s hft.1.1;have ih:∀x∈ks,rf x:=fun x _=>CT x
 refine bq (C:=ctx) (Fn.of G7 rfl) rfl (by simp[cE]) rfl (by rw[cE];exact k8 (by rfl) (by simp) (by simp)) ?_;rw[jo,o5];unfold H0;refine aV ?_;dsimp only[aI,af,iw,cZ,Tree.kind,Tree.steps,Tree.cell,Tree.pos,Tree.kids,az,ai,go_sem];try dsimp only[aI,af,iw,cZ,Tree.kind,Tree.steps,Tree.cell,Tree.pos,Tree.kids,az,ai,go_sem]
 refine⟨(by simp[vb]<;>omega),(by simp[vb]<;>omega),?_⟩;refine aV ?_;dsimp only[aI,af,Tree.kind,Tree.steps,Tree.cell,Tree.pos,Tree.kids,az,ai,go_sem];try dsimp only[aI,af,Tree.kind,Tree.steps,Tree.cell,Tree.pos,Tree.kids,az,ai,go_sem]
 refine⟨(by simp[vb]<;>omega),(by simp[vb]<;>omega),?_⟩;refine aV ?_;dsimp only[aI,af,Tree.kind,Tree.steps,Tree.cell,Tree.pos,Tree.kids,az,ai,go_sem];try dsimp only[aI,af,Tree.kind,Tree.steps,Tree.cell,Tree.pos,Tree.kids,az,ai,go_sem]
 refine⟨(by simp[vb]<;>omega),(by simp[vb]<;>omega),?_⟩;refine cg ?_;refine dY (fun k=>k≤s.length) (Gc s) (Bu (.node kd s c a ks) s) (fun k=>s.length-k) 0 (Nat.zero_le _) (by unfold Gc zK;(repeat' (first|exact trivial|refine And.intro (by first|rfl|(simp[get,Nat.beq];done)|(simp[get,Nat.beq];omega)|(dsimp only[get];congr 1<;>first|rfl|omega|(simp;done)|(simp;omega))) ?_))) ⟨[],rfl⟩ (fun k hk=>?_) fun k hk=>?_
 ·cases k with
  |zero=>exact⟨by simp[Bu],rfl,rfl⟩
  |succ k=>exact⟨by simp[Bu,cE,jW],by simp only[Bu,cE,jW];rfl,by simp only[Bu];rw[cE];exact k8 (p9 h) (by simp[jW]) (by simp[jW])⟩
 have hsk:=hsl k hk;by_cases hlt:k<s.length
 ·cases k with
  |succ k =>
   have hs:=sL h (m:=2) (R:=cF 0 (cf (fun f μ'=>Aw ctx (fun _=>false) 67 2 Em (eK [] (.pv (.tup [])) (fP [af (.node kd s c a ks),iw,eo [] 0] 1 0 2 ((s.map l8).flatten++jI kd c a ks.length++(ks.map fW).flatten) (4*s.length+jJ kd+(ks.map fG).sum-1))) f μ') (eK [] (.pv (.tup [])) (fP [af (.node kd s c a ks),iw,eo [] 0] 1 0 2 ((s.map l8).flatten++jI kd c a ks.length++(ks.map fW).flatten) (4*s.length+jJ kd+(ks.map fG).sum-1))))) (o:=fL (s.take (k+1))) (j:=4*(k+1)-1) hlt (by omega);refine fD hs fun e' f' μ' hh=>?_
   cases e' with
   |normal =>
    obtain⟨h1,junk,h2⟩:=hh;refine⟨k+1+1,by omega,by omega,h1,junk,?_⟩;rw[h2,Bu,bz s (k+1) zs hlt,nd,show 4*(k+1)-1+4=4*(k+1+1)-1 by omega]
   |_=>exact hh
  |zero =>
   have hxo:bY (s.getD 0 zs)=true:=List.all_eq_true.mp hft.1.1 _ (aT hlt);have e:=dC ek s 0 zs hlt;rw[Nat.zero_mul,List.drop_zero]at e;have hle:=kr s;have e1:=bz s 0 zs hlt;generalize s.getD 0 zs=x at *;obtain⟨b1,b2⟩:=l9 hxo;have hkind:x.kind=0∨x.kind=1:=by
    simp[bY,aK]at hxo;omega
   obtain⟨xk,xi,xc⟩:=x;simp only at b1 b2 hkind;have hb2:∀n∈[xi,xc],-10000000000≤n∧n≤10000000000:=by
    intro n hn;simp only[List.mem_cons,List.not_mem_nil,or_false]at hn;rcases hn with rfl|rfl<;>omega
   have hl1:=fun w hw0 hw1=>Fw (μ:=[af (.node kd s c a ks),iw,aW 1 0,af (.node kd s c a ks),vv ⟨xk,xi,xc⟩]) rfl (b:=1) (g:=0) (c:=2) rfl (by simp) rfl w [xi,xc] (by simp) hb2 hw0 hw1
   have hr:=ug ⟨xk,xi,xc⟩;have e3:fL (s.take 1)=l8 ⟨xk,xi,xc⟩:=by rw[e1];simp[fL]
   have a1:Gc s 0=[(2,.ptr 2 0 0),(3,.ptr 3 0 0),(4,.fn 82 [.ptr 2 0 0]),(11,.pv (.sl s.length (s.flatMap aO))),(12,.pv (.int .i64 s.length)),(13,.pv (.int .i64 0))]:=rfl;have a2:Bu (.node kd s c a ks) s 0=[af (.node kd s c a ks),iw,aW 1 0,af (.node kd s c a ks)]:=rfl;rw[a1,a2];rcases hkind with rfl|rfl
   ·have h6:=hl1 [114,111,119] (by simp) (by simp);replace hr:l8 ⟨0,xi,xc⟩=cR [114,111,119] [xi,xc]:=hr;refine aV ?_;dsimp only[go_sem];try dsimp only[go_sem]
    refine⟨(by simp[vb]<;>omega),(by simp[vb]<;>omega),?_⟩;refine aV ?_;dsimp only[go_sem];refine⟨fun _=>?_,fun h=>by simp at h;subst h;simp at hlt⟩;iterate 5 first
     |refine⟨by simp[vb,e,hle,hlt,aO]<;>omega,by simp[vb,e,hle,hlt,aO]<;>omega,?_⟩
     |(refine bJ [(16,{val:=some (.pv (.agg (aO ⟨0,xi,xc⟩)))})] ?_;iterate 2 (try dsimp only[aW,aO,af,iw,cZ,Tree.kind,Tree.steps,Tree.cell,Tree.pos,Tree.kids,go_sem]))
    refine bJ [(26,{val:=some (.pv (.tup [])),mem:=some [af (.node kd s c a ks),cZ (.ptr 1 0 0) (.ref 5 3 0 (cR [114,111,119] [xi,xc]).length) 0,aW 1 0,af (.node kd s c a ks),vv ⟨0,xi,xc⟩,eo (cR [114,111,119] [xi,xc]) 3]})] ?_;dsimp only[aW,aO,go_sem];refine⟨fun _=>?_,fun h=>by simp at h<;>omega⟩;refine bJ [(26,{val:=some (.pv (.tup [])),mem:=some [af (.node kd s c a ks),cZ (.ptr 1 0 0) (.ref 5 3 0 (cR [114,111,119] [xi,xc]).length) 0,aW 1 0,af (.node kd s c a ks),vv ⟨0,xi,xc⟩,eo (cR [114,111,119] [xi,xc]) 3]})] ?_
    dsimp only[aW,aO,go_sem];try dsimp only[aW,aO,go_sem]
    refine⟨(by simp[vb]<;>omega),?_,?_⟩
    ·exact⟨h6,trivial⟩
    refine jt [0,1,5,2,3] rfl ?_;dsimp only[gg,fx,gq,dD,idxOf,af,cZ,eo,aW,vv,go_sem];simp only[o7];refine aV ?_;dsimp only[aW,aO,go_sem];try dsimp only[aW,aO,go_sem]
    refine⟨(by simp[vb]<;>omega),(by simp[vb]<;>omega),?_⟩;exact⟨1,by omega,by omega,by unfold Gc zK;(repeat' (first|exact trivial|refine And.intro (by first|rfl|(simp[get,Nat.beq];done)|(simp[get,Nat.beq];omega)|(dsimp only[get];congr 1<;>first|rfl|omega|(simp;done)|(simp;omega))) ?_)),[],by rw[Bu,Nat.zero_add,e3,hr];rfl⟩
   ·have h6:=hl1 [103,114,97,112,104] (by simp) (by simp);replace hr:l8 ⟨1,xi,xc⟩=cR [103,114,97,112,104] [xi,xc]:=hr;refine aV ?_;dsimp only[go_sem];try dsimp only[go_sem]
    refine⟨(by simp[vb]<;>omega),(by simp[vb]<;>omega),?_⟩;refine aV ?_;dsimp only[go_sem];refine⟨fun _=>?_,fun h=>by simp at h;subst h;simp at hlt⟩;iterate 5 first
     |refine⟨by simp[vb,e,hle,hlt,aO]<;>omega,by simp[vb,e,hle,hlt,aO]<;>omega,?_⟩
     |(refine bJ [(16,{val:=some (.pv (.agg (aO ⟨1,xi,xc⟩)))})] ?_;iterate 2 (try dsimp only[aW,aO,af,iw,cZ,Tree.kind,Tree.steps,Tree.cell,Tree.pos,Tree.kids,go_sem]))
    refine bJ [(33,{val:=some (.pv (.tup [])),mem:=some [af (.node kd s c a ks),cZ (.ptr 1 0 0) (.ref 5 3 0 (cR [103,114,97,112,104] [xi,xc]).length) 0,aW 1 0,af (.node kd s c a ks),vv ⟨1,xi,xc⟩,eo (cR [103,114,97,112,104] [xi,xc]) 3]})] ?_;dsimp only[aW,aO,go_sem];refine⟨fun h=>by simp at h<;>omega,fun _=>?_⟩;refine bJ [(33,{val:=some (.pv (.tup [])),mem:=some [af (.node kd s c a ks),cZ (.ptr 1 0 0) (.ref 5 3 0 (cR [103,114,97,112,104] [xi,xc]).length) 0,aW 1 0,af (.node kd s c a ks),vv ⟨1,xi,xc⟩,eo (cR [103,114,97,112,104] [xi,xc]) 3]})] ?_
    dsimp only[aW,aO,go_sem];try dsimp only[aW,aO,go_sem]
    refine⟨(by simp[vb]<;>omega),?_,?_⟩
    ·exact⟨h6,trivial⟩
    refine jt [0,1,5,2,3] rfl ?_;dsimp only[gg,fx,gq,dD,idxOf,af,cZ,eo,aW,vv,go_sem];simp only[o7];refine aV ?_;dsimp only[aW,aO,go_sem];try dsimp only[aW,aO,go_sem]
    refine⟨(by simp[vb]<;>omega),(by simp[vb]<;>omega),?_⟩;exact⟨1,by omega,by omega,by unfold Gc zK;(repeat' (first|exact trivial|refine And.intro (by first|rfl|(simp[get,Nat.beq];done)|(simp[get,Nat.beq];omega)|(dsimp only[get];congr 1<;>first|rfl|omega|(simp;done)|(simp;omega))) ?_)),[],by rw[Bu,Nat.zero_add,e3,hr];rfl⟩
 ·obtain rfl:k=s.length:=by omega
  have hst:fL s=(s.map l8).flatten:=rfl;have hkt:lD ks=(ks.map fW).flatten:=rfl;have hkw:jV ks=(ks.map fG).sum:=rfl;rw[List.take_length]at hsk;have htw:2≤jJ kd:=by unfold jJ;split<;>(try split)<;>omega
  rw[←hst,←hkt,←hkw];cases s with
  |cons x s' =>
   have htl:=fun f hf=>sP h (m:=2) (by simp) ih (o:=fL (x::s')) (j:=4*(x::s').length-1) (by omega) (f:=f) hf
   have e4:4*(x::s').length-1+jJ kd+jV ks=4*(x::s').length+jJ kd+jV ks-1:=by simp only[List.length_cons];omega
   rw[e4]at htl;have e5:Bu (.node kd (x::s') c a ks) (x::s') (x::s').length=fP (jW [af (.node kd (x::s') c a ks),iw,eo [] 0] 1 0 (.node kd (x::s') c a ks)) 1 0 2 (fL (x::s')) (4*(x::s').length-1):=by
    simp only[List.length_cons,Bu];rw[show(x::s').take (s'.length+1)=x::s' from List.take_length (l:=x::s')]
   rw[e5];have e6:Gc (x::s') (x::s').length=zK 3 (x::s') (x::s').length:=rfl;rw[e6];unfold zK;generalize hM:fP (jW [af (.node kd (x::s') c a ks),iw,eo [] 0] 1 0 (.node kd (x::s') c a ks)) 1 0 2 (fL (x::s')) (4*(x::s').length-1)=MM at *;iterate 5 first
    |refine⟨fun h=>by simp at h<;>omega,fun _=>?_⟩
    |refine⟨by simp[vb]<;>omega,by simp[vb]<;>omega,?_⟩
    |(refine aV ?_;iterate 2 (try dsimp only[go_sem]))
   exact htl _ (by (repeat' (first|exact trivial|refine And.intro (by first|rfl|(simp[get,Nat.beq];done)|(simp[get,Nat.beq];omega)|(dsimp only[get];congr 1<;>first|rfl|omega|(simp;done)|(simp;omega))) ?_)))
  |nil =>
   have a1:Gc [] 0=[(2,.ptr 2 0 0),(3,.ptr 3 0 0),(4,.fn 82 [.ptr 2 0 0]),(11,.pv (.sl 0 [])),(12,.pv (.int .i64 0)),(13,.pv (.int .i64 0))]:=rfl;have a2:Bu (.node kd [] c a ks) [] 0=[af (.node kd [] c a ks),iw,aW 1 0,af (.node kd [] c a ks)]:=rfl;rw[List.length_nil,a1,a2];have hb:=nc hft.1.2;obtain⟨b1,b2⟩:=hb;have hwl:=kR ks;have htl:=p7 hft.1.2 (by omega);have hkk:=fun f hf=>sN h (m:=2) (by simp) ih (o:=jI kd c a ks.length) (j:=jJ kd-1) (by omega) (f:=f) hf
   have hln:=fun w ns hn hns hw0 hw=>Fw (μ:=[af (.node kd [] c a ks),iw,aW 1 0,af (.node kd [] c a ks)]) rfl (b:=1) (g:=0) (c:=2) rfl (by simp) rfl w ns hn hns hw0 hw
   have e4:jJ kd-1+jV ks=4*0+jJ kd+jV ks-1:=by omega
   rw[e4]at hkk;rw[show fL []=[] from rfl,List.nil_append];rw[sK]at hkk ⊢;rcases sO hft.1.2 with⟨rfl,h0⟩|rfl|⟨rfl,h2⟩
   ·have h1:=(hln [99,108,111,115,101,100] [] (by simp) (by simp) (by simp) (by simp)).Ah (al':=[.pv (.str [99,108,111,115,101,100]),.pv .nilsl,.ptr 2 0 0]) ⟨rfl,fun i x y hx hy=>by
     match i,hx,hy with
     |0,hx,hy=>injection hx with hx;injection hy with hy;subst hx hy;exact .refl _
     |1,hx,hy=>injection hx with hx;injection hy with hy;subst hx hy;exact CW.nil
     |2,hx,hy=>injection hx with hx;injection hy with hy;subst hx hy;exact .refl _
     |_+3,hx,_=>simp at hx⟩
    iterate 9 first
     |refine⟨fun h=>by simp at h<;>omega,fun _=>?_⟩
     |refine⟨by simp[vb]<;>omega,by simp[vb]<;>omega,?_⟩
     |(refine aV ?_;iterate 2 (try dsimp only[af,iw,cZ,aW,Tree.kind,Tree.steps,Tree.cell,Tree.pos,Tree.kids,go_sem]))
    refine bJ [(46,{val:=some (.pv (.tup [])),mem:=some [af (.node 0 [] c a ks),cZ (.ptr 1 0 0) (.ref 4 1 0 (cR [99,108,111,115,101,100] []).length) 0,aW 1 0,af (.node 0 [] c a ks),eo (cR [99,108,111,115,101,100] []) 1]})] ?_;dsimp only[af,iw,cZ,aW,Tree.kind,Tree.steps,Tree.cell,Tree.pos,Tree.kids,go_sem];refine⟨fun _=>?_,fun h=>by simp at h<;>omega⟩
    refine bJ [(46,{val:=some (.pv (.tup [])),mem:=some [af (.node 0 [] c a ks),cZ (.ptr 1 0 0) (.ref 4 1 0 (cR [99,108,111,115,101,100] []).length) 0,aW 1 0,af (.node 0 [] c a ks),eo (cR [99,108,111,115,101,100] []) 1]})] ?_;dsimp only[af,iw,cZ,aW,Tree.kind,Tree.steps,Tree.cell,Tree.pos,Tree.kids,go_sem];try dsimp only[af,iw,cZ,aW,Tree.kind,Tree.steps,Tree.cell,Tree.pos,Tree.kids,go_sem]
    refine⟨(by simp[vb]<;>omega),?_,?_⟩
    ·exact⟨h1,trivial⟩
    refine jt [0,1,4,2,3] rfl ?_;dsimp only[gg,fx,gq,dD,idxOf,af,cZ,eo,aW,vv,go_sem];simp only[o7];exact hkk _ (by (repeat' (first|exact trivial|refine And.intro (by first|rfl|(simp[get,Nat.beq];done)|(simp[get,Nat.beq];omega)|(dsimp only[get];congr 1<;>first|rfl|omega|(simp;done)|(simp;omega))) ?_)))
   ·have h1:=hln [115,112,108,105,116] [c,a] (by simp) (by intro n hn;simp only[List.mem_cons,List.not_mem_nil,or_false]at hn;rcases hn with rfl|rfl<;>omega) (by simp) (by simp);iterate 9 first
     |refine⟨fun h=>by simp at h<;>omega,fun _=>?_⟩
     |refine⟨by simp[vb]<;>omega,by simp[vb]<;>omega,?_⟩
     |(refine aV ?_;iterate 2 (try dsimp only[af,iw,cZ,aW,Tree.kind,Tree.steps,Tree.cell,Tree.pos,Tree.kids,go_sem]))
    refine aV ?_;dsimp only[af,Tree.kind,Tree.steps,Tree.cell,Tree.pos,Tree.kids,go_sem];refine⟨fun h=>by simp at h<;>omega,fun _=>?_⟩;refine aV ?_;dsimp only[af,Tree.kind,Tree.steps,Tree.cell,Tree.pos,Tree.kids,go_sem];try dsimp only[af,Tree.kind,Tree.steps,Tree.cell,Tree.pos,Tree.kids,go_sem]
    refine⟨(by simp[vb]<;>omega),(by simp[vb]<;>omega),?_⟩;refine bJ [(55,{val:=some (.pv (.tup [])),mem:=some [af (.node 1 [] c a ks),cZ (.ptr 1 0 0) (.ref 4 3 0 (cR [115,112,108,105,116] [c,a]).length) 0,aW 1 0,af (.node 1 [] c a ks),eo (cR [115,112,108,105,116] [c,a]) 3]})] ?_;dsimp only[af,iw,cZ,aW,Tree.kind,Tree.steps,Tree.cell,Tree.pos,Tree.kids,go_sem];refine⟨fun _=>?_,fun h=>by simp at h<;>omega⟩
    refine bJ [(55,{val:=some (.pv (.tup [])),mem:=some [af (.node 1 [] c a ks),cZ (.ptr 1 0 0) (.ref 4 3 0 (cR [115,112,108,105,116] [c,a]).length) 0,aW 1 0,af (.node 1 [] c a ks),eo (cR [115,112,108,105,116] [c,a]) 3]})] ?_;dsimp only[af,iw,cZ,aW,Tree.kind,Tree.steps,Tree.cell,Tree.pos,Tree.kids,go_sem];try dsimp only[af,iw,cZ,aW,Tree.kind,Tree.steps,Tree.cell,Tree.pos,Tree.kids,go_sem]
    refine⟨(by simp[vb]<;>omega),?_,?_⟩
    ·exact⟨h1,trivial⟩
    refine jt [0,1,4,2,3] rfl ?_;dsimp only[gg,fx,gq,dD,idxOf,af,cZ,eo,aW,vv,go_sem];simp only[o7];exact hkk _ (by (repeat' (first|exact trivial|refine And.intro (by first|rfl|(simp[get,Nat.beq];done)|(simp[get,Nat.beq];omega)|(dsimp only[get];congr 1<;>first|rfl|omega|(simp;done)|(simp;omega))) ?_)))
   ·have h1:=hln [99,97,115,101,115] [(ks.length:Int)] (by simp) (by intro n hn;simp only[List.mem_cons,List.not_mem_nil,or_false]at hn;subst hn;omega) (by simp) (by simp);iterate 9 first
     |refine⟨fun h=>by simp at h<;>omega,fun _=>?_⟩
     |refine⟨by simp[vb]<;>omega,by simp[vb]<;>omega,?_⟩
     |(refine aV ?_;iterate 2 (try dsimp only[af,iw,cZ,aW,Tree.kind,Tree.steps,Tree.cell,Tree.pos,Tree.kids,az,go_sem]))
    refine aV ?_;dsimp only[af,Tree.kind,Tree.steps,Tree.cell,Tree.pos,Tree.kids,az,go_sem];refine⟨fun h=>by simp at h<;>omega,fun _=>?_⟩;refine aV ?_;dsimp only[af,Tree.kind,Tree.steps,Tree.cell,Tree.pos,Tree.kids,az,go_sem];try dsimp only[af,Tree.kind,Tree.steps,Tree.cell,Tree.pos,Tree.kids,az,go_sem]
    refine⟨(by simp[vb]<;>omega),(by simp[vb]<;>omega),?_⟩;refine bJ [(42,{val:=some (.pv (.tup [])),mem:=some [af (.node 2 [] c a ks),cZ (.ptr 1 0 0) (.ref 4 2 0 (cR [99,97,115,101,115] [(ks.length:Int)]).length) 0,aW 1 0,af (.node 2 [] c a ks),eo (cR [99,97,115,101,115] [(ks.length:Int)]) 2]})] ?_;dsimp only[af,iw,cZ,aW,Tree.kind,Tree.steps,Tree.cell,Tree.pos,Tree.kids,az,go_sem];refine⟨fun h=>by simp at h<;>omega,fun _=>?_⟩
    refine bJ [(42,{val:=some (.pv (.tup [])),mem:=some [af (.node 2 [] c a ks),cZ (.ptr 1 0 0) (.ref 4 2 0 (cR [99,97,115,101,115] [(ks.length:Int)]).length) 0,aW 1 0,af (.node 2 [] c a ks),eo (cR [99,97,115,101,115] [(ks.length:Int)]) 2]})] ?_;dsimp only[af,iw,cZ,aW,Tree.kind,Tree.steps,Tree.cell,Tree.pos,Tree.kids,az,go_sem];try dsimp only[af,iw,cZ,aW,Tree.kind,Tree.steps,Tree.cell,Tree.pos,Tree.kids,az,go_sem]
    refine⟨(by simp[vb]<;>omega),?_,?_⟩
    ·exact⟨h1,trivial⟩
    refine jt [0,1,4,2,3] rfl ?_;dsimp only[gg,fx,gq,dD,idxOf,af,cZ,eo,aW,vv,go_sem];simp only[o7];exact hkk _ (by (repeat' (first|exact trivial|refine And.intro (by first|rfl|(simp[get,Nat.beq];done)|(simp[get,Nat.beq];omega)|(dsimp only[get];congr 1<;>first|rfl|omega|(simp;done)|(simp;omega))) ?_)))
theorem CU (t:Tree):fW t≠[]:=by
 obtain⟨k,s,c,a,l⟩:=t;rw[jo];have:jI k c a l.length≠[]:=by
  unfold jI;split
  ·simp
  ·split<;>simp
 simp[this]
def H2:ay:=(⟨_,by conv=>(lhs;reduce;try simp only[eA,Int.cast_ofNat_Int,Int.reduceNegSucc,UInt8.reduceOfNat])⟩:{x // codeOf Tryz.prog 26 (fun _=>false)=some x}).1
theorem H3:bK Tryz.prog 26 (fun _=>false)=some (H2,[.t 2,.t 3],13,true):=by kernel_rfl
set_option maxHeartbeats 4000000 in
theorem ui (t:Tree) (hw:wt t≤1000000000):ah ctx 26 [aI t] (.tup [.str (jx t).1,.int .i64 (jx t).2]):=by
 have hv:=sH t hw;unfold jx;refine ar (C:=ctx) (Fn.of H3 rfl) rfl ?_;unfold H2;cases hb:iR t with
 |false =>
  rw[hb]at hv;repeat' (first
   |((with_reducible first|show aH _|show aP _);simp[vb]<;>omega)
   |exact(rfl:some _=_)
   |(
    fail_if_success refine a7 ?_
    refine iF [(13,fun _=>some (.bool false))] ?_;repeat1' dsimp only[H2,aI,go_sem]
    first
    |refine a8 ?_ ?_ rfl ?_
    |apply ba
    |apply bc
    |(refine bf (fun hc=>?_) fun hc=>?_<;>first|(cases hc;done)|(exfalso;simp at hc<;>omega)|(try simp only[bn]at hc;try contradiction))
    |skip))
  exact⟨hv,trivial⟩
 |true =>
  obtain⟨hf,hw2⟩:=vl hb;have hwr:=Be t hf (by omega);have hne:=CU t;rw[hb]at hv;generalize fW t=T at *;generalize hj:fG t-1=j at *;have hlen:=DY (μ:=fP [af t,iw,eo [] 0] 1 0 2 T j) (by rw[cE];exact k8 (by rfl) (by simp) (by simp)) (b:=1) (g:=0) (r:=2) (j:=j) (n:=T.length) (x:=.ptr 1 0 0) rfl;have hstr:=yw (μ:=fP [af t,iw,eo [] 0] 1 0 2 T j) (b:=1) (g:=0) (r:=2) (j:=j) (x:=.ptr 1 0 0) hne rfl rfl;refine iF [(13,fun _=>some (.bool true))] ?_;dsimp only[aI,go_sem];try dsimp only[aI,go_sem]
  refine⟨(by simp[vb]<;>omega),(by simp[vb]<;>omega),?_⟩;refine iF [(13,fun _=>some (.bool true))] ?_;dsimp only[aI,go_sem];try dsimp only[aI,go_sem]
  refine⟨(by simp[vb]<;>omega),?_,?_⟩
  ·exact⟨hv,trivial⟩
  iterate 5 first
   |refine⟨fun h=>by simp at h<;>omega,fun _=>?_⟩
   |refine⟨by simp[vb]<;>omega,by simp[vb]<;>omega,?_⟩
   |(refine bJ [(9,{val:=some (.pv (.tup [])),mem:=some [af t,cZ (.ptr 1 0 0) (.ref 2 j 0 T.length) 0,eo T j]})] ?_;iterate 2 (try dsimp only[af,go_sem]))
  refine bJ [(9,{val:=some (.pv (.tup [])),mem:=some [af t,cZ (.ptr 1 0 0) (.ref 2 j 0 T.length) 0,eo T j]})] ?_;dsimp only[af,go_sem];try dsimp only[af,go_sem]
  refine⟨(by simp[vb]<;>omega),?_,?_⟩
  ·exact⟨hwr,trivial⟩
  refine bJ [(10,{val:=some (.pv (.int .i64 T.length)),ro:=true})] ?_;dsimp only[af,go_sem];try dsimp only[af,go_sem]
  refine⟨(by simp[vb]<;>omega),?_,?_⟩
  ·exact⟨hlen,trivial⟩
  refine aV ?_;dsimp only[go_sem];refine⟨fun hc=>?_,fun hc=>?_⟩
  ·rw[if_pos rfl,if_pos (by simp at hc;omega)];refine aV ?_;dsimp only[go_sem];try dsimp only[go_sem]
   refine⟨(by simp[vb]<;>omega),(by simp[vb]<;>omega),?_⟩;refine aV ?_;dsimp only[go_sem];exact⟨trivial,rfl⟩
  ·rw[if_pos rfl,if_neg (by simp at hc;omega)];refine bJ [(12,{val:=some (.pv (.str T)),mem:=some ([af t,cZ (.ptr 1 0 0) (.ref 2 j 0 T.length) 0,eo T j].set 2 {eo T j with frozen:=true})})] ?_;dsimp only[go_sem];refine bJ [(12,{val:=some (.pv (.str T)),mem:=some ([af t,cZ (.ptr 1 0 0) (.ref 2 j 0 T.length) 0,eo T j].set 2 {eo T j with frozen:=true})})] ?_;dsimp only[go_sem];try dsimp only[go_sem]
   refine⟨(by simp[vb]<;>omega),?_,?_⟩
   ·exact⟨hstr,trivial⟩
   refine aV ?_;dsimp only[go_sem];exact⟨trivial,rfl⟩
end
end Pur
end
section
namespace Rf
open Pur (aK)
theorem jK:∀(n:Int) (l:List Tm) (last:Int),-1≤last→eU n last l=true→(l.length:Int)+last+1≤max n (last+1)∧∀t∈l,0≤t.cell∧last<t.cell∧t.cell<n∧t.fac≠0∧ -1000≤t.fac∧t.fac≤1000
 |n,[],last,h,_=>⟨by simp;omega,fun t ht=>by cases ht⟩
 |n,x::l,last,h,e=>by
  simp only[eU,aK,Bool.and_eq_true,decide_eq_true_eq]at e;obtain⟨⟨⟨⟨e1,e2⟩,e3⟩,e4,e5⟩,e6⟩:=e;obtain⟨g1,g2⟩:=jK n l x.cell (by omega) e6;refine⟨by simp;omega,fun t ht=>?_⟩;rcases List.mem_cons.mp ht with rfl|ht
  ·exact⟨by omega,e1,e2,e3,e4,e5⟩
  ·obtain⟨q1,q2,q3⟩:=g2 t ht;exact⟨q1,by omega,q3⟩
theorem vm {f v:Int} (h1: -1000≤f) (h2:f≤1000) (h3: -1000000≤v) (h4:v≤1000000): -1000000000≤f*v∧f*v≤1000000000:=by
 have a1:(f.natAbs:Int)≤1000:=by omega
 have a2:(v.natAbs:Int)≤1000000:=by omega
 have a3:f.natAbs*v.natAbs≤1000*1000000:=Nat.mul_le_mul (by omega) (by omega);have a4:(f*v).natAbs=f.natAbs*v.natAbs:=Int.natAbs_mul f v;omega
theorem o8 {r:Rg} (h:mn r=true): -1000000≤r.lo∧r.lo≤1000000∧ -1000000≤r.hi∧r.hi≤1000000:=by
 simp only[mn,aK,Bool.and_eq_true,decide_eq_true_eq]at h;omega
theorem kC {b:List Rg} (h:eh b=true) (k:Nat):mn (b.getD k zr)=true:=by
 simp only[eh,Bool.and_eq_true]at h;by_cases hk:k<b.length
 ·exact List.all_eq_true.mp h.1 _ (Pur.aT hk)
 ·rw[List.getD,List.getElem?_eq_none (by omega)];rfl
theorem zM {b:List Rg} {t:Tm} (hb:eh b=true) (h1: -1000≤t.fac) (h2:t.fac≤1000): -1000000000≤yx b t∧yx b t≤1000000000:=by
 have:=o8 (kC hb t.cell.toNat);unfold yx;split
 ·exact vm h1 h2 (by omega) (by omega)
 ·exact vm h1 h2 (by omega) (by omega)
theorem sS {b:List Rg} (hb:eh b=true) (c:Int):∀(l:List Tm),(∀t∈l,-1000≤t.fac∧t.fac≤1000)→ -(1000000000*(l.length:Int))≤gw b c l∧gw b c l≤1000000000*(l.length:Int)
 |[],_=>by simp[gw]
 |t::r,h=>by
  obtain⟨g1,g2⟩:=sS hb c r fun x hx=>h x (by simp[hx])
  obtain⟨q1,q2⟩:=h t (by simp);have:=zM (t:=t) hb q1 q2;simp only[gw,List.length_cons,Int.natCast_add,Int.natCast_one];split<;>omega
theorem o9 (b:List Rg) (c:Int):∀(l m:List Tm),gw b c (l++m)=gw b c l+gw b c m
 |[],m=>by simp[gw]
 |t::r,m=>by rw[List.cons_append,gw,gw,o9 b c r m];omega
theorem uj (c:Int):∀(l:List Tm),(jP (fun t=>decide (t.cell=c)) l<0∧∀t∈l,t.cell≠c)∨(∃k:Nat,jP (fun t=>decide (t.cell=c)) l=k∧k<l.length∧mg c l=(l.getD k zm).fac)
 |[]=>.inl ⟨by simp[jP],fun t ht=>by cases ht⟩
 |t::r=>by
  by_cases h:t.cell=c
  ·exact .inr ⟨0,by simp[jP,List.findIdx?_cons,h],by simp,by simp[mg,h]⟩
  ·have e:jP (fun t=>decide (t.cell=c)) (t::r)=match r.findIdx? (fun t=>decide (t.cell=c)) with|some i=>(i:Int)+1|none=> -1:=by
    rw[jP,List.findIdx?_cons];simp only[h,decide_false,Bool.false_eq_true,if_false];cases r.findIdx? (fun t=>decide (t.cell=c))<;>simp
   rcases uj c r with⟨h1,h2⟩|⟨k,h1,h2,h3⟩
   ·refine .inl ⟨?_,fun x hx=>?_⟩
    ·rw[e];unfold jP at h1;split at h1
     ·omega
     ·rename_i hn;rw[hn];simp
    ·rcases List.mem_cons.mp hx with rfl|hx
     ·exact h
     ·exact h2 x hx
   ·refine .inr ⟨k+1,?_,by simp;omega,?_⟩
    ·rw[e];unfold jP at h1;split at h1
     ·rename_i i hi;rw[hi];simp only;omega
     ·omega
    ·rw[mg,if_neg h,h3];simp
theorem om (c:Int):∀(l:List Tm),(∀t∈l,t.cell≠c)→mg c l=0
 |[],_=>rfl
 |t::r,h=>by rw[mg,if_neg (h t (by simp)),om c r fun x hx=>h x (by simp[hx])]
theorem w9 {b:List Rg} {r:Rw} (h:fQ b [r]=true):eh b=true∧b.length≤128∧r.terms.length≤128∧ -1000000000≤r.bound∧r.bound≤1000000000∧∀t∈r.terms,0≤t.cell∧t.cell<b.length∧t.fac≠0∧ -1000≤t.fac∧t.fac≤1000:=by
 simp only[fQ,List.all_cons,List.all_nil,Bool.and_true,Bool.and_eq_true,gD,aK,decide_eq_true_eq]at h;obtain⟨h1,h2,h3,h4⟩:=h;obtain⟨g1,g2⟩:=jK _ _ _ (by omega) h2;have hb:=h1;simp only[eh,Bool.and_eq_true,decide_eq_true_eq]at hb;refine⟨h1,hb.2,by omega,h3,h4,fun t ht=>?_⟩;obtain⟨q1,q2,q3⟩:=g2 t ht;exact⟨q1,q3⟩
theorem Eu (a f:Int) (hf:0<f):a / f=if Int.tmod a f<0 then Int.tdiv a f-1 else Int.tdiv a f:=by
 rw[Int.tdiv_eq_ediv,Int.tmod_eq_emod];have h1:=Int.emod_nonneg a (show f≠0 by omega);have h2:=Int.emod_lt_of_pos a hf;have h3:f.sign=1:=Int.sign_eq_one_of_pos hf;have h4:(f.natAbs:Int)=f:=by omega
 by_cases h:0≤a∨f ∣ a
 ·simp[h];omega
 ·simp[h,h3,h4];omega
end Rf
namespace Pur
open Go.RowKit
attribute [local go_sem] bI fa bR bu cS gf List.map aX aG get put tmpsOf dF iW gF iG conds ev cond_true cond_false Nat.beq Nat.ble Nat.add quiet dG cf cF pn List.append_eq List.nil_append List.cons_append dE cy cz cA cB cC cD fg eY dv jb dH calm quiet.isCallK cH List.getElem?_cons_zero List.getElem?_cons_succ bp b6 cellsOf List.all bC List.length_cons List.length_nil eP a6 List.drop List.take List.getD Option.getD_some qR qS qF qT qU qV eB gC eC eD setAt List.set Nat.reduceAdd Nat.reduceMul b9 bw refsOf bG bM scalar cd ef bL ca aN after freeze im gT aS dx dQ dt eH c6 c7 cj da db de dh di dj dk dm dn dp dq ck cp cu dw jc bytesOf bH cU aQ bD dS bA bT cI still bW ed dy dW bP eI List.isEmpty cv cw cx Int.reduceToNat Nat.mul_one Nat.reduceSub oM cV b7 dK cG look dL strip guarded fV eK eO cK dV cY hJ dc dd Bool.or_false Bool.or_true Bool.and_true Bool.and_false Nat.blt gg fx gq dD idxOf gU gV iX eV aN mI
open Rf
theorem vn (a b:Int):(if a<b then b else a)=max a b:=by split<;>omega
theorem pb (a b:Int):(if b<a then b else a)=min a b:=by split<;>omega
theorem zN (x y:Rg):ah ctx 79 [.agg [.int .i64 x.lo,.int .i64 x.hi],.agg [.int .i64 y.lo,.int .i64 y.hi]] (.agg [.int .i64 (max x.lo y.lo),.int .i64 (min x.hi y.hi)]):=by
 refine ar (C:=ctx) (Fn.of GW rfl) rfl ?_;unfold Ht;repeat' (first
  |((with_reducible first|show aH _|show aP _);simp[vb]<;>omega)
  |exact(rfl:some _=_)
  |(
   fail_if_success refine a7 ?_
   refine aV ?_;repeat1' dsimp only[Ht,go_sem]
   first
   |refine a8 ?_ ?_ rfl ?_
   |apply ba
   |apply bc
   |(refine bf (fun hc=>?_) fun hc=>?_<;>first|(cases hc;done)|(exfalso;simp at hc<;>omega)|(try simp only[bn]at hc;try contradiction))
   |skip))
 rw[vn,pb]
theorem xd (a f:Int) (hf:0<f) (h1: -1000000000000≤a) (h2:a≤1000000000000) (h3:f≤1000000000000):ah ctx 150 [.int .i64 a,.int .i64 f] (.int .i64 (a / f)):=by
 have hd:(a.tmod f<0∧a / f=a.tdiv f-1)∨(0≤a.tmod f∧a / f=a.tdiv f):=by
  rw[Eu a f hf];split<;>omega
 have g2:=Int.tmod_lt_of_pos a hf;have g3:=Int.lt_tmod_of_pos a hf;have g4:(a.tdiv f).natAbs≤a.natAbs:=Int.natAbs_tdiv_le_natAbs a f;have g5:a<0→a.tmod f≤0:=fun h=>by
  have:=Int.tmod_nonneg f (show 0≤ -a by omega);rw[Int.neg_tmod]at this;omega
 have g6:0≤a→0≤a.tmod f:=fun h=>Int.tmod_nonneg f h
 have hw:IntKind.i64.wrap (a.tdiv f)=a.tdiv f:=jf (by unfold mi;omega) (by unfold ij;omega);generalize a / f=q at *;refine ar (C:=ctx) (Fn.of Ft rfl) rfl ?_;unfold Eg;repeat' (first
  |((with_reducible show aH _);first|exact True.intro|(simp[vb]<;>omega))
  |((with_reducible show aP _);first|exact True.intro|((try dsimp only[go_sem]);(simp[vb]<;>omega)))
  |exact(rfl:some _=_)
  |(
   fail_if_success refine a7 ?_
   refine bJ [(8,{mode:=1}),(11,{mode:=1})] ?_;repeat1' dsimp only[Eg,go_sem]
   first
   |refine a8 ?_ ?_ rfl ?_
   |apply ba
   |apply bc
   |(refine bf (fun hc=>?_) fun hc=>?_<;>first|(cases hc;done)|(try simp only[bn]at hc;try contradiction))
   |skip))
 all_goals
  refine congrArg (fun x=>some (PV.int .i64 x)) ?_;simp only[show decide (f<0)=false from by simp;omega,decide_eq_false_iff_not]at hc;omega
theorem sT (b:List Rg) (c:Int) (h1:0≤c) (h2:c<b.length):((b.flatMap jM).drop (c.toNat*2)).take 2=[.int .i64 (b.getD c.toNat zr).lo,.int .i64 (b.getD c.toNat zr).hi] :=
 dC iS b c.toNat zr (by omega)
set_option maxHeartbeats 4000000 in
theorem CV (b:List Rg) (r:Rw) (c:Int) (hv:fQ b [r]=true):ah ctx 149 [.agg [au r.terms,.int .i64 r.bound],ae b,.int .i64 c,.int .i64 1] (.int .i64 (gw b c r.terms)):=by
 obtain⟨v1,v2,v3,v4,v5,v6⟩:=w9 hv;obtain⟨ts,bd⟩:=r;simp only at v3 v4 v5 v6 ⊢;clear hv;have f1:=jn ts;have f2:=du b;refine ar (C:=ctx) (Fn.of Fs rfl) rfl ?_;unfold wW;repeat' (first
  |((with_reducible first|show aH _|show aP _);simp[vb]<;>omega)
  |exact(rfl:some _=_)
  |(
   fail_if_success refine a7 ?_
   refine aV ?_;repeat1' dsimp only[wW,au,ae,go_sem]
   first
   |refine a8 ?_ ?_ rfl ?_
   |apply ba
   |apply bc
   |(refine bf (fun hc=>?_) fun hc=>?_<;>first|(cases hc;done)|(exfalso;simp at hc<;>omega)|(try simp only[bn]at hc;try contradiction))
   |skip))
 refine bF ts.length (fun _=>True) (fun k=>[(1,.pv (ae b)),(2,.pv (.int .i64 c)),(3,.pv (.int .i64 1)),(9,.pv (.int .i64 (gw b c (ts.take k)))),(14,.pv (au ts)),(15,.pv (.int .i64 ts.length)),(16,.pv (.int .i64 k))]) (fun _=>[]) trivial (by (repeat' (first|exact trivial|refine And.intro (by first|rfl|(simp[get,Nat.beq,gw];done)|(simp[get,Nat.beq,gw];omega)|(dsimp only[get];congr 1<;>first|rfl|omega|(simp;done)|(simp;omega))) ?_))) ⟨_,rfl⟩ (fun _=>⟨Nat.zero_le _,rfl,rfl⟩) fun k hk _=>?_
 by_cases hlt:k<ts.length
 ·have e:=dC kT ts k zm hlt;have h1:=o9 b c (ts.take k) [ts.getD k zm];rw[←bz ts k zm hlt,gw,gw]at h1;have h2:=sS v1 c (ts.take k) fun t ht=>by have:=v6 t (List.mem_of_mem_take ht);omega
  rw[List.length_take]at h2;obtain⟨q1,q2,q3,q4,q5⟩:=v6 _ (aT (d:=zm) hlt);have h3:=zM (t:=ts.getD k zm) v1 q4 q5;unfold yx at h1 h3;rw[h1];clear h1 v6;generalize ts.getD k zm=x at *;have e2:=sT b x.cell q1 q2;generalize b.getD x.cell.toNat zr=y at *;generalize gw b c (ts.take k)=sm at *;by_cases hc:x.cell=c
  ·repeat' (first
    |((with_reducible show aH _);first|exact True.intro|(simp only[vb,lb,e,e2,f1,f2,hlt,q1,q2,kG,hc];and_intros<;>first|omega|(simp<;>omega)))
    |((with_reducible show aP _);first|exact True.intro|((try dsimp only[go_sem]);(simp[vb,e,e2,f1,f2,hlt,q1,q2,kG,hc]<;>omega)))
    |exact(rfl:some _=_)
    |(
     fail_if_success refine a7 ?_
     refine bJ [(19,{val:=some (.pv (.agg [.int .i64 x.cell,.int .i64 x.fac]))}),(24,{val:=some (.pv (.agg [.int .i64 y.lo,.int .i64 y.hi]))}),(36,{val:=some (.pv (.bool true))})] ?_;repeat1' dsimp only[wW,au,ae,go_sem]
     first
     |refine a8 ?_ ?_ rfl ?_
     |apply ba
     |apply bc
     |(refine bf (fun hc=>?_) fun hc=>?_<;>first|(cases hc;done)|(exfalso;(simp at hc<;>omega))|(try simp only[bn]at hc;try contradiction))
     |skip))
   refine⟨hlt,trivial,by simp[hc];(repeat' (first|exact trivial|refine And.intro (by first|rfl|(simp[get,Nat.beq];done)|(simp[get,Nat.beq];omega)|(dsimp only[get];congr 1<;>first|rfl|omega|(simp;done)|(simp;omega))) ?_)),_,rfl⟩
  ·by_cases hf:0<x.fac
   ·simp only[hf,if_true]at h3;repeat' (first
     |((with_reducible show aH _);first|exact True.intro|(simp only[vb,lb,e,e2,f1,f2,hlt,q1,q2,kG,hc,hf];and_intros<;>first|omega|(simp<;>omega)))
     |((with_reducible show aP _);first|exact True.intro|((try dsimp only[go_sem]);(simp[vb,e,e2,f1,f2,hlt,q1,q2,kG,hc,hf]<;>omega)))
     |exact(rfl:some _=_)
     |(
      fail_if_success refine a7 ?_
      refine bJ [(19,{val:=some (.pv (.agg [.int .i64 x.cell,.int .i64 x.fac]))}),(24,{val:=some (.pv (.agg [.int .i64 y.lo,.int .i64 y.hi]))}),(36,{val:=some (.pv (.bool false))}),(42,{val:=some (.pv (.bool true))})] ?_;repeat1' dsimp only[wW,au,ae,go_sem]
      first
      |refine a8 ?_ ?_ rfl ?_
      |apply ba
      |apply bc
      |(refine bf (fun hc=>?_) fun hc=>?_<;>first|(cases hc;done)|(exfalso;(simp at hc<;>omega))|(try simp only[bn]at hc;try contradiction))
      |skip))
    refine⟨hlt,trivial,by simp[hc,hf];(repeat' (first|exact trivial|refine And.intro (by first|rfl|(simp[get,Nat.beq];done)|(simp[get,Nat.beq];omega)|(dsimp only[get];congr 1<;>first|rfl|omega|(simp;done)|(simp;omega))) ?_)),_,rfl⟩
   ·simp only[hf,if_false]at h3;repeat' (first
     |((with_reducible show aH _);first|exact True.intro|(simp only[vb,lb,e,e2,f1,f2,hlt,q1,q2,kG,hc,hf];and_intros<;>first|omega|(simp<;>omega)))
     |((with_reducible show aP _);first|exact True.intro|((try dsimp only[go_sem]);(simp[vb,e,e2,f1,f2,hlt,q1,q2,kG,hc,hf]<;>omega)))
     |exact(rfl:some _=_)
     |(
      fail_if_success refine a7 ?_
      refine bJ [(19,{val:=some (.pv (.agg [.int .i64 x.cell,.int .i64 x.fac]))}),(24,{val:=some (.pv (.agg [.int .i64 y.lo,.int .i64 y.hi]))}),(36,{val:=some (.pv (.bool false))}),(42,{val:=some (.pv (.bool false))})] ?_;repeat1' dsimp only[wW,au,ae,go_sem]
      first
      |refine a8 ?_ ?_ rfl ?_
      |apply ba
      |apply bc
      |(refine bf (fun hc=>?_) fun hc=>?_<;>first|(cases hc;done)|(exfalso;(simp at hc<;>omega))|(try simp only[bn]at hc;try contradiction))
      |skip))
    refine⟨hlt,trivial,by simp[hc,hf];(repeat' (first|exact trivial|refine And.intro (by first|rfl|(simp[get,Nat.beq];done)|(simp[get,Nat.beq];omega)|(dsimp only[get];congr 1<;>first|rfl|omega|(simp;done)|(simp;omega))) ?_)),_,rfl⟩
 ·obtain rfl:k=ts.length:=by omega
  rw[List.take_length];repeat' (first
   |((with_reducible first|show aH _|show aP _);simp[vb,hlt]<;>omega)
   |exact(rfl:some _=_)
   |(
    fail_if_success refine a7 ?_
    refine aV ?_;repeat1' dsimp only[wW,au,ae,go_sem]
    first
    |refine a8 ?_ ?_ rfl ?_
    |apply ba
    |apply bc
    |(refine bf (fun hc=>?_) fun hc=>?_<;>first|(cases hc;done)|(exfalso;simp[hlt]at hc<;>omega)|(try simp only[bn]at hc;try contradiction))
    |skip))
end Pur
end
section
namespace Rf
def iV (s:List UInt8):Tree×Int :=
 if s.length>65536 then (zt,8) else match ky ((mo 10 s).length+1) 1 (mo 10 s) with
  |some (t,_)=>if Pur.jx t=(s,0) then (t,0) else (zt,3)
  |none=>(zt,3)
theorem xe {tf:List Ln→Option (Tree×List Ln)} (h:∀ls t r,tf ls=some (t,r)→wt t+r.length≤ls.length):∀(n:Nat) (ls:List Ln) (ts:List Tree) (r:List Ln),iT tf n ls=some (ts,r)→jG ts+r.length≤ls.length
 |0,ls,ts,r,e=>by injection e with e;injection e with e1 e;subst e e1;simp[jG]
 |n+1,ls,ts,r,e=>by
  rw[iT]at e;split at e
  ·rename_i t r1 h1;split at e
   ·rename_i ts' r2 h2;injection e with e
    injection e with e1 e
    subst e e1;have:=xe h n r1 ts' r2 h2;have:=h _ _ _ h1;rw[jG];omega
   ·cases e
  ·cases e
theorem sU:∀(f:Nat) (lev:Int) (S:List bj) (ls:List Ln) (t:Tree) (r:List Ln),gL f lev S ls=some (t,r)→wt t+r.length≤S.length+ls.length
 |0,_,_,_,_,_,e=>by cases e
 |f+1,lev,S,ls,t,r,e=>by
  have ih:∀(S:List bj) (ls:List Ln) (t:Tree) (r:List Ln),gL f lev S ls=some (t,r)→wt t+r.length≤S.length+ls.length:=fun S ls t r=>sU f lev S ls t r
  have ihk:∀(ls:List Ln) (t:Tree) (r:List Ln),(if lev+1≤4096 then gL f (lev+1) [] ls else none)=some (t,r)→wt t+r.length≤ls.length:=fun ls t r h=>by
   split at h
   ·simpa using sU f (lev+1) [] ls t r h
   ·cases h
  have one:∀(n:Nat) (x:Ln) (l:List Ln) (k c a:Int),(match iT (fun l=>if lev+1≤4096 then gL f (lev+1) [] l else none) n l with|some (ks,r')=>some (Tree.node k S c a ks,r')|none=>none)=some (t,r)→wt t+r.length≤S.length+(x::l).length:=fun n x l k c a h=>by
   split at h
   ·rename_i ks r' hk;injection h with h
    injection h with h1 h
    subst h h1;have:=xe ihk _ _ _ _ hk;rw[dI,List.length_cons];omega
   ·cases h
  cases ls with
  |nil=>cases e
  |cons x l =>
   rw[gL]at e;split at e
   ·cases e
   ·rename_i w ns hl;split at e
    ·have:=ih _ _ _ _ e;simp at this ⊢;omega
    ·split at e
     ·have:=ih _ _ _ _ e;simp at this ⊢;omega
     ·split at e
      ·injection e with e
       injection e with e1 e
       subst e e1;rw[dI];simp[jG];omega
      ·split at e
       ·exact one _ _ _ _ _ _ e
       ·split at e
        ·exact one _ _ _ _ _ _ e
        ·cases e
end Rf
namespace Pur
open Go.RowKit
attribute [local go_sem] bI fa bR bu cS gf List.map aX aG get put tmpsOf dF iW gF iG conds ev cond_true cond_false Nat.beq Nat.ble Nat.add quiet dG cf cF pn List.append_eq List.nil_append List.cons_append dE cy cz cA cB cC cD fg eY dv jb dH calm quiet.isCallK cH List.getElem?_cons_zero List.getElem?_cons_succ bp b6 cellsOf List.all bC List.length_cons List.length_nil eP a6 List.drop List.take List.getD Option.getD_some qR qS qF qT qU qV eB gC eC eD setAt List.set Nat.reduceAdd Nat.reduceMul b9 bw refsOf bG bM scalar cd ef bL ca aN after freeze im gT aS dx dQ dt eH c6 c7 cj da db de dh di dj dk dm dn dp dq ck cp cu dw jc bytesOf bH cU aQ bD dS bA bT cI still bW ed dy dW bP eI List.isEmpty cv cw cx Int.reduceToNat Nat.mul_one Nat.reduceSub oM cV b7 dK cG look dL strip guarded fV eK eO cK dV cY hJ dc dd Bool.or_false Bool.or_true Bool.and_true Bool.and_false Nat.blt gg fx gq dD idxOf gU gV iX eV aN mI
open Rf
noncomputable def Gz (path:List Nat):Code:=vi (yC Tryz.prog 28) path
def Gd:ay:=(⟨_,by conv=>(lhs;reduce;try simp only[eA,Int.cast_ofNat_Int,Int.reduceNegSucc,UInt8.reduceOfNat])⟩:{x // comp Tryz.prog no 35 (Gz [0])=some x}).1
def Ge:ay:=(⟨_,by conv=>(lhs;reduce;try simp only[eA,Int.cast_ofNat_Int,Int.reduceNegSucc,UInt8.reduceOfNat])⟩:{x // comp Tryz.prog no 35 (Gz [1,0])=some x}).1
def Gf:ay:=(⟨_,by conv=>(lhs;reduce;try simp only[eA,Int.cast_ofNat_Int,Int.reduceNegSucc,UInt8.reduceOfNat])⟩:{x // comp Tryz.prog no 35 (Gz [1,1,1])=some x}).1
theorem Ev:comp Tryz.prog no 35 (Gz [0])=some Gd:=by kernel_rfl
theorem Ew:comp Tryz.prog no 35 (Gz [1,0])=some Ge:=by kernel_rfl
theorem Ex:comp Tryz.prog no 35 (Gz [1,1,1])=some Gf:=by kernel_rfl
theorem ah.DQ {C:Ctx} {g:FuncId} {ps:List PV} {r:PV} (h:ah C g ps r) (D:List Deferred):ah {C with D:=D} g ps r:=h
theorem gr.DQ {C:Ctx} {g:FuncId} {al:List AV} {μ:AM} {c:List PanicEntry} {Q:AM→Prop} (h:gr C g al μ c Q) (D:List Deferred):gr {C with D:=D} g al μ c Q :=
 ⟨h.1,fun w0 S γ w vs hW hp=>(h.2 w0 S γ w vs ⟨hW.mem,hW.below,hW.live,hW.env⟩ hp).mono fun e w' ⟨S',γ',μ',h1,h2,h3,h4⟩=>⟨S',γ',μ',h1,h2,⟨h3.mem,h3.below,h3.live,h3.env⟩,h4⟩⟩
def gM:AF:=[(2,.ptr 0 0 0),(3,.ptr 1 0 0)]
def Ha (s:List UInt8):Exit→AF→AM→Prop:=fun e f μ=>match e with
 | .ret=>Sub gM f∧(iV s).2=0∧∃junk,μ=[af (iV s).1,gZ 0]++junk
 | .panic c=>c=cW∧iV s=(zt,3)∧Sub gM f∧∃a b c d e n junk,μ=[Gy a b c d e,gZ n]++junk
 |_=>False
theorem Ey (D:List Deferred) (s:List UInt8) (hs:s.length≤65536):Aw {ctx with D:=D} no 35 2 Gf (Ha s) [(0,.pv (.str s)),(2,.ptr 0 0 0),(3,.ptr 1 0 0)] [aY,gZ 0]:=by
 have hsp:=ah.DQ (wL 10 s (by omega)) D;obtain⟨hb1,hb2⟩:=lA 10 s;have hct:=D6 ((mo 10 s).length+1) 1 (mo 10 s) [] (by omega) (by omega) (by omega) (by omega) fun x hx=>by have:=hb2 x hx;omega
 have hwt:=fun t r h=>sU ((mo 10 s).length+1) 1 [] (mo 10 s) t r h
 have hP:iV s=match ky ((mo 10 s).length+1) 1 (mo 10 s) with
  |some (t,_)=>if jx t=(s,0) then (t,0) else (zt,3)
  |none=>(zt,3):=by unfold iV;rw[if_neg (by omega)]
 unfold Gf;refine iF [(55,fun _=>some (gX (mo 10 s)))] ?_;dsimp only[aY,gZ,gX,go_sem];try dsimp only[aY,gZ,gX,go_sem]
 refine⟨(by simp[vb]<;>omega),?_,?_⟩
 ·exact⟨hsp,trivial⟩
 generalize hls:mo 10 s=ls at *;cases ht:ky (ls.length+1) 1 ls with
 |none =>
  rw[ht]at hct hP;simp only at hP;have hp:=(gr.frame hct [2] [aY,gZ 0,aC ls] (by simp) (by simp) ⟨rfl,trivial⟩ rfl (by simp[dA,Nat.blt]) (by rintro _ ⟨r,rfl⟩;simp)).DQ D;refine bU ?_;refine gW 3 true [] ?_;simp only[ja,List.take_succ_cons,List.take_zero,List.getElem?_cons_succ,List.getElem?_cons_zero,go_sem,jF];refine⟨by simp[aH],by simp[aH,aP],cW,_,hp,?_⟩;rintro μ1 ⟨_,⟨r,rfl⟩,rfl⟩
  exact⟨rfl,hP,by (repeat' (first|exact trivial|refine And.intro (by first|rfl|(simp[get,Nat.beq,gM];done)|(simp[get,Nat.beq,gM];omega)|(dsimp only[get];congr 1<;>first|rfl|omega|(simp;done)|(simp;omega))) ?_)),_,_,_,_,_,_,[aC r],rfl⟩
 |some p =>
  obtain⟨t,r⟩:=p;rw[ht]at hct hP;simp only at hP;have hw:wt t≤1000000000:=by
   have:gL (ls.length+1) 1 [] ls=some (t,r):=by
    rw[ky,if_pos (by omega)]at ht;exact ht
   have:=hwt t r this;simp at this;omega
  have hp:=(aJ.frame hct [2] [aY,gZ 0,aC ls] (by simp) (by simp) ⟨rfl,trivial⟩ rfl (by simp[dA,Nat.blt]) (by simp)).DQ D;have hfo:=(ui t hw).DQ D;generalize hF:jx t=F at *;obtain⟨F,n⟩:=F;simp only at hfo;refine bJ [(19,{val:=some (.pv (aI t)),mem:=some [aY,gZ 0,aC r]})] ?_;dsimp only[aY,gZ,aI,go_sem];try dsimp only[aY,gZ,aI,go_sem]
  refine⟨(by simp[vb]<;>omega),?_,?_⟩
  ·exact⟨hp,trivial⟩
  refine iF [(26,fun _=>some (.tup [.str F,.int .i64 n]))] ?_;dsimp only[aY,gZ,aI,go_sem];try dsimp only[aY,gZ,aI,go_sem]
  refine⟨(by simp[vb]<;>omega),?_,?_⟩
  ·exact⟨hfo,trivial⟩
  refine aV ?_;dsimp only[go_sem];try dsimp only[go_sem]
  refine⟨(by simp[vb]<;>omega),(by simp[vb]<;>omega),?_⟩;refine aV ?_;dsimp only[go_sem];refine⟨fun hc=>?_,fun hc=>?_⟩
  ·have hne:¬((F,n)=(s,(0:Int))):=by
    rintro h;injection h with h1 h2
    subst h1 h2;simp at hc
   rw[if_neg hne]at hP;refine gW 2 true [] ?_;simp only[ja,List.take_succ_cons,List.take_zero,List.getElem?_cons_succ,List.getElem?_cons_zero,go_sem,jF];exact⟨trivial,trivial,rfl,hP,by (repeat' (first|exact trivial|refine And.intro (by first|rfl|(simp[get,Nat.beq,gM];done)|(simp[get,Nat.beq,gM];omega)|(dsimp only[get];congr 1<;>first|rfl|omega|(simp;done)|(simp;omega))) ?_)),_,_,_,_,_,_,[aC r],rfl⟩
  ·have hq:(F,n)=(s,(0:Int)):=by
    by_cases hn:n=0
    ·subst hn;simp at hc;rw[hc]
    ·simp[hn]at hc
   rw[if_pos hq]at hP;refine aV ?_;dsimp only[go_sem];refine aV ?_;dsimp only[go_sem];try dsimp only[go_sem]
   refine⟨(by simp[vb]<;>omega),(by simp[vb]<;>omega),?_⟩;refine aV ?_;dsimp only[go_sem];refine⟨by (repeat' (first|exact trivial|refine And.intro (by first|rfl|(simp[get,Nat.beq,gM];done)|(simp[get,Nat.beq,gM];omega)|(dsimp only[get];congr 1<;>first|rfl|omega|(simp;done)|(simp;omega))) ?_)),by rw[hP],[aC r],?_⟩;rw[hP];rfl
theorem Ez (s:List UInt8):Aw ctx no 35 0 Gd (fun e f μ=>e= .normal∧Sub ((0,.pv (.str s))::gM) f∧μ=[aY,gZ 0]) [(0,.pv (.str s))] []:=by
 unfold Gd;refine aV ?_;dsimp only[go_sem];try dsimp only[go_sem]
 refine⟨(by simp[vb]<;>omega),(by simp[vb]<;>omega),?_⟩;exact⟨rfl,by (repeat' (first|exact trivial|refine And.intro (by first|rfl|(simp[get,Nat.beq,gM];done)|(simp[get,Nat.beq,gM];omega)|(dsimp only[get];congr 1<;>first|rfl|omega|(simp;done)|(simp;omega))) ?_)),rfl⟩
theorem Gg (s:List UInt8) (hs:s.length≤4000000000):Aw ctx no 35 2 Ge (fun e f μ=>(e= .normal∧s.length≤65536∧Sub ((0,.pv (.str s))::gM) f∧μ=[aY,gZ 0])∨(e= .ret∧65536<s.length∧Sub gM f∧μ=[aY,gZ 8])) ((0,.pv (.str s))::gM) [aY,gZ 0]:=by
 unfold Ge gM;refine aV ?_;dsimp only[aY,gZ,go_sem];try dsimp only[aY,gZ,go_sem]
 refine⟨(by simp[vb]<;>omega),(by simp[vb]<;>omega),?_⟩;refine aV ?_;dsimp only[aY,gZ,go_sem];refine⟨fun hc=>?_,fun hc=>?_⟩
 ·simp at hc;refine aV ?_;dsimp only[aY,gZ,go_sem];try dsimp only[aY,gZ,go_sem]
  refine⟨(by simp[vb]<;>omega),(by simp[vb]<;>omega),?_⟩;refine aV ?_;dsimp only[aY,gZ,go_sem];exact .inr ⟨rfl,by omega,by (repeat' (first|exact trivial|refine And.intro (by first|rfl|(simp[get,Nat.beq,gM];done)|(simp[get,Nat.beq,gM];omega)|(dsimp only[get];congr 1<;>first|rfl|omega|(simp;done)|(simp;omega))) ?_)),rfl⟩
 ·simp at hc;refine aV ?_;dsimp only[aY,gZ,go_sem];exact .inl ⟨rfl,by omega,by (repeat' (first|exact trivial|refine And.intro (by first|rfl|(simp[get,Nat.beq,gM];done)|(simp[get,Nat.beq,gM];omega)|(dsimp only[get];congr 1<;>first|rfl|omega|(simp;done)|(simp;omega))) ?_)),rfl⟩
theorem hZ.lower {m:Nat} {w w':World} {S S':Nat→Prop} {γ γ':Gh} (h:hZ m w S γ w' S' γ'):hZ 0 w S γ w' S' γ':=⟨h.stay,fun b e hb=>absurd hb (by omega),h.more,h.cbs,h.size,h.frame⟩
theorem hZ.low {w w':World} {S S':Nat→Prop} {γ γ' γ'':Gh} (h:hZ 0 w S γ w' S' γ') (hs:∀b e,γ'' b=some e→γ' b=some e):hZ 0 w S γ w' S' γ'':=⟨h.stay,fun b e hb=>absurd hb (by omega),h.more,fun b e hb=>h.cbs b e (hs b e hb),h.size,h.frame⟩
theorem uk (tl:AM):MW (aY::tl) (af zt::tl) :=
 PW.cons ⟨PW.cons (CW.refl _) (PW.cons CW.nil (PW.cons (CW.refl _) (PW.cons (CW.refl _) (PW.cons CW.nil PW.nil)))),rfl,rfl,rfl,rfl⟩ (MW.refl tl)
theorem qa {w w':World} {S S':Nat→Prop} {γ':Gh} {a':Act} {μ:AM} {f:AF} (t:Tree) (n:Int) (hE:hZ 0 w S (fun _=>none) w' S' γ') (hW:Wd ctx w S' γ' μ w') (hF:FR [] 35 w' S' γ' f a') (hs:Sub gM f) (hm:∃junk,μ=[af t,gZ n]++junk) :
  ∃u,(results Tryz.f28 a'.tmps).run Tryz.prog w'= .ok u w'∧∃v,Ending.returned u= .returned v∧Below w.heap.size w w'∧Is w' (fun g=>S g∨(w.heap.size≤g∧g<w'.heap.size)) (.tup [aI t,.int .i64 n]) v:=by
 obtain⟨h2,h3,-⟩:=hs;obtain⟨junk,rfl⟩:=hm;have he:gT (.pv (.tup [aI t,.int .i64 n])) (aS f ([af t,gZ n]++junk) [.cell 2 5 true,.cell 3 1 false]):=by
  simp only[gT,aS,go_sem,h2,h3,af,gZ,List.cons_append,List.nil_append];exact⟨by simp[aH],rfl⟩
 unfold gT at he;split at he
 ·rename_i vc v e1;obtain⟨e2,rfl⟩:=he;obtain⟨u,hu,hv⟩:=kn (fn:=Tryz.f28) hW (hF:FR ctx.D 35 w' S' γ' f a') (by kernel_rfl) e1 e2;refine⟨u,hu,u,rfl,hW.below,(uK hW depth (p:=.tup [aI t,.int .i64 n]) rfl hv).stay ⟨fun g hg=>?_,fun _ _=>rfl⟩⟩;rcases hg with hg|⟨b,e,he,rfl⟩
  ·rcases hE.more g hg with h|⟨b,e,h,-⟩|h
   ·exact .inl h
   ·cases h
   ·exact .inr ⟨h,hW.live g hg⟩
  ·rcases hE.cbs b e he with⟨b0,e0,h,-⟩|h
   ·cases h
   ·exact .inr ⟨h,hW.jC he⟩
 ·exact he.elim
set_option maxHeartbeats 1000000 in
theorem xf (s:List UInt8) (hs:s.length≤4000000000):ah ctx 28 [.str s] (.tup [aI (iV s).1,.int .i64 (iV s).2]):=by
 refine⟨by kernel_rfl,fun w S us hE hS hp=>?_⟩;have hW:Wd ctx w S (fun _=>none) [] w:=⟨⟨fun b k hk=>by simp at hk,fun b k hk=>by simp at hk,fun _ _=>rfl,fun b b' e e' h=>by cases h⟩,Below.refl _ _,hS,hE⟩
 have hpv:PW (VR w S (fun _=>none)) ([PV.str s].map .pv) us:=PW.jN hp;have hus:us.length≤35:=by rw[←hp.len];simp
 refine calls_of_wp_defers Tryz.func28 rfl (wp_seq ?_);refine wp_mono (Ez s _ Ev w S (fun _=>none) w _ hW (ln (fn:=Tryz.f28) hpv hus)) fun e1 a1 w1 hh=>?_
 obtain⟨S1,γ1,f1,μ1,x1,x2,x3,rfl,hs1,rfl⟩:=hh;refine wp_seq ?_;refine wp_mono (bO _ hs1 (Gg s hs) _ Ew w S1 γ1 w1 a1 x2 x3) fun e2 a2 w2 hh=>?_
 obtain⟨S2,γ2,f2,μ2,y1,y2,y3,hy⟩:=hh;rcases hy with⟨rfl,hlen,hs2,rfl⟩|⟨rfl,hlen,hs2,rfl⟩
 ·show Code.wp Tryz.prog _ _ _ _;have hmf:∀(fn:Go.Fn) (first cap:Array Value) (w:World),(Instr.makeFunc fn first cap).run Tryz.prog w= .ok (.func fn first cap) w:=fun _ _ _ _=>rfl
  obtain⟨tm,df⟩:=a2;have hsz:tm.size=35:=y3.size;obtain rfl:df=[]:=y3.defers;iterate 9 (go_step<;>try go_simp)
  obtain⟨h0,h2,h3,-⟩:=hs2;have v0:=y3.val 0;have v2:=y3.val 2;have v3:=y3.val 3;rw[h0]at v0;rw[h2]at v2;rw[h3]at v3;have hE12:=x1.trans y1.lower;have hc54:fI ctx.P 54=true:=by kernel_rfl
  generalize hD:([{target:=Target.fn (Go.Fn.func 54) #[tm[2],tm[3]],args:=#[]}]:List Deferred)=D;refine wp_mono (Ey D s hlen _ Ex w S2 γ2 w2 _ ⟨y2.mem,y2.below,y2.live,y2.env⟩ ⟨by simp[hsz],rfl,fun t=>?_⟩) fun e3 a3 w3 hh=>?_
  ·match t with
   |0=>simpa [Act.eval,get,Nat.beq]using v0
   |1=>exact .any _
   |2=>simpa [Act.eval,get,Nat.beq]using v2
   |3=>simpa [Act.eval,get,Nat.beq]using v3
   |t+4=>exact .any _
  obtain⟨S3,γ3,f3,μ3,z1,z2,z3,z4⟩:=hh;have w2':VR w2 S2 γ2 (.ptr 0 0 0) tm[2]:=by simpa [Act.eval,hsz]using v2
  have w3':VR w2 S2 γ2 (.ptr 1 0 0) tm[3]:=by simpa [Act.eval,hsz]using v3
  have hE3:Ext w2 S2 γ2 w3 S3 γ3:=⟨z1.stay,fun b e hb=>z1.gh b e (Nat.lt_of_not_le fun h=>by rw[y2.mem.none b (by simpa using h)]at hb;cases hb) hb,z1.more,z1.cbs,z1.size,z1.frame⟩
  cases e3 with
  |ret =>
   obtain⟨k1,k2,k3⟩:=z4;show Leaves _ _ _ _ a3.defers _ _;rw[show a3.defers=D from z3.defers,←hD];refine leaves_cons (f:=54) (args:=#[tm[2],tm[3]]) (by simp) (by simp[go_sem];exact iJ hc54 _) ?_;refine(yB _ _ w3).mono ?_;rintro e u' w'' ⟨rfl,rfl,rfl⟩;have:=qa (a':={a3 with defers:=[]}) (iV s).1 0 (hE12.trans z1.lower) ⟨z2.mem,z2.below,z2.live,z2.env⟩ ⟨z3.size,rfl,z3.val⟩ k1 k3;rw[k2];exact this
  |panic c =>
   obtain⟨rfl,k1,k2,a,b,c,d,e,n,junk,rfl⟩:=z4;show Leaves _ _ _ _ a3.defers _ _;rw[show a3.defers=D from z3.defers,←hD];refine leaves_cons (f:=54) (args:=#[tm[2],tm[3]]) (by simp[cW]) (by simp[go_sem];exact iJ hc54 _) ?_;have hγ:∀b,b<2→cN γ3 2 b=γ3 b:=fun b h=>by simp[cN,h]
   have hW3:Wd ctx w S3 γ3 ([Gy a b c d e,gZ n]++junk) w3:=⟨z2.mem,z2.below,z2.live,z2.env⟩
   refine(wX _ _ a b c d e n (hW3.drop (by rfl)) (lU hγ 3 rfl (w2'.ext hE3)) (lU hγ 3 rfl (w3'.ext hE3))).mono ?_;rintro e u' w4 ⟨rfl,rfl,S4,γ4,junk4,j1,j2⟩;have:=qa (a':={a3 with defers:=[]}) (f:=gM) zt 3 (((hE12.trans z1.lower).low fun b e h=>?_).trans (j1.toM 0)) (j2.Ah (uk _)) ⟨z3.size,rfl,fun t=>?_⟩ (by (repeat' (first|exact trivial|refine And.intro (by first|rfl|(simp[get,Nat.beq,gM];done)|(simp[get,Nat.beq,gM];omega)|(dsimp only[get];congr 1<;>first|rfl|omega|(simp;done)|(simp;omega))) ?_))) ⟨_,rfl⟩
   ·rw[k1];exact this
   ·unfold cN at h;split at h
    ·exact h
    ·cases h
   ·obtain⟨q2,q3,-⟩:=k2;have u2:=z3.val 2;have u3:=z3.val 3;rw[q2]at u2;rw[q3]at u3;match t with
    |0=>exact .any _
    |1=>exact .any _
    |2=>exact(lU hγ 3 rfl u2).ext j1
    |3=>exact(lU hγ 3 rfl u3).ext j1
    |t+4=>exact .any _
  |_=>exact z4.elim
 ·show Leaves _ _ _ _ _ _ _;rw[show a2.defers=[] from y3.defers];obtain⟨u,hu,hR⟩:=qa (w:=w) (S:=S) (a':={a2 with defers:=[]}) zt 8 (x1.trans (hZ.lower y1)) (y2.Ah (uk _)) ⟨y3.size,rfl,y3.val⟩ hs2 ⟨[],rfl⟩;refine⟨u,hu,?_⟩;have e:iV s=(zt,8):=by unfold iV;rw[if_pos (by omega)]
  rw[e];exact hR
end Pur
end
section
namespace Pur
open Go.RowKit
attribute [local go_sem] bI fa bR bu cS gf List.map aX aG get put tmpsOf dF iW gF iG conds ev cond_true cond_false Nat.beq Nat.ble Nat.add quiet dG cf cF pn List.append_eq List.nil_append List.cons_append dE cy cz cA cB cC cD fg eY dv jb dH calm quiet.isCallK cH List.getElem?_cons_zero List.getElem?_cons_succ bp b6 cellsOf List.all bC List.length_cons List.length_nil eP a6 List.drop List.take List.getD Option.getD_some qR qS qF qT qU qV eB gC eC eD setAt List.set Nat.reduceAdd Nat.reduceMul b9 bw refsOf bG bM scalar cd ef bL ca aN after freeze im gT aS dx dQ dt eH c6 c7 cj da db de dh di dj dk dm dn dp dq ck cp cu dw jc bytesOf bH cU aQ bD dS bA bT cI still bW ed dy dW bP eI List.isEmpty cv cw cx Int.reduceToNat Nat.mul_one Nat.reduceSub oM cV b7 dK cG look dL strip guarded fV eK eO cK dV cY hJ dc dd Bool.or_false Bool.or_true Bool.and_true Bool.and_false Nat.blt gg fx gq dD idxOf gU gV iX eV aN mI
section
open Rf
theorem Bf (x:Tm) (c:Int):aJ ctx 148 [.pv (.agg [.int .i64 x.cell,.int .i64 x.fac]),.ptr 0 0 0] [⟨[.pv (.int .i64 c)],0,1,3,false⟩] (.pv (.bool (decide (x.cell=c)))) [⟨[.pv (.int .i64 c)],0,1,3,false⟩]:=by
 refine bq (C:=ctx) (Fn.of Fq rfl) rfl (by simp) rfl rfl ?_;unfold c148;repeat' (first
  |((with_reducible first|show aH _|show aP _);simp[vb]<;>omega)
  |exact(rfl:some _=_)
  |(
   fail_if_success refine a7 ?_
   refine aV ?_;repeat1' dsimp only[c148,go_sem]
   first
   |refine a8 ?_ ?_ rfl ?_
   |apply ba
   |apply bc
   |(refine bf (fun hc=>?_) fun hc=>?_<;>first|(cases hc;done)|(exfalso;simp at hc<;>omega)|(try simp only[bn]at hc;try contradiction))
   |skip))
 exact⟨⟨trivial,rfl⟩,_,rfl⟩
theorem CX (ts:List Tm) (k:Nat) (hk:k<ts.length):(ts.flatMap kG)[k*2+1]?.getD default= .int .i64 (ts.getD k zm).fac:=by
 rw[bZ kT ts k zm 1 hk (by omega)];rfl
set_option maxHeartbeats 8000000 in
theorem xg (b:List Rg) (r:Rw) (c:Int) (hv:fQ b [r]=true) (hc0:0≤c) (hc1:c<b.length):ah ctx 129 [.agg [au r.terms,.int .i64 r.bound],ae b,.int .i64 c] (.agg [.int .i64 (gY r b c).lo,.int .i64 (gY r b c).hi]):=by
 obtain⟨v1,v2,v3,v4,v5,v6⟩:=w9 hv;have hbd:=CV b r c hv;have hsm:=sS v1 c r.terms fun t ht=>by have:=v6 t ht;omega
 have e:=sT b c hc0 hc1;have hx:=o8 (kC v1 c.toNat);have f1:=jn r.terms;have f2:=du b;have hidx:=uj c r.terms;have hI:=fun (μ:AM) (hμ:aM μ μ.length=true) (h1:1<μ.length) (hj:μ[1]?=some ⟨[.pv (.int .i64 c)],0,1,3,false⟩)=>A9 148 μ hμ 1 h1 r.terms (by omega) (fun t=>decide (t.cell=c)) fun x _=>(Bf x c).II (ps:=[.int .i64 c]) rfl hj
 unfold gY;obtain⟨ts,bd⟩:=r;simp only at *;generalize b.getD c.toNat zr=x at *;generalize gw b c ts=sm at *;clear hv;rcases hidx with⟨h1,h2⟩|⟨k,h1,h2,h3⟩
 ·rw[om c ts h2];simp only[if_true];generalize jP (fun t=>decide (t.cell=c)) ts=q at *;have hI:=hI [⟨[.pv (au ts),.pv (.int .i64 bd)],0,2,62,false⟩,⟨[.pv (.int .i64 c)],0,1,3,false⟩,⟨[.pv (.int .i64 0),.pv (.int .i64 0)],0,2,57,false⟩,⟨[.pv (.int .i64 x.lo),.pv (.int .i64 x.hi)],0,2,57,false⟩] rfl (by simp) rfl;refine ar (C:=ctx) (Fn.of zC rfl) rfl ?_;unfold wV;repeat' (first
   |((with_reducible show aH _);first|exact True.intro|(simp only[vb,lb,e,f1,f2,hc0,hc1,hI,h1];and_intros<;>first|omega|(simp<;>omega)))
   |((with_reducible show aP _);first|exact True.intro|((try dsimp only[go_sem]);first|(simp[vb,e,f1,f2,hc0,hc1,hI,h1]<;>omega)|(simp only[vb,and_true,true_implies];(repeat' (first|(with_reducible assumption)|(with_reducible apply And.intro)|intro _|((fail_if_success (with_reducible show(_:Int)≤_));assumption))))))
   |exact(rfl:some _=_)
   |(
    fail_if_success refine a7 ?_
    refine bJ [(14,{val:=some (.pv (.agg [.int .i64 x.lo,.int .i64 x.hi]))}),(18,{val:=some (.pv (.int .i64 q)),ro:=true})] ?_;repeat1' dsimp only[wV,au,ae,go_sem]
    first
    |refine a8 ?_ ?_ rfl ?_
    |apply ba
    |apply bc
    |(refine bf (fun hc=>?_) fun hc=>?_<;>first|(cases hc;done)|(exfalso;(simp at hc<;>omega))|(try simp only[bn]at hc;try contradiction))
    |skip))
 ·have g:=v6 _ (aT (d:=zm) h2);have hg:=CX ts k h2;rw[h3];rw[h1]at hI;clear h1 h3;generalize ts.getD k zm=y at *;simp only[g.2.2.1,if_false];have hI:=hI [⟨[.pv (au ts),.pv (.int .i64 bd)],0,2,62,false⟩,⟨[.pv (.int .i64 c)],0,1,3,false⟩,⟨[.pv (.int .i64 0),.pv (.int .i64 0)],0,2,57,false⟩,⟨[.pv (.int .i64 x.lo),.pv (.int .i64 x.hi)],0,2,57,false⟩] rfl (by simp) rfl;by_cases hf:0<y.fac
  ·have hfl:=xd (bd-sm) y.fac hf (by omega) (by omega) (by omega);simp only[hf,if_true];generalize (bd-sm) / y.fac=q at *;have hem:=sQ ⟨x.lo,if q<x.hi then q else x.hi⟩;simp only[fc]at hem;refine ar (C:=ctx) (Fn.of zC rfl) rfl ?_;unfold wV;unfold au at hI hbd;unfold ae at hbd;refine eW [(149,fun _=>some (.int .i64 sm)),(150,fun _=>some (.int .i64 q))] [(14,{val:=some (.pv (.agg [.int .i64 x.lo,.int .i64 x.hi]))}),(18,{val:=some (.pv (.int .i64 k)),ro:=true}),(27,{val:=some (.pv (.int .i64 y.fac))})] ?_;dsimp only[au,ae,go_sem]
   try dsimp only[au,ae,go_sem]
   refine⟨(by simp[vb,e,f1,f2,hc0,hc1,hI,hg,h2,hbd,hfl,hf]<;>omega),(by simp[vb,e,f1,f2,hc0,hc1,hI,hg,h2,hbd,hfl,hf]<;>omega),?_⟩;refine eW [(149,fun _=>some (.int .i64 sm)),(150,fun _=>some (.int .i64 q))] [(14,{val:=some (.pv (.agg [.int .i64 x.lo,.int .i64 x.hi]))}),(18,{val:=some (.pv (.int .i64 k)),ro:=true}),(27,{val:=some (.pv (.int .i64 y.fac))})] ?_;dsimp only[au,ae,go_sem];try dsimp only[au,ae,go_sem]
   refine⟨(by first|exact True.intro|(simp only[vb,lb];omega)|(simp only[vb,lb,e,f1,f2,hc0,hc1,hI,hg,h2,hbd,hfl,hf];and_intros<;>first|omega|(simp<;>omega))|(simp[vb,e,f1,f2,hc0,hc1,hI,hg,h2,hbd,hfl,hf]<;>omega)),(by first|exact True.intro|((try dsimp only[go_sem]);first|(simp[vb,e,f1,f2,hc0,hc1,hI,hg,h2,hbd,hfl,hf]<;>omega)|(simp only[vb,and_true,true_implies];(repeat' (first|(with_reducible assumption)|(with_reducible apply And.intro)|intro _|((fail_if_success (with_reducible show(_:Int)≤_));assumption)))<;>first|omega|rfl|(simp only[ab,e,f1,f2,hc0,hc1,hI,hg,h2,hbd,hfl,hf];done)|(simp[Nat.mul_one,e,f1,f2,hc0,hc1,hI,hg,h2,hbd,hfl,hf]<;>omega)|(simp_all;done)))),?_⟩
   refine eW [(149,fun _=>some (.int .i64 sm)),(150,fun _=>some (.int .i64 q))] [(14,{val:=some (.pv (.agg [.int .i64 x.lo,.int .i64 x.hi]))}),(18,{val:=some (.pv (.int .i64 k)),ro:=true}),(27,{val:=some (.pv (.int .i64 y.fac))})] ?_;dsimp only[au,ae,go_sem];try dsimp only[au,ae,go_sem]
   refine⟨(by first|exact True.intro|(simp only[vb,lb];omega)|(simp only[vb,lb,e,f1,f2,hc0,hc1,hI,hg,h2,hbd,hfl,hf];and_intros<;>first|omega|(simp<;>omega))|(simp[vb,e,f1,f2,hc0,hc1,hI,hg,h2,hbd,hfl,hf]<;>omega)),(by first|exact True.intro|((try dsimp only[go_sem]);first|(simp[vb,e,f1,f2,hc0,hc1,hI,hg,h2,hbd,hfl,hf]<;>omega)|(simp only[vb,and_true,true_implies];(repeat' (first|(with_reducible assumption)|(with_reducible apply And.intro)|intro _|((fail_if_success (with_reducible show(_:Int)≤_));assumption)))<;>first|omega|rfl|(simp only[ab,e,f1,f2,hc0,hc1,hI,hg,h2,hbd,hfl,hf];done)|(simp[Nat.mul_one,e,f1,f2,hc0,hc1,hI,hg,h2,hbd,hfl,hf]<;>omega)|(simp_all;done)))),?_⟩
   iterate 5 first
    |refine⟨fun h=>by simp at h<;>omega,fun _=>?_⟩
    |refine⟨by simp[vb,e,f1,f2,hc0,hc1,hI,hg,h2,hbd,hfl,hf]<;>omega,by simp[vb,e,f1,f2,hc0,hc1,hI,hg,h2,hbd,hfl,hf]<;>omega,?_⟩
    |(refine eW [(149,fun _=>some (.int .i64 sm)),(150,fun _=>some (.int .i64 q))] [(14,{val:=some (.pv (.agg [.int .i64 x.lo,.int .i64 x.hi]))}),(18,{val:=some (.pv (.int .i64 k)),ro:=true}),(27,{val:=some (.pv (.int .i64 y.fac))})] ?_;iterate 2 (try dsimp only[au,ae,go_sem]))
   refine eW [(149,fun _=>some (.int .i64 sm)),(150,fun _=>some (.int .i64 q))] [(14,{val:=some (.pv (.agg [.int .i64 x.lo,.int .i64 x.hi]))}),(18,{val:=some (.pv (.int .i64 k)),ro:=true}),(27,{val:=some (.pv (.int .i64 y.fac))})] ?_;dsimp only[au,ae,go_sem];try dsimp only[au,ae,go_sem]
   refine⟨(by first|exact True.intro|(simp only[vb,lb];omega)|(simp only[vb,lb,e,f1,f2,hc0,hc1,hI,hg,h2,hbd,hfl,hf];and_intros<;>first|omega|(simp<;>omega))|(simp[vb,e,f1,f2,hc0,hc1,hI,hg,h2,hbd,hfl,hf]<;>omega)),(by first|exact True.intro|((try dsimp only[go_sem]);first|(simp[vb,e,f1,f2,hc0,hc1,hI,hg,h2,hbd,hfl,hf]<;>omega)|(simp only[vb,and_true,true_implies];(repeat' (first|(with_reducible assumption)|(with_reducible apply And.intro)|intro _|((fail_if_success (with_reducible show(_:Int)≤_));assumption)))<;>first|omega|rfl|(simp only[ab,e,f1,f2,hc0,hc1,hI,hg,h2,hbd,hfl,hf];done)|(simp[Nat.mul_one,e,f1,f2,hc0,hc1,hI,hg,h2,hbd,hfl,hf]<;>omega)|(simp_all;done)))),?_⟩
   refine eW [(149,fun _=>some (.int .i64 sm)),(150,fun _=>some (.int .i64 q))] [(14,{val:=some (.pv (.agg [.int .i64 x.lo,.int .i64 x.hi]))}),(18,{val:=some (.pv (.int .i64 k)),ro:=true}),(27,{val:=some (.pv (.int .i64 y.fac))})] ?_;dsimp only[au,ae,go_sem];try dsimp only[au,ae,go_sem]
   refine⟨(by simp[vb,e,f1,f2,hc0,hc1,hI,hg,h2,hbd,hfl,hf]<;>omega),(by simp[vb,e,f1,f2,hc0,hc1,hI,hg,h2,hbd,hfl,hf]<;>omega),?_⟩;refine eW [(149,fun _=>some (.int .i64 sm)),(150,fun _=>some (.int .i64 q))] [(14,{val:=some (.pv (.agg [.int .i64 x.lo,.int .i64 x.hi]))}),(18,{val:=some (.pv (.int .i64 k)),ro:=true}),(27,{val:=some (.pv (.int .i64 y.fac))})] ?_;dsimp only[au,ae,go_sem];refine⟨fun _=>?_,fun h=>by simp at h<;>omega⟩
   refine kP (T:=[(149,fun _=>some (.int .i64 sm)),(150,fun _=>some (.int .i64 q))]) (H:=[(14,{val:=some (.pv (.agg [.int .i64 x.lo,.int .i64 x.hi]))}),(18,{val:=some (.pv (.int .i64 k)),ro:=true}),(27,{val:=some (.pv (.int .i64 y.fac))})]) (by rfl) ?_;dsimp only[eg,au,ae,go_sem];try dsimp only[au,ae,go_sem]
   refine⟨(by simp[vb,e,f1,f2,hc0,hc1,hI,hg,h2,hbd,hfl,hf]<;>omega),(by simp[vb,e,f1,f2,hc0,hc1,hI,hg,h2,hbd,hfl,hf]<;>omega),?_⟩;repeat' (first
    |((with_reducible show aH _);(simp only[vb,lb,hem,fc];and_intros<;>first|omega|(simp<;>omega)))
    |((with_reducible show aP _);first|exact True.intro|((try dsimp only[go_sem]);(simp[vb,hem,fc]<;>omega)))
    |exact(rfl:some _=_)
    |(
     fail_if_success refine a7 ?_
     refine iF [(102,fun ps=>match ps with|[.agg [.int _ l,.int _ h]]=>some (.bool (decide (h<l)))|_=>none)] ?_;repeat1' dsimp only[wV,au,ae,go_sem]
     first
     |refine a8 ?_ ?_ rfl ?_
     |apply ba
     |apply bc
     |(refine bf (fun hc=>?_) fun hc=>?_<;>first|(cases hc;done)|(try simp only[bn]at hc;try contradiction))
     |skip))
   ·rw[pb]at hc;rw[if_pos hc]
   ·rw[pb]at hc ⊢;rw[if_neg hc]
  ·have hfl:=xd (bd-sm) (-y.fac) (by omega) (by omega) (by omega) (by omega);have hq:((bd-sm) / -y.fac).natAbs≤(bd-sm).natAbs:=Int.natAbs_ediv_le_natAbs _ _;simp only[hf,if_false];generalize (bd-sm) / -y.fac=q at *;have hem:=sQ ⟨if x.lo< -q then -q else x.lo,x.hi⟩;simp only[fc]at hem;refine ar (C:=ctx) (Fn.of zC rfl) rfl ?_;unfold wV;unfold au at hI hbd;unfold ae at hbd
   refine eW [(149,fun _=>some (.int .i64 sm)),(150,fun _=>some (.int .i64 q))] [(14,{val:=some (.pv (.agg [.int .i64 x.lo,.int .i64 x.hi]))}),(18,{val:=some (.pv (.int .i64 k)),ro:=true}),(27,{val:=some (.pv (.int .i64 y.fac))})] ?_;dsimp only[au,ae,go_sem];try dsimp only[au,ae,go_sem]
   refine⟨(by simp[vb,e,f1,f2,hc0,hc1,hI,hg,h2,hbd,hfl,hf]<;>omega),(by simp[vb,e,f1,f2,hc0,hc1,hI,hg,h2,hbd,hfl,hf]<;>omega),?_⟩;refine eW [(149,fun _=>some (.int .i64 sm)),(150,fun _=>some (.int .i64 q))] [(14,{val:=some (.pv (.agg [.int .i64 x.lo,.int .i64 x.hi]))}),(18,{val:=some (.pv (.int .i64 k)),ro:=true}),(27,{val:=some (.pv (.int .i64 y.fac))})] ?_;dsimp only[au,ae,go_sem];try dsimp only[au,ae,go_sem]
   refine⟨(by first|exact True.intro|(simp only[vb,lb];omega)|(simp only[vb,lb,e,f1,f2,hc0,hc1,hI,hg,h2,hbd,hfl,hf];and_intros<;>first|omega|(simp<;>omega))|(simp[vb,e,f1,f2,hc0,hc1,hI,hg,h2,hbd,hfl,hf]<;>omega)),(by first|exact True.intro|((try dsimp only[go_sem]);first|(simp[vb,e,f1,f2,hc0,hc1,hI,hg,h2,hbd,hfl,hf]<;>omega)|(simp only[vb,and_true,true_implies];(repeat' (first|(with_reducible assumption)|(with_reducible apply And.intro)|intro _|((fail_if_success (with_reducible show(_:Int)≤_));assumption)))<;>first|omega|rfl|(simp only[ab,e,f1,f2,hc0,hc1,hI,hg,h2,hbd,hfl,hf];done)|(simp[Nat.mul_one,e,f1,f2,hc0,hc1,hI,hg,h2,hbd,hfl,hf]<;>omega)|(simp_all;done)))),?_⟩
   refine eW [(149,fun _=>some (.int .i64 sm)),(150,fun _=>some (.int .i64 q))] [(14,{val:=some (.pv (.agg [.int .i64 x.lo,.int .i64 x.hi]))}),(18,{val:=some (.pv (.int .i64 k)),ro:=true}),(27,{val:=some (.pv (.int .i64 y.fac))})] ?_;dsimp only[au,ae,go_sem];try dsimp only[au,ae,go_sem]
   refine⟨(by first|exact True.intro|(simp only[vb,lb];omega)|(simp only[vb,lb,e,f1,f2,hc0,hc1,hI,hg,h2,hbd,hfl,hf];and_intros<;>first|omega|(simp<;>omega))|(simp[vb,e,f1,f2,hc0,hc1,hI,hg,h2,hbd,hfl,hf]<;>omega)),(by first|exact True.intro|((try dsimp only[go_sem]);first|(simp[vb,e,f1,f2,hc0,hc1,hI,hg,h2,hbd,hfl,hf]<;>omega)|(simp only[vb,and_true,true_implies];(repeat' (first|(with_reducible assumption)|(with_reducible apply And.intro)|intro _|((fail_if_success (with_reducible show(_:Int)≤_));assumption)))<;>first|omega|rfl|(simp only[ab,e,f1,f2,hc0,hc1,hI,hg,h2,hbd,hfl,hf];done)|(simp[Nat.mul_one,e,f1,f2,hc0,hc1,hI,hg,h2,hbd,hfl,hf]<;>omega)|(simp_all;done)))),?_⟩
   iterate 5 first
    |refine⟨fun h=>by simp at h<;>omega,fun _=>?_⟩
    |refine⟨by simp[vb,e,f1,f2,hc0,hc1,hI,hg,h2,hbd,hfl,hf]<;>omega,by simp[vb,e,f1,f2,hc0,hc1,hI,hg,h2,hbd,hfl,hf]<;>omega,?_⟩
    |(refine eW [(149,fun _=>some (.int .i64 sm)),(150,fun _=>some (.int .i64 q))] [(14,{val:=some (.pv (.agg [.int .i64 x.lo,.int .i64 x.hi]))}),(18,{val:=some (.pv (.int .i64 k)),ro:=true}),(27,{val:=some (.pv (.int .i64 y.fac))})] ?_;iterate 2 (try dsimp only[au,ae,go_sem]))
   refine eW [(149,fun _=>some (.int .i64 sm)),(150,fun _=>some (.int .i64 q))] [(14,{val:=some (.pv (.agg [.int .i64 x.lo,.int .i64 x.hi]))}),(18,{val:=some (.pv (.int .i64 k)),ro:=true}),(27,{val:=some (.pv (.int .i64 y.fac))})] ?_;dsimp only[au,ae,go_sem];try dsimp only[au,ae,go_sem]
   refine⟨(by first|exact True.intro|(simp only[vb,lb];omega)|(simp only[vb,lb,e,f1,f2,hc0,hc1,hI,hg,h2,hbd,hfl,hf];and_intros<;>first|omega|(simp<;>omega))|(simp[vb,e,f1,f2,hc0,hc1,hI,hg,h2,hbd,hfl,hf]<;>omega)),(by first|exact True.intro|((try dsimp only[go_sem]);first|(simp[vb,e,f1,f2,hc0,hc1,hI,hg,h2,hbd,hfl,hf]<;>omega)|(simp only[vb,and_true,true_implies];(repeat' (first|(with_reducible assumption)|(with_reducible apply And.intro)|intro _|((fail_if_success (with_reducible show(_:Int)≤_));assumption)))<;>first|omega|rfl|(simp only[ab,e,f1,f2,hc0,hc1,hI,hg,h2,hbd,hfl,hf];done)|(simp[Nat.mul_one,e,f1,f2,hc0,hc1,hI,hg,h2,hbd,hfl,hf]<;>omega)|(simp_all;done)))),?_⟩
   refine eW [(149,fun _=>some (.int .i64 sm)),(150,fun _=>some (.int .i64 q))] [(14,{val:=some (.pv (.agg [.int .i64 x.lo,.int .i64 x.hi]))}),(18,{val:=some (.pv (.int .i64 k)),ro:=true}),(27,{val:=some (.pv (.int .i64 y.fac))})] ?_;dsimp only[au,ae,go_sem];try dsimp only[au,ae,go_sem]
   refine⟨(by simp[vb,e,f1,f2,hc0,hc1,hI,hg,h2,hbd,hfl,hf]<;>omega),(by simp[vb,e,f1,f2,hc0,hc1,hI,hg,h2,hbd,hfl,hf]<;>omega),?_⟩;refine eW [(149,fun _=>some (.int .i64 sm)),(150,fun _=>some (.int .i64 q))] [(14,{val:=some (.pv (.agg [.int .i64 x.lo,.int .i64 x.hi]))}),(18,{val:=some (.pv (.int .i64 k)),ro:=true}),(27,{val:=some (.pv (.int .i64 y.fac))})] ?_;dsimp only[au,ae,go_sem];refine⟨fun h=>by simp at h<;>omega,fun _=>?_⟩
   refine kP (T:=[(149,fun _=>some (.int .i64 sm)),(150,fun _=>some (.int .i64 q))]) (H:=[(14,{val:=some (.pv (.agg [.int .i64 x.lo,.int .i64 x.hi]))}),(18,{val:=some (.pv (.int .i64 k)),ro:=true}),(27,{val:=some (.pv (.int .i64 y.fac))})]) (by rfl) ?_;dsimp only[eg,au,ae,go_sem];try dsimp only[au,ae,go_sem]
   refine⟨(by simp[vb,e,f1,f2,hc0,hc1,hI,hg,h2,hbd,hfl,hf]<;>omega),(by simp[vb,e,f1,f2,hc0,hc1,hI,hg,h2,hbd,hfl,hf]<;>omega),?_⟩;repeat' (first
    |((with_reducible show aH _);(simp only[vb,lb,hem,fc];and_intros<;>first|omega|(simp<;>omega)))
    |((with_reducible show aP _);first|exact True.intro|((try dsimp only[go_sem]);(simp[vb,hem,fc]<;>omega)))
    |exact(rfl:some _=_)
    |(
     fail_if_success refine a7 ?_
     refine iF [(102,fun ps=>match ps with|[.agg [.int _ l,.int _ h]]=>some (.bool (decide (h<l)))|_=>none)] ?_;repeat1' dsimp only[wV,au,ae,go_sem]
     first
     |refine a8 ?_ ?_ rfl ?_
     |apply ba
     |apply bc
     |(refine bf (fun hc=>?_) fun hc=>?_<;>first|(cases hc;done)|(try simp only[bn]at hc;try contradiction))
     |skip))
   ·rw[vn]at hc;rw[if_pos hc]
   ·rw[vn]at hc ⊢;rw[if_neg hc]
set_option maxHeartbeats 4000000 in
theorem yH (b:List Rg) (r:Rw) (c:Int) (hb:b.length≤1000000000) (hr:r.terms.length≤1000000000):ah ctx 107 [.agg [au r.terms,.int .i64 r.bound],ae b,.int .i64 c] (.agg [.int .i64 (jw r b c).lo,.int .i64 (jw r b c).hi]):=by
 have hv:ah ctx 71 [.sl b.length (b.flatMap jM),.sl 1 [.sl r.terms.length (r.terms.flatMap kG),.int .i64 r.bound]] (.bool (fQ b [r])):=sR b [r] hb (by simp) fun x hx=>by simp at hx;subst hx;exact hr
 by_cases hc:fQ b [r]=true∧0≤c∧c<b.length
 ·have ht:=xg b r c hc.1 hc.2.1 hc.2.2;rw[show jw r b c=gY r b c by rw[jw,if_pos hc]];rw[hc.1]at hv;obtain⟨-,c1,c2⟩:=hc;generalize gY r b c=x at *;unfold au ae at ht;refine ar (C:=ctx) (Fn.of zB rfl) rfl ?_;unfold c107;repeat' (first
   |((with_reducible show aH _);first|exact True.intro|(simp only[vb,lb,hv,ht,c1,c2];and_intros<;>first|omega|(simp<;>omega)))
   |((with_reducible show aP _);first|exact True.intro|((try dsimp only[go_sem]);(simp[vb,hv,ht,c1,c2]<;>omega)))
   |exact(rfl:some _=_)
   |(
    fail_if_success refine a7 ?_
    refine iF [(71,fun _=>some (.bool true)),(129,fun _=>some (.agg [.int .i64 x.lo,.int .i64 x.hi]))] ?_;repeat1' dsimp only[c107,au,ae,go_sem]
    first
    |refine a8 ?_ ?_ rfl ?_
    |apply ba
    |apply bc
    |(refine bf (fun hc=>?_) fun hc=>?_<;>first|(cases hc;done)|(exfalso;(simp at hc<;>omega))|(try simp only[bn]at hc;try contradiction))
    |skip))
 ·rw[show jw r b c=zr by rw[jw,if_neg hc]];generalize fQ b [r]=q at *;cases q with
  |false =>
   refine ar (C:=ctx) (Fn.of zB rfl) rfl ?_;unfold c107;repeat' (first
    |((with_reducible show aH _);first|exact True.intro|(simp only[vb,lb,hv];and_intros<;>first|omega|(simp<;>omega)))
    |((with_reducible show aP _);first|exact True.intro|((try dsimp only[go_sem]);(simp[vb,hv]<;>omega)))
    |exact(rfl:some _=_)
    |(
     fail_if_success refine a7 ?_
     refine iF [(71,fun _=>some (.bool false))] ?_;repeat1' dsimp only[c107,au,ae,go_sem]
     first
     |refine a8 ?_ ?_ rfl ?_
     |apply ba
     |apply bc
     |(refine bf (fun hc=>?_) fun hc=>?_<;>first|(cases hc;done)|(try simp only[bn]at hc;try contradiction))
     |skip))
  |true =>
   have hn:¬(0≤c∧c<b.length):=fun h=>hc ⟨rfl,h⟩
   clear hc;refine ar (C:=ctx) (Fn.of zB rfl) rfl ?_;unfold c107;repeat' (first
    |((with_reducible show aH _);first|exact True.intro|(simp only[vb,lb,hv];and_intros<;>first|omega|(simp<;>omega)))
    |((with_reducible show aP _);first|exact True.intro|((try dsimp only[go_sem]);(simp[vb,hv]<;>omega)))
    |exact(rfl:some _=_)
    |(
     fail_if_success refine a7 ?_
     refine iF [(71,fun _=>some (.bool true))] ?_;repeat1' dsimp only[c107,au,ae,go_sem]
     first
     |refine a8 ?_ ?_ rfl ?_
     |apply ba
     |apply bc
     |(refine bf (fun hc=>?_) fun hc=>?_<;>first|(cases hc;done)|(exfalso;(simp at hc<;>omega))|(try simp only[bn]at hc;try contradiction))
     |skip))
end
section
open Rf
def rh:List PV→Option (List bj)
 |[]=>some []
 | .int .i64 a::.int .i64 b::.int .i64 c::r=>match rh r with
  |some l=>some (⟨a,b,c⟩::l)
  |none=>none
 |_=>none
structure nj where
 k:Int
 s:List bj
 c:Int
 a:Int
 deriving DecidableEq
def yI:PV→Option nj
 | .agg [.int .i64 k,.sl n cs,.int .i64 c,.int .i64 a,.sl 0 []]=>match rh cs with
  |some s=>bif Nat.beq n s.length&&Nat.ble n 1000 then some ⟨k,s,c,a⟩ else none
  |none=>none
 |_=>none
def nj.t (x:nj):Tree:=.node x.k x.s x.c x.a []
theorem sV:∀(cs:List PV) (s:List bj),rh cs=some s→cs=s.flatMap aO
 |[],s,h=>by injection h with h;subst h;rfl
 |[.int .i64 _],_,h=>by cases h
 |[.int .i64 _,.int .i64 _],_,h=>by cases h
 | .int .i64 a::.int .i64 b::.int .i64 c::r,s,h=>by
  rw[rh]at h;split at h
  ·rename_i l hl;injection h with h
   subst h;rw[sV r l hl];rfl
  ·cases h
theorem Bg {p:PV} {x:nj} (h:yI p=some x):p=aI x.t∧wt x.t≤1000000000:=by
 unfold yI at h;split at h
 ·split at h
  ·rename_i s hs;rename_i k n cs c a _;cases hb:(Nat.beq n s.length&&Nat.ble n 1000) with
   |false=>rw[hb]at h;cases h
   |true =>
    rw[hb,cond_true]at h;injection h with h
    subst h;rw[Bool.and_eq_true]at hb;have h1:=Nat.eq_of_beq_eq_true hb.1;have h2:=Nat.le_of_ble_eq_true hb.2;subst h1;rw[sV cs s hs];refine⟨rfl,?_⟩;rw[nj.t,dI];simp[jG];omega
  ·cases h
 ·cases h
def qb (f:nj→Option PV):List PV→Option PV:=fun ps=>match ps.map (canon 3) with
 |[p]=>match yI p with
  |some x=>f x
  |none=>none
 |_=>none
theorem nD {g:FuncId} {f:nj→Option PV} (h:∀x r,wt x.t≤1000000000→f x=some r→ah ctx g [aI x.t] r) (ps:List PV) (r:PV) (hr:qb f ps=some r):ah ctx g ps r:=by
 unfold qb at hr;split at hr
 ·rename_i p hp;split at hr
  ·rename_i x hx;obtain⟨h1,h2⟩:=Bg hx;refine ah.n8 3 ?_;rw[hp,h1];exact h x r h2 hr
  ·cases hr
 ·cases hr
def Gi:nj:=⟨0,[⟨0,1,0⟩,⟨0,2,1⟩,⟨0,0,0⟩],0,0⟩
def Fy:List UInt8:=[114,111,119,32,49,32,48,10,114,111,119,32,50,32,49,10,114,111,119,32,48,32,48,10,99,108,111,115,101,100,10]
def GA:List UInt8:=[114,111,119,32,48,49,32,48,10,99,108,111,115,101,100,10]
def yJ (x:nj):Bool:=x.s.all bY&&Rf.gm x.k x.c x.a 0
theorem CY (x:nj):fK x.t=1:=by rw[nj.t,mU];rfl
theorem Gj (x:nj):ko x.t=x.s.length:=by rw[nj.t,mT];rfl
theorem um (x:nj) (h:x.s.length≤1000):iR x.t=yJ x:=by
 have hw:wt x.t=1+x.s.length:=by rw[nj.t,dI];rfl
 have d1:decide (fK x.t≤4096)=true:=by rw[CY];rfl
 have d2:decide (wt x.t≤65536)=true:=by rw[hw];simp;omega
 unfold iR;rw[d1,d2,nj.t,dU];simp[yJ]
theorem CZ:jx Gi.t=(Fy,0):=by
 have h1:fW Gi.t=Fy:=by
  rw[nj.t,jo];kernel_rfl
 unfold jx;rw[um Gi (by decide),h1];rfl
def EA:Tree:=.node 0 [⟨0,1,0⟩] 0 0 []
theorem Gk:iV GA=(zt,3):=by
 have h1:ky ((mo 10 GA).length+1) 1 (mo 10 GA)=some (EA,[[]]):=by kernel_rfl
 have h2:jx EA≠(GA,0):=by
  have h3:fW EA=[114,111,119,32,49,32,48,10,99,108,111,115,101,100,10]:=by
   rw[EA,jo];kernel_rfl
  unfold jx;rw[h3];intro h;split at h
  ·split at h
   ·cases h
   ·injection h with h _
    cases h
  ·cases h
 unfold iV;rw[if_neg (by decide),h1];simp only;rw[if_neg h2]
theorem Gl:iV Fy=(Gi.t,0):=by
 have h1:ky ((mo 10 Fy).length+1) 1 (mo 10 Fy)=some (Gi.t,[[]]):=by kernel_rfl
 unfold iV;rw[if_neg (by decide),h1];simp only;rw[if_pos CZ]
def H4:nU where
 fns:=zD
 pure:=[(13,qb fun x=>bif Nat.ble x.s.length 1000 then some (.bool (yJ x)) else none),(15,qb fun x=>some (.int .i64 x.s.length)),(17,qb fun _=>some (.int .i64 1)),
  (26,qb fun x=>if x=Gi then some (.tup [.str Fy,.int .i64 0]) else none),
  (28,fun ps=>match ps with
   |[.str s]=>if s=GA then some (.tup [.agg [.int .i64 0,.sl 0 [],.int .i64 0,.int .i64 0,.sl 0 []],.int .i64 3]) else
    if s=Fy then some (.tup [.agg [.int .i64 0,.sl 3 [.int .i64 0,.int .i64 1,.int .i64 0,.int .i64 0,.int .i64 2,.int .i64 1,.int .i64 0,.int .i64 0,.int .i64 0],.int .i64 0,.int .i64 0,.sl 0 []],.int .i64 0]) else none
   |_=>none)]
 ref:=[]
 mem:=[77]
theorem C0:lr ctx H4 where
 dz:=rfl
 fns g e h:=by
  have key:∀(l:List (Nat×Ho)),(∀p∈l,∃own,bK Tryz.prog p.1 own=some (p.2.x,p.2.rs,p.2.n,true))→kO l g=some e→∃own,bK Tryz.prog g own=some (e.x,e.rs,e.n,true):=by
   intro l;induction l with
   |nil=>intro _ h;cases h
   |cons p r ih =>
    obtain⟨k,y⟩:=p;intro hl h;rw[kO]at h;cases hk:Nat.beq k g with
    |true =>
     rw[hk,cond_true]at h;injection h with h
     subst h;have:=Nat.eq_of_beq_eq_true hk;subst this;exact hl (k,y) (by simp)
    |false =>
     rw[hk,cond_false]at h;exact ih (fun p hp=>hl p (by simp[hp])) h
  exact key zD CG h
 pure g s h ps r hr:=by
  have look:∀{k:Nat} {x:List PV→Option PV} {l:List (Nat×(List PV→Option PV))},kO ((k,x)::l) g=some s→(k=g∧x=s)∨kO l g=some s:=fun {k x l} h=>by
   rw[kO]at h;cases hk:Nat.beq k g with
   |true =>
    rw[hk,cond_true]at h;injection h with h
    exact .inl ⟨Nat.eq_of_beq_eq_true hk,h⟩
   |false =>
    rw[hk,cond_false]at h;exact .inr h
  rcases look h with⟨rfl,rfl⟩|h
  ·refine nD (fun x r hw h=>?_) ps r hr;cases hb:Nat.ble x.s.length 1000 with
   |false=>rw[hb]at h;cases h
   |true =>
    rw[hb,cond_true]at h;injection h with h
    subst h;rw[←um x (Nat.le_of_ble_eq_true hb)];exact sH x.t hw
  rcases look h with⟨rfl,rfl⟩|h
  ·refine nD (fun x r hw h=>?_) ps r hr;injection h with h
   subst h;have:=CK x.t hw;rw[Gj]at this;exact this
  rcases look h with⟨rfl,rfl⟩|h
  ·refine nD (fun x r hw h=>?_) ps r hr;injection h with h
   subst h;have:=CL x.t hw;rw[CY]at this;exact this
  rcases look h with⟨rfl,rfl⟩|h
  ·refine nD (fun x r hw h=>?_) ps r hr;split at h
   ·rename_i he;subst he;injection h with h
    subst h;have:=ui Gi.t hw;rw[CZ]at this;exact this
   ·cases h
  rcases look h with⟨rfl,rfl⟩|h
  ·dsimp only at hr;split at hr
   ·split at hr
    ·rename_i he;subst he;injection hr with hr
     subst hr;have:=xf GA (by decide);rw[Gk]at this;exact this
    ·split at hr
     ·rename_i he;subst he;injection hr with hr
      subst hr;have:=xf Fy (by decide);rw[Gl]at this;exact this
     ·cases hr
   ·cases hr
  ·cases h
 ref g s h:=by cases h
end
section
open Rf
set_option maxRecDepth 100000 in
theorem Bh:zb H4 (run H4 2000) 11 []=some (.bool true):=by kernel_rfl
theorem C1:ah ctx 11 [] (.bool true):=wc C0 (BS C0 2000) Bh
end
end Pur
end
section
namespace Rf
structure zO (s:Sy):Prop where
 b:s.box.length≤1000000000
 r:s.rows.length≤1000000000
 g:s.graphs.length≤1000000000
 c:s.cases.length≤1000000000
 rt:∀x∈s.rows,x.terms.length≤1000000000
 gl:∀x∈s.graphs,x.least.length≤1000000000
 cl:∀l∈s.cases,l.length≤1000000000
 ct:∀l∈s.cases,∀x∈l,x.terms.length≤1000000000
theorem sW {n:Int} (h1:1≤n) (h2:n≤6):1≤n*n∧n*n≤36:=by
 have:n=1∨n=2∨n=3∨n=4∨n=5∨n=6:=by omega
 rcases this with rfl|rfl|rfl|rfl|rfl|rfl<;>decide
end Rf
namespace Pur
open Go.RowKit
attribute [local go_sem] bI fa bR bu cS gf List.map aX aG get put tmpsOf dF iW gF iG conds ev cond_true cond_false Nat.beq Nat.ble Nat.add quiet dG cf cF pn List.append_eq List.nil_append List.cons_append dE cy cz cA cB cC cD fg eY dv jb dH calm quiet.isCallK cH List.getElem?_cons_zero List.getElem?_cons_succ bp b6 cellsOf List.all bC List.length_cons List.length_nil eP a6 List.drop List.take List.getD Option.getD_some qR qS qF qT qU qV eB gC eC eD setAt List.set Nat.reduceAdd Nat.reduceMul b9 bw refsOf bG bM scalar cd ef bL ca aN after freeze im gT aS dx dQ dt eH c6 c7 cj da db de dh di dj dk dm dn dp dq ck cp cu dw jc bytesOf bH cU aQ bD dS bA bT cI still bW ed dy dW bP eI List.isEmpty cv cw cx Int.reduceToNat Nat.mul_one Nat.reduceSub oM cV b7 dK cG look dL strip guarded fV eK eO cK dV cY hJ dc dd Bool.or_false Bool.or_true Bool.and_true Bool.and_false Nat.blt gg fx gq dD idxOf gU gV iX eV aN mI
open Rf
def C2 (s:Sy):fw:=⟨[.pv (ae s.box),.pv (ax s.rows),.pv (aE s.graphs),.pv (aA s.cases)],0,4,36,false⟩
theorem Bi (k:Int):ah ctx 104 [.int .i64 k] (.bool (!gE k)):=by
 refine ar (C:=ctx) (Fn.of Fe rfl) rfl ?_;unfold Ee;repeat' (first
  |((with_reducible show aH _);exact True.intro)
  |((with_reducible show aP _);first|exact True.intro|((try dsimp only[go_sem]);(simp[vb]<;>omega)))
  |exact(rfl:some _=_)
  |(
   fail_if_success refine a7 ?_
   refine aV ?_;repeat1' dsimp only[Ee,go_sem]
   first
   |refine a8 ?_ ?_ rfl ?_
   |apply ba
   |apply bc
   |(refine bf (fun hc=>?_) fun hc=>?_<;>first|(cases hc;done)|(try simp only[bn]at hc;try contradiction))
   |skip))
 simp[gE,aK,y5];rw[←decide_not,←decide_not];congr 1<;>exact decide_eq_decide.mpr (by omega)
set_option maxHeartbeats 4000000 in
theorem C3 (n:Int) (g:Gr) (hn:0≤n) (hn2:n≤1000000000) (hg:g.least.length≤1000000000):ah ctx 74 [.int .i64 n,.agg [.int .i64 g.first,.int .i64 g.size,aa g.least]] (.bool (bX n g)):=by
 have hl:=A6 104 g.least hg (fun k=>!gE k) fun k _=>Bi k
 have e:g.least.all gE= !(g.least.any fun k=>!gE k):=by simp[List.any_eq_not_all_not]
 unfold bX;rw[e];clear e;generalize (g.least.any fun k=>!gE k)=q at *;obtain⟨fi,sz,le⟩:=g;simp only at *;unfold aa at hl;by_cases h:1≤sz∧sz≤6
 ·obtain⟨q1,q2⟩:=sW h.1 h.2;rw[show aK sz 1 6=true by simp[aK,h],Bool.true_and];by_cases h2:0≤fi∧fi≤n-sz*sz∧(le.length:Int)=sz*sz
  ·rw[decide_eq_true h2.1,decide_eq_true h2.2.1,decide_eq_true h2.2.2];refine ar (C:=ctx) (Fn.of D9 rfl) rfl ?_;unfold E7;repeat' (first
    |((with_reducible show aH _);first|exact True.intro|(simp only[vb,lb,hl,h,h2,q1,q2];and_intros<;>first|omega|(simp<;>omega)))
    |((with_reducible show aP _);first|exact True.intro|((try dsimp only[go_sem]);(simp[vb,hl,h,h2,q1,q2]<;>omega)))
    |exact(rfl:some _=_)
    |(
     fail_if_success refine a7 ?_
     refine iF [(103,fun _=>some (.bool q))] ?_;repeat1' dsimp only[E7,aa,go_sem]
     first
     |refine a8 ?_ ?_ rfl ?_
     |apply ba
     |apply bc
     |(refine bf (fun hc=>?_) fun hc=>?_<;>first|(cases hc;done)|(exfalso;(simp at hc<;>omega))|(try simp only[bn]at hc;try contradiction))
     |skip))
  ·have hr:(decide (0≤fi)&&decide (fi≤n-sz*sz)&&decide ((le.length:Int)=sz*sz))=false:=by
    rw[Bool.eq_false_iff];simp only[ne_eq,Bool.and_eq_true,decide_eq_true_eq];omega
   rw[hr];refine ar (C:=ctx) (Fn.of D9 rfl) rfl ?_;unfold E7;repeat' (first
    |((with_reducible show aH _);first|exact True.intro|(simp only[vb,lb,hl,h,h2,q1,q2];and_intros<;>first|omega|(simp<;>omega)))
    |((with_reducible show aP _);first|exact True.intro|((try dsimp only[go_sem]);(simp[vb,hl,h,h2,q1,q2]<;>omega)))
    |exact(rfl:some _=_)
    |(
     fail_if_success refine a7 ?_
     refine iF [(103,fun _=>some (.bool q))] ?_;repeat1' dsimp only[E7,aa,go_sem]
     first
     |refine a8 ?_ ?_ rfl ?_
     |apply ba
     |apply bc
     |(refine bf (fun hc=>?_) fun hc=>?_<;>first|(cases hc;done)|(exfalso;(simp at hc<;>omega))|(try simp only[bn]at hc;try contradiction))
     |skip))
 ·rw[show aK sz 1 6=false by simp[aK];omega];refine ar (C:=ctx) (Fn.of D9 rfl) rfl ?_;unfold E7;repeat' (first
   |((with_reducible show aH _);first|exact True.intro|(simp only[vb,lb,hl,h];and_intros<;>first|omega|(simp<;>omega)))
   |((with_reducible show aP _);first|exact True.intro|((try dsimp only[go_sem]);(simp[vb,hl,h]<;>omega)))
   |exact(rfl:some _=_)
   |(
    fail_if_success refine a7 ?_
    refine iF [(103,fun _=>some (.bool q))] ?_;repeat1' dsimp only[E7,aa,go_sem]
    first
    |refine a8 ?_ ?_ rfl ?_
    |apply ba
    |apply bc
    |(refine bf (fun hc=>?_) fun hc=>?_<;>first|(cases hc;done)|(exfalso;(simp at hc<;>omega))|(try simp only[bn]at hc;try contradiction))
    |skip))
theorem zP (s:Sy) (l:List Rw) (most:Int) (hb:s.box.length≤1000000000) (hl:l.length≤1000000000) (ht:∀x∈l,x.terms.length≤1000000000) :
  ah ctx 73 [.agg [ae s.box,ax s.rows,aE s.graphs,aA s.cases],ax l,.int .i64 most] (.bool (decide ((l.length:Int)≤most)&&fQ s.box l)):=by
 have hv:=sR s.box l hb hl ht;generalize fQ s.box l=q at *;unfold ae ax at hv;refine ar (C:=ctx) (Fn.of GR rfl) rfl ?_;unfold Hs;repeat' (first
  |((with_reducible show aH _);exact True.intro)
  |((with_reducible show aP _);first|exact True.intro|((try dsimp only[go_sem]);(simp[vb,hv]<;>omega)))
  |exact(rfl:some _=_)
  |(
   fail_if_success refine a7 ?_
   refine iF [(71,fun _=>some (.bool q))] ?_;repeat1' dsimp only[Hs,ae,ax,aE,aA,go_sem]
   first
   |refine a8 ?_ ?_ rfl ?_
   |apply ba
   |apply bc
   |(refine bf (fun hc=>?_) fun hc=>?_<;>first|(cases hc;done)|(try simp only[bn]at hc;try contradiction))
   |skip))
 rw[lq]
theorem yK (s:Sy) (hs:zO s) (l:List Rw) (hl:l.length≤1000000000) (ht:∀x∈l,x.terms.length≤1000000000) :
  aJ ctx 76 [.pv (ax l),.ptr 0 0 0] [C2 s] (.pv (.bool (!gy s.box l))) [C2 s]:=by
 have hr:=zP s l 64 hs.b hl ht;have e:gy s.box l=(decide ((l.length:Int)≤64)&&fQ s.box l):=by
  unfold gy;congr 1;exact decide_eq_decide.mpr (by omega)
 rw[e];generalize (decide ((l.length:Int)≤64)&&fQ s.box l)=q at *;unfold ae ax aE aA at hr;refine bq (C:=ctx) (Fn.of GU rfl) rfl (by simp) rfl rfl ?_;unfold c76 C2;repeat' (first
  |((with_reducible show aH _);first|exact True.intro|(simp only[vb,lb,hr];and_intros<;>first|omega|(simp<;>omega)))
  |((with_reducible show aP _);first|exact True.intro|((try dsimp only[go_sem]);(simp[vb,hr]<;>omega)))
  |exact(rfl:some _=_)
  |(
   fail_if_success refine a7 ?_
   refine iF [(73,fun _=>some (.bool q))] ?_;repeat1' dsimp only[c76,ae,ax,aE,aA,go_sem]
   first
   |refine a8 ?_ ?_ rfl ?_
   |apply ba
   |apply bc
   |(refine bf (fun hc=>?_) fun hc=>?_<;>first|(cases hc;done)|(try simp only[bn]at hc;try contradiction))
   |skip))
 all_goals exact⟨⟨trivial,rfl⟩,_,rfl⟩
set_option maxHeartbeats 4000000 in
theorem xh (s:Sy) (hs:zO s):ah ctx 46 [.agg [ae s.box,ax s.rows,aE s.graphs,aA s.cases]] (.bool (gJ s)):=by
 have h1:=Bc s.box hs.b;have h2:=w7 s.box hs.b;have h3:=zP s s.rows 1024 hs.b hs.r hs.rt;have h4:=CI 76 [C2 s] rfl 0 (by simp) s.cases hs.c (fun l=>!gy s.box l) fun l hl=>yK s hs l (hs.cl l hl) (hs.ct l hl)
 have e:s.cases.all (gy s.box)= !(s.cases.any fun l=>!gy s.box l):=by simp[List.any_eq_not_all_not]
 have f1:=ra s.graphs;have hgr:=fun g hg=>C3 s.box.length g (by omega) (by have:=hs.b;omega) (hs.gl g hg)
 have hsg:=hs.g;have hsc:=hs.c;have hsb:=hs.b;have e2:gJ s=(eh s.box&& !cX s.box&&(decide ((s.rows.length:Int)≤1024)&&fQ s.box s.rows)&&decide (s.graphs.length≤64)&&decide (s.cases.length≤1024)&&s.graphs.all (bX s.box.length)&&s.cases.all (gy s.box)):=by
  have:fQ s.box s.rows=(eh s.box&&fQ s.box s.rows):=by unfold fQ;cases eh s.box<;>simp
  rw[gJ,this];have:decide ((s.rows.length:Int)≤1024)=decide (s.rows.length≤1024):=decide_eq_decide.mpr (by omega);rw[this];cases eh s.box<;>cases fQ s.box s.rows<;>cases cX s.box<;>cases decide (s.rows.length≤1024)<;>rfl
 rw[e2,e];clear e e2;generalize (s.cases.any fun l=>!gy s.box l)=q4 at *;generalize (decide ((s.rows.length:Int)≤1024)&&fQ s.box s.rows)=q3 at *;generalize cX s.box=q2 at *;generalize eh s.box=q1 at *;obtain⟨b,rs,gs,cs⟩:=s;simp only at *;clear hs;unfold C2 ae ax aE aA at h4;unfold ae at h1 h2;unfold ae ax aE aA at h3;refine ar (C:=ctx) (Fn.of GP rfl) rfl ?_;unfold c46;repeat' (first
  |((with_reducible show aH _);first|exact True.intro|(simp only[vb,lb,h1,h2,h3];and_intros<;>first|omega|(simp<;>omega)))
  |((with_reducible show aP _);first|exact True.intro|((try dsimp only[go_sem]);(simp[vb,h1,h2,h3]<;>omega)))
  |exact(rfl:some _=_)
  |(
   fail_if_success refine a7 ?_
   refine iF [(71,fun _=>some (.bool q1)),(72,fun _=>some (.bool q2)),(73,fun _=>some (.bool q3))] ?_;repeat1' dsimp only[c46,ae,ax,aE,aA,go_sem]
   first
   |refine a8 ?_ ?_ rfl ?_
   |apply ba
   |apply bc
   |(refine bf (fun hc=>?_) fun hc=>?_<;>first|(cases hc;done)|(try simp only[bn]at hc;try contradiction))
   |skip))
 ·have hr:(q1&& !q2&&q3&&decide (gs.length≤64)&&decide (cs.length≤1024))=false:=by
   rw[Bool.eq_false_iff];simp only[ne_eq,Bool.and_eq_true,decide_eq_true_eq,Bool.not_eq_true'];rintro⟨⟨⟨⟨a,b⟩,c⟩,d⟩,e⟩;subst a b c;simp at hc;omega
  rw[hr];rfl
 ·have hr:(q1&& !q2&&q3&&decide (gs.length≤64)&&decide (cs.length≤1024))=true:=by
   simp only[Bool.and_eq_true,decide_eq_true_eq,Bool.not_eq_true'];obtain⟨⟨⟨⟨a,b⟩,c⟩,d⟩,e⟩:=hc;exact⟨⟨⟨⟨a,b⟩,c⟩,by omega⟩,by omega⟩
  rw[hr,Bool.true_and];clear h1 h2 h3 hc hr;refine bF gs.length (fun k=>(gs.take k).all (bX b.length)=true) (fun k=>[(1,.ptr 0 0 0),(34,.pv (aE gs)),(35,.pv (.int .i64 gs.length)),(36,.pv (.int .i64 k))]) (fun _=>[⟨[.pv (ae b),.pv (ax rs),.pv (aE gs),.pv (aA cs)],0,4,36,false⟩]) rfl (by (repeat' (first|exact trivial|refine And.intro (by first|rfl|(simp[get,Nat.beq];done)|(simp[get,Nat.beq];omega)|(dsimp only[get];congr 1<;>first|rfl|omega|(simp;done)|(simp;omega))) ?_))) ⟨_,rfl⟩ (fun _=>⟨Nat.zero_le _,rfl,rfl⟩) fun k hk hP=>?_
  by_cases hlt:k<gs.length
  ·have e:=dC nC gs k zg hlt;have i1:=ew (bX b.length) gs k zg hlt;have i2:=l5 (bX b.length) gs k zg hlt;have hx:=hgr _ (aT (d:=zg) hlt);rw[i1,hP,Bool.true_and];clear i1 hgr;generalize gs.getD k zg=x at *;generalize bX b.length x=qx at *;unfold aa at hx;repeat' (first
    |((with_reducible show aH _);first|exact True.intro|(simp only[vb,lb,e,f1,hlt,hx,eX,aa];and_intros<;>first|omega|(simp<;>omega)))
    |((with_reducible show aP _);first|exact True.intro|((try dsimp only[go_sem]);(simp[vb,e,f1,hlt,hx,eX,aa]<;>omega)))
    |exact(rfl:some _=_)
    |(
     fail_if_success refine a7 ?_
     refine eW [(74,fun _=>some (.bool qx))] [(39,{val:=some (.pv (.agg [.int .i64 x.first,.int .i64 x.size,.sl x.least.length (x.least.flatMap bS)]))})] ?_;repeat1' dsimp only[c46,ae,ax,aE,aA,go_sem]
     first
     |refine a8 ?_ ?_ rfl ?_
     |apply ba
     |apply bc
     |(refine bf (fun hc=>?_) fun hc=>?_<;>first|(cases hc;done)|(exfalso;(simp at hc<;>omega))|(try simp only[bn]at hc;try contradiction))
     |skip))
   ·rw[i2 hc];rfl
   ·exact⟨hlt,hc,by (repeat' (first|exact trivial|refine And.intro (by first|rfl|(simp[get,Nat.beq];done)|(simp[get,Nat.beq];omega)|(dsimp only[get];congr 1<;>first|rfl|omega|(simp;done)|(simp;omega))) ?_)),_,rfl⟩
  ·obtain rfl:k=gs.length:=by omega
   rw[List.take_length]at hP;rw[hP,Bool.true_and];repeat' (first
    |((with_reducible show aH _);first|exact True.intro|(simp only[vb,lb,hlt,h4];and_intros<;>first|omega|(simp<;>omega)))
    |((with_reducible show aP _);first|exact True.intro|((try dsimp only[go_sem]);(simp[vb,hlt,h4]<;>omega)))
    |exact(rfl:some _=_)
    |(
     fail_if_success refine a7 ?_
     refine bJ [(50,{val:=some (.pv (.bool q4)),ro:=true})] ?_;repeat1' dsimp only[c46,ae,ax,aE,aA,go_sem]
     first
     |refine a8 ?_ ?_ rfl ?_
     |apply ba
     |apply bc
     |(refine bf (fun hc=>?_) fun hc=>?_<;>first|(cases hc;done)|(exfalso;(simp at hc<;>omega))|(try simp only[bn]at hc;try contradiction))
     |skip))
end Pur
end
section
namespace Rf
theorem vo (g:Gr) (b:List Rg):(gK g b).length=g.least.length:=by simp[gK]
theorem qw (g:Gr) (b:List Rg) (j:Nat) (h:j<g.least.length):(gK g b).getD j false=decide (g.least.getD j 0≤(b.getD (g.first.toNat+j) zr).lo):=by
 simp[gK,List.getD,h]
open Classical in
theorem yL (n:Nat) (l:List Bool) (u v:Nat):vg n l u v=true↔Reach n (ey n l) u v:=by
 unfold vg;rw[decide_eq_true_eq]
def nk (l:List Bool) (k:Nat):List Bool:=l.take k++List.replicate (l.length-k) false
theorem Bj (l:List Bool) (k:Nat) (h:k≤l.length):(nk l k).length=l.length:=by simp[nk];omega
theorem Bk (l:List Bool) (k:Nat) (h:k<l.length):(nk l k).set k (l.getD k false)=nk l (k+1):=by
 have h1:(l.take k).length=k:=by simp;omega
 have h2:l.length-k=(l.length-(k+1))+1:=by omega
 unfold nk;rw[h2,List.replicate_succ,List.set_append_right _ _ (by omega),h1,Nat.sub_self,List.set_cons_zero,Pur.bz l k false h,List.append_assoc];rfl
theorem Bl (l:List Bool):nk l l.length=l:=by simp[nk]
theorem yM (l:List Bool):nk l 0=List.replicate l.length false:=by simp[nk]
end Rf
namespace Pur
open Go.RowKit
attribute [local go_sem] bI fa bR bu cS gf List.map aX aG get put tmpsOf dF iW gF iG conds ev cond_true cond_false Nat.beq Nat.ble Nat.add quiet dG cf cF pn List.append_eq List.nil_append List.cons_append dE cy cz cA cB cC cD fg eY dv jb dH calm quiet.isCallK cH List.getElem?_cons_zero List.getElem?_cons_succ bp b6 cellsOf List.all bC List.length_cons List.length_nil eP a6 List.drop List.take List.getD Option.getD_some qR qS qF qT qU qV eB gC eC eD setAt List.set Nat.reduceAdd Nat.reduceMul b9 bw refsOf bG bM scalar cd ef bL ca aN after freeze im gT aS dx dQ dt eH c6 c7 cj da db de dh di dj dk dm dn dp dq ck cp cu dw jc bytesOf bH cU aQ bD dS bA bT cI still bW ed dy dW bP eI List.isEmpty cv cw cx Int.reduceToNat Nat.mul_one Nat.reduceSub oM cV b7 dK cG look dL strip guarded fV eK eO cK dV cY hJ dc dd Bool.or_false Bool.or_true Bool.and_true Bool.and_false Nat.blt gg fx gq dD idxOf gU gV iX eV aN mI
open Rf
theorem EB (n:Nat) (es:List Bool) (hn:1≤n) (hn2:n≤6) (hlen:es.length=n*n):ah ctx 145 [.int .i64 n,bE es] (.tup [.agg [.int .i64 n,bE es],.bool true]):=by
 have hs:=sW (n:=(n:Int)) (by omega) (by omega);have hl:(es.length:Int)=(n:Int)*n:=by rw[hlen];simp
 refine ar (C:=ctx) (Fn.of Fm rfl) rfl ?_;unfold c145;repeat' (first
  |((with_reducible show aH _);first|exact True.intro|(simp only[vb,lb,hs,hl,hn,hn2];and_intros<;>first|omega|(simp<;>omega)))
  |((with_reducible show aP _);first|exact True.intro|((try dsimp only[go_sem]);(simp[vb,hs,hl,hn,hn2]<;>omega)))
  |exact(rfl:some _=_)
  |(
   fail_if_success refine a7 ?_
   refine aV ?_;repeat1' dsimp only[c145,bE,go_sem]
   first
   |refine a8 ?_ ?_ rfl ?_
   |apply ba
   |apply bc
   |(refine bf (fun hc=>?_) fun hc=>?_<;>first|(cases hc;done)|(try simp only[bn]at hc;try contradiction))
   |skip))
 simp;omega
theorem C4 (n:Nat) (es:List Bool) (fr tg:Nat) (hn:1≤n) (hn2:n≤6) (hlen:es.length=n*n) (hf:fr<n) (ht:tg<n) :
  ah ctx 128 [.int .i64 n,bE es,.int .i64 fr,.int .i64 tg] (yG (oX n (ey n es) tg (n+2) [[(fr:Int)]] (jH n fr))):=by
 have h1:=EB n es hn hn2 hlen;have h2:=CS n es fr tg hlen hn2 hf ht;generalize hr:yG (oX n (ey n es) tg (n+2) [[(fr:Int)]] (jH n fr))=r at *;unfold bE at h1 h2;refine ar (C:=ctx) (Fn.of Fl rfl) rfl ?_;unfold Ef;repeat' (first
  |((with_reducible show aH _);first|exact True.intro|(simp only[vb,lb,h1,h2,hf,ht];and_intros<;>first|omega|(simp<;>omega)))
  |((with_reducible show aP _);first|exact True.intro|((try dsimp only[go_sem]);(simp[vb,h1,h2,hf,ht]<;>omega)))
  |exact(rfl:some _=_)
  |(
   fail_if_success refine a7 ?_
   refine iF [(145,fun _=>some (.tup [.agg [.int .i64 n,.sl es.length (es.flatMap dT)],.bool true])),(146,fun _=>some r)] ?_;repeat1' dsimp only[Ef,bE,go_sem]
   first
   |refine a8 ?_ ?_ rfl ?_
   |apply ba
   |apply bc
   |(refine bf (fun hc=>?_) fun hc=>?_<;>first|(cases hc;done)|(exfalso;(simp at hc<;>omega))|(try simp only[bn]at hc;try contradiction))
   |skip))
def jL (s:Sy) (rows:List Rw) (b:List Rg) (ch:Bool):List PV:=[ae s.box,ax s.rows,aE s.graphs,aA s.cases,ax rows,ae b,.bool ch]
theorem oo (b:List Rg) (i:Nat) (h:i<b.length):(b.flatMap jM)[i*2]?.getD default= .int .i64 (b.getD i zr).lo:=by
 have:=bZ iS b i zr 0 h (by omega);rw[Nat.add_zero]at this;rw[this];rfl
theorem zQ (l:List Bool) (k:Nat) (v:Bool):((l.flatMap dT).map AV.pv).set k (.pv (.bool v))=((l.set k v).flatMap dT).map AV.pv:=by
 rw[ni,ni,List.map_set,List.map_set]
theorem C5 (l:List Int):∃q:Bool,(q=true↔l≠[])∧((l=[]∧yG l= .nilsl∧q=false)∨(∃n c,yG l= .sl (n+1) c∧q=true)):=by
 cases l with
 |nil=>exact⟨false,by simp,.inl ⟨rfl,rfl,rfl⟩⟩
 |cons x r=>exact⟨true,by simp,.inr ⟨r.length,_,rfl,rfl⟩⟩
set_option maxHeartbeats 4000000 in
theorem Bm (s : Sy) (rows : List Rw) (b : List Rg) (ch : Bool) (g : Gr) (k : Nat) (hg : bX b.length g = true) (hb : b.length ≤ 1000000000) (hk : k < g.least.length) :
    ah ctx 106 [.agg (jL s rows b ch), .agg [.int .i64 g.first, .int .i64 g.size, aa g.least], .int .i64 k] (.bool (kS g b k)) := by
  simp only [bX, aK, Bool.and_eq_true, decide_eq_true_eq] at hg
  obtain ⟨⟨⟨⟨⟨g1, g2⟩, g3⟩, g4⟩, g5⟩, g6⟩ := hg
  have hsq := sW g1 g2
  obtain ⟨n, hn⟩ : ∃ n : Nat, g.size = n := ⟨g.size.toNat, by omega⟩
  obtain ⟨fi, hfi⟩ : ∃ fi : Nat, g.first = fi := ⟨g.first.toNat, by omega⟩
  have hlen : g.least.length = n * n := by rw [hn] at g5; have : (n : Int) * n = ((n * n : Nat) : Int) := by simp
                                           omega
  have hpl := vo g b
  have hn1 : 0 < n := by omega
  have hpa := C4 n (gK g b) (k % n) (k / n) (by omega) (by omega) (by omega) (Nat.mod_lt _ hn1) (by rw [Nat.div_lt_iff_lt_mul hn1]; omega)
  have hcl : kS g b k = true ↔ oX n (ey n (gK g b)) (k / n) (n + 2) [[((k % n : Nat) : Int)]] (jH n (k % n)) ≠ [] := by
    unfold kS
    rw [hn, yL, FQ (Nat.mod_lt _ hn1)]
    rfl
  generalize hrs : oX n (ey n (gK g b)) (k / n) (n + 2) [[((k % n : Nat) : Int)]] (jH n (k % n)) = res at *
  generalize kS g b k = q at *
  have hat := qw g b
  have f1 := cJ g.least
  have f2 := du b
  have f4 := oi g.least.length
  have f5 : (dy [.bool false] g.least.length).length = g.least.length := by rw [f4, eN]; simp
  obtain ⟨_, _, le⟩ := g
  simp only at *
  subst hn hfi
  generalize gK ⟨fi, n, le⟩ b = ps at *
  simp only [jL]
  refine ar (C := ctx) (Fn.of Fg rfl) rfl ?_
  unfold yA
  repeat' (first
    | ((with_reducible show aH _); first | exact True.intro | (simp only [vb, lb, f5]; and_intros <;> first | omega | (simp <;> omega)))
    | ((with_reducible show aP _); exact True.intro)
    | exact (rfl : some _ = _)
    | (
      fail_if_success refine a7 ?_
      refine aV ?_
      repeat1' dsimp only [yA, aa, ae, ax, aE, aA, go_sem]
      first
      | refine a8 ?_ ?_ rfl ?_
      | apply ba
      | apply bc
      | (refine bf (fun hc => ?_) fun hc => ?_ <;> first | (cases hc; done) | (try simp only [bn] at hc; try contradiction))
      | skip))
  refine bF le.length (fun _ => True) (fun j => [(2, .pv (.int .i64 k)), (3, .ptr 0 0 0), (4, .ptr 1 0 0), (7, .ref 2 0 0 le.length), (15, .pv (aa le)), (16, .pv (.int .i64 le.length)), (17, .pv (.int .i64 j))])
    (fun j => [⟨[.pv (ae s.box), .pv (ax s.rows), .pv (aE s.graphs), .pv (aA s.cases), .pv (ax rows), .pv (ae b), .pv (.bool ch)], 0, 7, 73, false⟩, ⟨[.pv (.int .i64 fi), .pv (.int .i64 n), .pv (aa le)], 0, 3, 99, false⟩, ⟨((nk ps j).flatMap dT).map .pv, 0, 1, 4, false⟩]) trivial (by (repeat' (first | exact trivial | refine And.intro (by first | rfl | (simp [get, Nat.beq]; done) | (simp [get, Nat.beq]; omega) | (dsimp only [get]; congr 1 <;> first | rfl | omega | (simp; done) | (simp; omega))) ?_))) ⟨[], ?_⟩ (fun j => ⟨Nat.zero_le _, rfl, by simp [aM, dA]⟩) fun j hj _ => ?_
  · rw [yM, hpl, ← f4]
    simp [ae, ax, aE, aA, aa]
  by_cases hlt : j < le.length
  · have e1 := iu (g := bS) (fun _ => rfl) le j 0 default hlt
    have e2 := oo b (fi + j) (by omega)
    have e3 := hat j hlt
    have e4 := Bk ps j (by omega)
    have e5 := Bj ps j (by omega)
    have e6 : ((fi : Int) + (j : Int)) = ((fi + j : Nat) : Int) := by simp
    have e7 := eN (nk ps j)
    have hlt2 : fi + j < b.length := by omega
    rw [Int.toNat_natCast] at e3
    rw [e3] at e4
    generalize le.getD j 0 = lj at *
    generalize (b.getD (fi + j) zr).lo = lo at *
    repeat' (first
      | ((with_reducible show aH _); first | exact True.intro | (simp only [vb, lb, e1, e2, e5, e7, hlt, hlt2, hpl, f1, f2]; and_intros <;> first | omega | (simp <;> omega)))
      | ((with_reducible show aP _); first | exact True.intro | ((try dsimp only [go_sem]); (simp only [vb, and_true, true_implies]; (repeat' (first | (with_reducible assumption) | (with_reducible apply And.intro) | intro _ | ((fail_if_success (with_reducible show (_ : Int) ≤ _)); assumption))) <;> first | rfl | (simp only [ab, e1, e2, e5, e7, hlt, hlt2, hpl, f1, f2]; done))))
      | exact (rfl : some _ = _)
      | (
        fail_if_success refine a7 ?_
        refine bJ [(21, { val := some (.pv (.int .i64 lj)) }), (29, { val := some (.pv (.int .i64 (fi + j : Nat))) }), (32, { val := some (.pv (.int .i64 lo)) })] ?_
        repeat1' dsimp only [yA, aa, ae, ax, aE, aA, go_sem]
        first
        | refine a8 ?_ ?_ rfl ?_
        | apply ba
        | apply bc
        | (refine bf (fun hc => ?_) fun hc => ?_ <;> first | (cases hc; done) | (exfalso; (simp at hc <;> omega)) | (try simp only [bn] at hc; try contradiction))
        | skip))
    refine ⟨hlt, trivial, by (repeat' (first | exact trivial | refine And.intro (by first | rfl | (simp [get, Nat.beq]; done) | (simp [get, Nat.beq]; omega) | (dsimp only [get]; congr 1 <;> first | rfl | omega | (simp; done) | (simp; omega))) ?_)), [], ?_⟩
    rw [← e4, ← zQ]
    simp
  · obtain rfl : j = le.length := by omega
    rw [← hpl, Bl]
    unfold bE at hpa
    have f3 := eN ps
    have hz1 : ¬ n = 0 := by omega
    obtain ⟨q', hq', hqq⟩ := C5 res
    obtain rfl : q = q' := by rw [Bool.eq_iff_iff, hcl, hq']
    refine bO [(7, .ref 2 0 0 ps.length), (2, .pv (.int .i64 k)), (3, .ptr 0 0 0), (4, .ptr 1 0 0), (15, .pv (aa le)), (16, .pv (.int .i64 ps.length)), (17, .pv (.int .i64 ps.length))] (by (repeat' (first | exact trivial | refine And.intro (by first | rfl | (simp [get, Nat.beq]; done) | (simp [get, Nat.beq]; omega) | (dsimp only [get]; congr 1 <;> first | rfl | omega | (simp; done) | (simp; omega))) ?_))) ?_
    refine (r8 (μ := [_, _]) (ps := ps.flatMap dT) (n := ps.length) (g := 0) (t := 7) (sz := 1) (by simp [aM, dA]) (Nat.zero_le _) (by omega) f3 (fun _ => rfl) rfl ?_)
    rcases hqq with ⟨-, hr, rfl⟩ | ⟨m, c, hr, rfl⟩
    · rw [hr] at hpa
      repeat' (first
        | ((with_reducible show aH _); first | exact True.intro | (simp only [vb, lb, hn1, hpa, hz1]; and_intros <;> first | omega | (simp <;> omega)))
        | ((with_reducible show aP _); first | exact True.intro | ((try dsimp only [go_sem]); (simp only [vb, and_true, true_implies]; (repeat' (first | (with_reducible assumption) | (with_reducible apply And.intro) | intro _ | ((fail_if_success (with_reducible show (_ : Int) ≤ _)); assumption))) <;> rfl)))
        | exact (rfl : some _ = _)
        | (
          fail_if_success refine a7 ?_
          refine eW [(128, fun _ => some .nilsl)] [(43, { val := some (.pv (.int .i64 (k % n : Nat))) }), (47, { val := some (.pv (.int .i64 (k / n : Nat))) })] ?_
          repeat1' dsimp only [yA, bE, go_sem]
          first
          | refine a8 ?_ ?_ rfl ?_
          | apply ba
          | apply bc
          | (refine bf (fun hc => ?_) fun hc => ?_ <;> first | (cases hc; done) | (exfalso; (simp at hc <;> omega)) | (try simp only [bn] at hc; try contradiction))
          | skip))
    · rw [hr] at hpa
      repeat' (first
        | ((with_reducible show aH _); first | exact True.intro | (simp only [vb, lb, hn1, hpa, hz1]; and_intros <;> first | omega | (simp <;> omega)))
        | ((with_reducible show aP _); first | exact True.intro | ((try dsimp only [go_sem]); (simp only [vb, and_true, true_implies]; (repeat' (first | (with_reducible assumption) | (with_reducible apply And.intro) | intro _ | ((fail_if_success (with_reducible show (_ : Int) ≤ _)); assumption))) <;> rfl)))
        | exact (rfl : some _ = _)
        | (
          fail_if_success refine a7 ?_
          refine eW [(128, fun _ => some (.sl (m + 1) c))] [(43, { val := some (.pv (.int .i64 (k % n : Nat))) }), (47, { val := some (.pv (.int .i64 (k / n : Nat))) })] ?_
          repeat1' dsimp only [yA, bE, go_sem]
          first
          | refine a8 ?_ ?_ rfl ?_
          | apply ba
          | apply bc
          | (refine bf (fun hc => ?_) fun hc => ?_ <;> first | (cases hc; done) | (exfalso; (simp at hc <;> omega)) | (try simp only [bn] at hc; try contradiction))
          | skip))
      simp
end Pur
end
section
namespace Rf
open Pur (aK)
def qM (x y:Rg):Prop:=y.lo≤x.lo∧x.hi≤y.hi
structure pc (b b':List Rg):Prop where
 len:b.length=b'.length
 at_:∀k,k<b.length→qM (b.getD k zr) (b'.getD k zr)
structure Hb (r r':Rw):Prop where
 t:r.terms=r'.terms
 b:r.bound≤r'.bound
structure sX (l l':List Rw):Prop where
 len:l.length=l'.length
 at_:∀k,k<l.length→Hb (l.getD k zw) (l'.getD k zw)
theorem qM.refl (x:Rg):qM x x:=⟨Int.le_refl _,Int.le_refl _⟩
theorem pc.refl (b:List Rg):pc b b:=⟨rfl,fun _ _=>qM.refl _⟩
theorem sX.refl (l:List Rw):sX l l:=⟨rfl,fun _ _=>⟨rfl,Int.le_refl _⟩⟩
theorem pd {α:Type} (l:List α) (k:Nat) (d:α) (h:¬k<l.length):l.getD k d=d:=by
 rw[List.getD,List.getElem?_eq_none (by omega)];rfl
theorem pc.all {b b':List Rg} (h:pc b b') (k:Nat):qM (b.getD k zr) (b'.getD k zr):=by
 by_cases hk:k<b.length
 ·exact h.at_ k hk
 ·rw[pd b k zr hk,pd b' k zr (by rw[←h.len];exact hk)];exact qM.refl _
theorem qc {b:List Rg} {c k:Nat} {x:Rg} (hc:c<b.length):(b.set c x).getD k zr=if k=c then x else b.getD k zr:=by
 rw[List.getD,List.getD];by_cases h:c=k
 ·subst h;simp[hc]
 ·rw[List.getElem?_set_ne h,if_neg (Ne.symm h)]
theorem pc.set {b b':List Rg} (h:pc b b') {c:Nat} {x y:Rg} (hc:c<b.length) (hxy:qM x y):pc (b.set c x) (b'.set c y):=by
 refine⟨by simp[h.len],fun k hk=>?_⟩;rw[qc hc,qc (by rw[←h.len];exact hc)];split
 ·exact hxy
 ·exact h.all k
theorem sX.app {l l':List Rw} (h:sX l l') (m:List Rw):sX (l++m) (l'++m):=by
 refine⟨by simp[h.len],fun k hk=>?_⟩;by_cases h1:k<l.length
 ·have h2:=h.at_ k h1;rw[List.getD,List.getD,List.getElem?_append_left h1,List.getElem?_append_left (by rw[←h.len];exact h1)];exact h2
 ·rw[List.getD,List.getD,List.getElem?_append_right (by omega),List.getElem?_append_right (by rw[←h.len];omega),h.len];exact⟨rfl,Int.le_refl _⟩
theorem oq (b:List Rg):cX b=true↔∃k,k<b.length∧(b.getD k zr).hi<(b.getD k zr).lo:=by
 unfold cX;rw[List.any_eq_true];constructor
 ·rintro⟨x,hx,h⟩;obtain⟨k,hk,rfl⟩:=List.mem_iff_getElem.mp hx;exact⟨k,hk,by rw[List.getD,List.getElem?_eq_getElem hk];simpa [fc]using h⟩
 ·rintro⟨k,hk,h⟩;exact⟨_,Pur.aT hk,by simpa [fc]using h⟩
theorem pc.empty {b b':List Rg} (h:pc b b') (he:cX b'=true):cX b=true:=by
 rw[oq]at he ⊢;obtain⟨k,hk,h1⟩:=he;have:=h.all k;exact⟨k,by rw[h.len];exact hk,by obtain⟨a,c⟩:=this;omega⟩
theorem Bn {b:List Rg} {r:Rw} (c:Int) (h:¬(gY r b c).hi<(gY r b c).lo):qM (gY r b c) (b.getD c.toNat zr):=by
 unfold gY at h ⊢;dsimp only at h ⊢;generalize b.getD c.toNat zr=x at *;generalize (r.bound-gw b c r.terms)=rest at *;generalize mg c r.terms=f at *;by_cases hf:f=0
 ·rw[if_pos hf];exact qM.refl _
 ·rw[if_neg hf]at h ⊢;by_cases hp:0<f
  ·simp only[hp,if_true]at h ⊢;by_cases he:min x.hi (rest / f)<x.lo
   ·rw[if_pos he]at h;exact absurd (by decide) h
   ·rw[if_neg he];exact⟨Int.le_refl _,by show min _ _≤_;omega⟩
  ·simp only[hp,if_false]at h ⊢;by_cases he:x.hi<max x.lo (-(rest / -f))
   ·rw[if_pos he]at h;exact absurd (by decide) h
   ·rw[if_neg he];exact⟨by show _≤max _ _;omega,Int.le_refl _⟩
theorem yN {n:Nat} {e e':Nat→Nat→Bool} {a b:Nat} (h:∀u v,e u v=true→e' u v=true) (hr:Reach n e a b):Reach n e' a b:=by
 induction hr with
 |here=>exact .here
 |step _ h1 h2 ih=>exact .step ih h1 (h _ _ h2)
theorem EC (g:Gr) (b:List Rg) (k:Nat):qM (vh g b k) (b.getD (g.first.toNat+k) zr):=by
 unfold vh;dsimp only;split
 ·exact⟨Int.le_refl _,by show min _ _≤_;omega⟩
 ·exact qM.refl _
theorem pf {x y:Rg} (hy:mn y=true) (h:qM x y) (he:¬x.hi<x.lo):mn x=true:=by
 obtain⟨h1,h2⟩:=h;have:=o8 hy;simp only[mn,aK,Bool.and_eq_true,decide_eq_true_eq];omega
theorem nE {b:List Rg} {c:Nat} {x:Rg} (hb:eh b=true) (hx:mn x=true):eh (b.set c x)=true:=by
 simp only[eh,Bool.and_eq_true,List.all_eq_true,decide_eq_true_eq,List.length_set]at hb ⊢;refine⟨fun y hy=>?_,hb.2⟩;rcases List.mem_or_eq_of_mem_set hy with h|h
 ·exact hb.1 y h
 ·rw[h];exact hx
theorem C6 (s:Sy) (rows:List Rw) (b:List Rg) (x:bj):(ei s rows b x).2.2=true→(ei s rows b x).2.1=true:=by
 unfold ei;dsimp only;(repeat' split)<;>simp
structure Hc (s:Sy) (n:Nat):Prop where
 g:∀q∈s.graphs,bX n q=true
 c:∀l∈s.cases,∀r∈l,gD n r=true
end Rf
end
section
namespace Rf
open Pur (aK)
def fR (v:List Int):List Tm→Int
 |[]=>0
 |t::r=>t.fac*v.getD t.cell.toNat 0+fR v r
def eG (g:Gr) (v:List Int):List Bool:=(List.range g.least.length).map fun j=>decide (g.least.getD j 0≤v.getD (g.first.toNat+j) 0)
theorem sY (g:Gr) (v:List Int):(eG g v).length=g.least.length:=by simp[eG]
theorem qd (g:Gr) (v:List Int) (k:Nat) (h:k<g.least.length):(eG g v).getD k false=decide (g.least.getD k 0≤v.getD (g.first.toNat+k) 0):=by
 rw[List.getD,List.getElem?_eq_getElem (by simpa [eG]using h)];simp[eG]
def Gm (n:Nat) (e:Nat→Nat→Bool):Prop:=∀u w,u<n→w<n→e u w=true→¬Reach n e w u
structure eM (b:List Rg) (v:List Int):Prop where
 len:v.length=b.length
 at_:∀k,k<b.length→(b.getD k zr).lo≤v.getD k 0∧v.getD k 0≤(b.getD k zr).hi
structure Hw (s:Sy) (rows:List Rw) (v:List Int) (ch:Bool):Prop where
 rows:∀r∈rows,fR v r.terms≤r.bound
 graphs:∀g∈s.graphs,Gm g.size.toNat (ey g.size.toNat (eG g v))
 case:ch=false→s.cases≠[]→∃i,i<s.cases.length∧∀r∈s.cases.getD i [],fR v r.terms≤r.bound
theorem eM.set {b:List Rg} {v:List Int} (h:eM b v) {c:Nat} {x:Rg} (hc:c<b.length) (h1:x.lo≤v.getD c 0) (h2:v.getD c 0≤x.hi):eM (b.set c x) v:=by
 refine⟨by simp[h.len],fun k hk=>?_⟩;rw[qc hc];split
 ·rename_i e;subst e;exact⟨h1,h2⟩
 ·exact h.at_ k (by simpa using hk)
theorem eM.full {b:List Rg} {v:List Int} (h:eM b v):¬cX b=true:=by
 rw[oq];rintro⟨k,hk,e⟩;have:=h.at_ k hk;omega
theorem ED {b:List Rg} {v:List Int} (h:eM b v) (t:Tm) (h0:0≤t.cell) (h1:t.cell<b.length):yx b t≤t.fac*v.getD t.cell.toNat 0:=by
 obtain⟨g1,g2⟩:=h.at_ t.cell.toNat (by omega);unfold yx;split
 ·exact Int.mul_le_mul_of_nonneg_left g1 (by omega)
 ·exact Int.mul_le_mul_of_nonpos_left (by omega) g2
theorem xj {b:List Rg} {v:List Int} (h:eM b v) (c:Int):∀(l:List Tm) (last:Int),-1≤last→eU b.length last l=true→gw b c l+mg c l*v.getD c.toNat 0≤fR v l
 |[],_,_,_=>by simp[gw,mg,fR]
 |t::r,last,hl,e=>by
  have h0:=(jK b.length (t::r) last hl e).2 t (by simp);have e':=e;simp only[eU,Bool.and_eq_true]at e';have h2:=(jK b.length r t.cell (by omega) e'.2).2;have ih:=xj h c r t.cell (by omega) e'.2;rw[gw,mg,fR];by_cases hc:t.cell=c
  ·rw[if_pos hc,if_pos hc];rw[om c r fun x hx=>by have:=(h2 x hx).2.1;omega]at ih;rw[hc];omega
  ·rw[if_neg hc,if_neg hc];have:=ED h t (by omega) (by omega);omega
theorem C7 {b:List Rg} {v:List Int} (h:eM b v) (r:Rw) (hr:gD b.length r=true) (hs:fR v r.terms≤r.bound) (c:Int) (h0:0≤c) (h1:c<b.length):(gY r b c).lo≤v.getD c.toNat 0∧v.getD c.toNat 0≤(gY r b c).hi:=by
 have hx:=h.at_ c.toNat (by omega);simp only[gD,Bool.and_eq_true]at hr;have hl:=xj h c r.terms (-1) (by omega) hr.1;unfold gY;dsimp only;generalize mg c r.terms=f at *;generalize gw b c r.terms=sm at *;generalize b.getD c.toNat zr=x at *;generalize v.getD c.toNat 0=y at *;by_cases hf:f=0
 ·rw[if_pos hf];exact hx
 ·rw[if_neg hf];have hm:f*y≤r.bound-sm:=by omega
  by_cases hp:0<f
  ·simp only[hp,if_true];have hq:y≤(r.bound-sm) / f:=Int.le_ediv_of_mul_le hp (by rw[Int.mul_comm];exact hm);rw[if_neg (by omega)];exact⟨hx.1,by show _≤min _ _;omega⟩
  ·simp only[hp,if_false];have hq: -y≤(r.bound-sm) / -f:=Int.le_ediv_of_mul_le (by omega) (by rw[Int.mul_comm,Int.neg_mul_neg];exact hm);rw[if_neg (by omega)];exact⟨by show max _ _≤_;omega,hx.2⟩
theorem yO {b:List Rg} {v:List Int} (h:eM b v) (g:Gr) (hg:g.first.toNat+g.least.length≤b.length) (n u w:Nat) (he:ey n (gK g b) u w=true):ey n (eG g v) u w=true:=by
 unfold ey at he ⊢;by_cases hk:u*n+w<g.least.length
 ·rw[qw g b _ hk,decide_eq_true_eq]at he;rw[qd g v _ hk,decide_eq_true_eq];have:=(h.at_ (g.first.toNat+(u*n+w)) (by omega)).1;omega
 ·rw[pd _ _ _ (by simp[gK];omega)]at he;cases he
open Classical in
theorem Gn {b : List Rg} {v : List Int} (h : eM b v) (g : Gr) (hg : bX b.length g = true) (ha : Gm g.size.toNat (ey g.size.toNat (eG g v))) (k : Nat) (hk : k < g.least.length) : (vh g b k).lo ≤ v.getD (g.first.toNat + k) 0 ∧ v.getD (g.first.toNat + k) 0 ≤ (vh g b k).hi := by
  simp only [bX, aK, Bool.and_eq_true, decide_eq_true_eq] at hg
  obtain ⟨⟨⟨⟨⟨g1, g2⟩, g3⟩, g4⟩, g5⟩, g6⟩ := hg
  have hx := h.at_ (g.first.toNat + k) (by omega)
  unfold vh
  dsimp only
  by_cases hc : kS g b k = true
  · rw [if_pos hc]
    refine ⟨hx.1, ?_⟩
    unfold kS vg at hc
    rw [decide_eq_true_eq] at hc
    obtain ⟨n, hn⟩ : ∃ n : Nat, g.size = n := ⟨g.size.toNat, by omega⟩
    rw [hn] at hc ha g4 g5
    rw [Int.toNat_natCast] at hc ha
    have hn1 : 0 < n := by omega
    have g5 : g.least.length = n * n := by have : (n : Int) * n = ((n * n : Nat) : Int) := by simp
                                           omega
    have h2 := yN (e' := ey n (eG g v)) (fun u w he => yO h g (by omega) n u w he) hc
    have h3 : ¬ g.least.getD k 0 ≤ v.getD (g.first.toNat + k) 0 := fun hle => by
      refine ha (k / n) (k % n) (by rw [Nat.div_lt_iff_lt_mul hn1]; omega) (Nat.mod_lt _ hn1) ?_ h2
      unfold ey
      rw [Nat.div_add_mod' k n, qd g v k hk, decide_eq_true_eq]
      exact hle
    show _ ≤ min _ _
    omega
  · rw [if_neg hc]
    exact hx
theorem EE {s:Sy} {rows:List Rw} {b:List Rg} {v:List Int} {ch:Bool} (h:eM b v) (hs:Hw s rows v ch) (hok:eh b=true) (hrow:∀r∈rows,gD b.length r=true) (hgo:∀q∈s.graphs,bX b.length q=true) (x:bj) (hx:0≤x.index) (hp:(ei s rows b x).2.1=true) :
  (ei s rows b x).2.2=false∧eM (ei s rows b x).1 v∧eh (ei s rows b x).1=true:=by
 unfold ei at hp ⊢;by_cases hk:x.kind=1
 ·simp only[if_pos hk]at hp ⊢;by_cases h1:x.index<s.graphs.length
  ·simp only[if_pos h1]at hp ⊢;have hm:=Pur.aT (d:=zg) (show x.index.toNat<s.graphs.length by omega);have hq:=hgo _ hm;have ha:=hs.graphs _ hm;clear hm;generalize s.graphs.getD x.index.toNat zg=g at *;by_cases h2:g.first≤x.cell∧x.cell<g.first+g.least.length
   ·simp only[if_pos h2];have hin:=Gn h g hq ha (x.cell-g.first).toNat (by omega);have hsub:=EC g b (x.cell-g.first).toNat;simp only[bX,aK,Bool.and_eq_true,decide_eq_true_eq]at hq;obtain⟨⟨⟨⟨⟨g1,g2⟩,g3⟩,g4⟩,g5⟩,g6⟩:=hq;have hc:x.cell.toNat<b.length:=by omega
    rw[show g.first.toNat+(x.cell-g.first).toNat=x.cell.toNat by omega]at hsub hin;have he:¬(vh g b (x.cell-g.first).toNat).hi<(vh g b (x.cell-g.first).toNat).lo:=by omega
    exact⟨decide_eq_false he,h.set hc hin.1 hin.2,nE hok (pf (kC hok _) hsub he)⟩
   ·rw[if_neg h2]at hp;cases hp
  ·rw[if_neg h1]at hp;cases hp
 ·rw[if_neg hk]at hp ⊢;by_cases h1:x.index<rows.length∧x.cell<b.length
  ·rw[if_pos h1]at hp ⊢;have hm:=Pur.aT (d:=zw) (show x.index.toNat<rows.length by omega);have hro:=hrow _ hm;have hso:=hs.rows _ hm;clear hm;generalize rows.getD x.index.toNat zw=r at *;dsimp only at hp ⊢;by_cases h3:x.cell<0
   ·rw[if_pos h3]at hp;have hp:(r.terms.isEmpty&&decide (r.bound<0))=true:=hp;simp only[Bool.and_eq_true,decide_eq_true_eq,List.isEmpty_iff]at hp;obtain⟨p1,p2⟩:=hp;rw[p1,fR]at hso;omega
   ·rw[if_neg h3];have hc:x.cell.toNat<b.length:=by omega
    have t1:jw r b x.cell=gY r b x.cell:=by
     unfold jw;rw[if_pos ⟨by simp[fQ,hok,hro],by omega,by omega⟩]
    rw[t1];have hin:=C7 h r hro hso x.cell (by omega) (by omega);have he:¬(gY r b x.cell).hi<(gY r b x.cell).lo:=by omega
    exact⟨decide_eq_false he,h.set hc hin.1 hin.2,nE hok (pf (kC hok _) (Bn x.cell he) he)⟩
  ·rw[if_neg h1]at hp;cases hp
theorem xm {s:Sy} {rows:List Rw} {v:List Int} {ch:Bool} {n:Nat} (hs:Hw s rows v ch) (hrow:∀r∈rows,gD n r=true) (hgo:∀q∈s.graphs,bX n q=true) :
  ∀(l:List bj),(∀x∈l,0≤x.index)→∀(b:List Rg),eM b v→b.length=n→eh b=true→fp s rows l b≠.error true∧∀c,fp s rows l b= .ok c→eM c v∧eh c=true
 |[],_,b,h,hn,hok=>⟨fun e=>(by cases e),fun c e=>(by injection e with e;subst e;exact⟨h,hok⟩)⟩
 |x::l,hx,b,h,hn,hok=>by
  have h1:=EE h hs hok (by rw[hn];exact hrow) (by rw[hn];exact hgo) x (hx x (by simp));have hcp:=C6 s rows b x;have hl:=nB s rows b x;rw[fp];generalize ei s rows b x=p at *;obtain⟨b1,pp,cc⟩:=p;simp only at h1 hcp hl;cases pp with
  |false =>
   cases cc with
   |false=>simp
   |true=>exact absurd (hcp rfl) (by simp)
  |true =>
   obtain⟨rfl,h2,h3⟩:=h1 rfl;simp only[Bool.false_eq_true,if_false,if_true];exact xm hs hrow hgo l (fun y hy=>hx y (by simp[hy])) b1 h2 (hl.trans hn) h3
theorem xn {rows:List Rw} {b:List Rg}:∀{fs:List Acc} {cs:List (List Rw)} (i:Nat) (h1:i<fs.length) (h2:i<cs.length),od rows b fs cs=true→fs[i] (rows++cs[i]) b true=true
 |f::r,c::cs,0,_,_,h=>by
  simp only[od,Bool.and_eq_true]at h;exact h.1
 |f::r,c::cs,i+1,h1,h2,h=>by
  simp only[od,Bool.and_eq_true]at h;exact xn (fs:=r) (cs:=cs) i (by simpa using h1) (by simpa using h2) h.2
theorem vp {s:Sy} {n:Nat} (hm:Hc s n) (v:List Int):∀(t:Tree),gp t=true→∀(rows:List Rw) (b:List Rg) (ch:Bool),(∀r∈rows,gD n r=true)→b.length=n→eh b=true→eM b v→Hw s rows v ch→¬b8 s t rows b ch=true:=by
 refine Tree.ind fun k st c a l ih hf rows b ch hrow hn hok h hs hacc=>?_
 rw[oW,if_neg h.full]at hacc;rw[dU]at hf;simp only[Bool.and_eq_true]at hf;obtain⟨⟨hf1,hf2⟩,hf3⟩:=hf;obtain⟨s1,s2⟩:=xm hs hrow hm.g st (fun x hx=>by
  have:=List.all_eq_true.mp hf1 x hx;simp only[bY,aK,Bool.and_eq_true,decide_eq_true_eq]at this;omega) b h hn hok
 cases hso:fp s rows st b with
 |error r =>
  rw[hso]at hacc;simp only at hacc;subst hacc;exact s1 hso
 |ok b1 =>
  rw[hso]at hacc;simp only at hacc;obtain⟨h1,ok1⟩:=s2 b1 hso;have hn1:b1.length=n:=(qt _ _ _ _ _ hso).trans hn;unfold sB at hacc;by_cases hk:k=1
  ·rw[if_pos hk]at hacc;by_cases hc:c<b1.length
   ·rw[if_pos hc]at hacc;subst hk;simp[gm,aK]at hf2;obtain⟨⟨t1,t2,t3⟩,t4,t5⟩:=hf2;match l,t1,hacc with
    |[k0,k1],_,hacc =>
     simp only[List.map_cons,List.map_nil,Bool.and_eq_true]at hacc;have hc1:c.toNat<b1.length:=by omega
     have hv:=h1.at_ c.toNat hc1;have hx:=kC ok1 c.toNat;simp only[List.all_cons,List.all_nil,Bool.and_true,Bool.and_eq_true]at hf3;by_cases hva:v.getD c.toNat 0≤a
     ·have q1:(b1.getD c.toNat zr).lo≤v.getD c.toNat 0:=hv.1;have q2:v.getD c.toNat 0≤min (b1.getD c.toNat zr).hi a:=by omega
      refine ih k0 (by simp) hf3.1 rows (b1.set c.toNat ⟨(b1.getD c.toNat zr).lo,min (b1.getD c.toNat zr).hi a⟩) ch hrow (by simpa using hn1) (nE ok1 (pf hx ⟨Int.le_refl _,by show min _ _≤_;omega⟩ (by show ¬min (b1.getD c.toNat zr).hi a<(b1.getD c.toNat zr).lo;omega))) (h1.set hc1 q1 q2) hs hacc.1
     ·have q1:max (b1.getD c.toNat zr).lo (a+1)≤v.getD c.toNat 0:=by omega
      have q2:v.getD c.toNat 0≤(b1.getD c.toNat zr).hi:=hv.2;refine ih k1 (by simp) hf3.2 rows (b1.set c.toNat ⟨max (b1.getD c.toNat zr).lo (a+1),(b1.getD c.toNat zr).hi⟩) ch hrow (by simpa using hn1) (nE ok1 (pf hx ⟨by show _≤max _ _;omega,Int.le_refl _⟩ (by show ¬(b1.getD c.toNat zr).hi<max (b1.getD c.toNat zr).lo (a+1);omega))) (h1.set hc1 q1 q2) hs hacc.2
   ·rw[if_neg hc]at hacc;cases hacc
  ·rw[if_neg hk]at hacc;by_cases hk2:k=2
   ·rw[if_pos hk2]at hacc;simp only[Bool.and_eq_true,List.length_map,decide_eq_true_eq]at hacc;obtain⟨⟨hch,hlen⟩,hacc⟩:=hacc;subst hk2;simp[gm]at hf2;obtain⟨⟨⟨t1,t2⟩,-⟩,-⟩:=hf2;obtain⟨i,hi,hr⟩:=hs.case (by simpa using hch) (by
     intro h0;rw[h0]at hlen;simp only[List.length_nil]at hlen;omega)
    have hil:i<l.length:=by omega
    have hget:s.cases.getD i []=s.cases[i]:=by rw[List.getD,List.getElem?_eq_getElem hi];rfl
    rw[hget]at hr;have:=xn (fs:=l.map (b8 s)) (cs:=s.cases) i (by simpa using hil) hi hacc;rw[List.getElem_map]at this;refine ih l[i] (List.getElem_mem hil) (List.all_eq_true.mp hf3 _ (List.getElem_mem hil)) (rows++s.cases[i]) b1 true (fun r hr'=>?_) hn1 ok1 h1 ⟨fun r hr'=>?_,hs.graphs,fun h=>by cases h⟩ this
    ·rcases List.mem_append.mp hr' with q|q
     ·exact hrow r q
     ·exact hm.c _ (List.getElem_mem hi) r q
    ·rcases List.mem_append.mp hr' with q|q
     ·exact hs.rows r q
     ·exact hr r q
   ·rw[if_neg hk2]at hacc;cases hacc
end Rf
end
section
namespace Rf
open Pur (aK)
def zR (n:Nat) (es left:List Bool) (a:Nat):Bool:=(List.range n).all fun b=>!(left.getD b false&&es.getD (b*n+a) false)
def jq (n:Nat) (es left:List Bool):Nat→List Bool
 |0=>left
 |a+1=>if zR n es (jq n es left a) a=true then (jq n es left a).set a false else jq n es left a
def gR (n:Nat) (es:List Bool):Nat→List Bool
 |0=>List.replicate n true
 |k+1=>jq n es (gR n es k) n
def ot (n:Nat) (es:List Bool):Bool:=(gR n es n).all fun x=>!x
theorem kD (n:Nat) (es left:List Bool):∀a,(jq n es left a).length=left.length
 |0=>rfl
 |a+1=>by
  rw[jq];split
  ·rw[List.length_set,kD n es left a]
  ·exact kD n es left a
theorem kY (n:Nat) (es:List Bool):∀k,(gR n es k).length=n
 |0=>by simp[gR]
 |k+1=>by rw[gR,kD,kY n es k]
theorem xo {n:Nat} {e:Nat→Nat→Bool} {a b:Nat} (ha:a<n) (h:Reach n e a b):b<n:=by
 cases h with
 |here=>exact ha
 |step _ h _=>exact h
theorem np {n:Nat} {e:Nat→Nat→Bool} {a b c:Nat} (h1:Reach n e a b) (h2:Reach n e b c):Reach n e a c:=by
 induction h2 with
 |here=>exact h1
 |step _ h3 h4 ih=>exact .step ih h3 h4
theorem sZ {n:Nat} {es:List Bool} {C:Nat→Prop} (hC:∀x,C x→x<n∧∃y,C y∧es.getD (y*n+x) false=true) (left:List Bool) (hl:left.length=n) (h:∀x,C x→left.getD x false=true):∀(a:Nat),a≤n→∀x,C x→(jq n es left a).getD x false=true
 |0,_,x,hx=>h x hx
 |a+1,ha,x,hx=>by
  have ih:=sZ hC left hl h a (by omega);have hlen:=kD n es left a;rw[jq];by_cases hf:zR n es (jq n es left a) a=true
  ·rw[if_pos hf,List.getD,List.getElem?_set];by_cases hax:a=x
   ·subst hax;obtain⟨-,y,hy,he⟩:=hC a hx;have:=List.all_eq_true.mp hf y (List.mem_range.mpr (hC y hy).1);rw[ih y hy,he]at this;cases this
   ·rw[if_neg hax];exact ih x hx
  ·rw[if_neg hf];exact ih x hx
theorem qy {n:Nat} {es:List Bool} {C:Nat→Prop} (hC:∀x,C x→x<n∧∃y,C y∧es.getD (y*n+x) false=true):∀(k:Nat) (x:Nat),C x→(gR n es k).getD x false=true
 |0,x,hx=>by
  have:=(hC x hx).1;simp[gR,List.getD,this]
 |k+1,x,hx=>sZ hC _ (kY n es k) (qy hC k) n (Nat.le_refl _) x hx
theorem EF {n:Nat} {es:List Bool} (h:ot n es=true):Gm n (ey n es):=by
 intro u w hu hw he hr;have key:=qy (n:=n) (es:=es) (C:=fun x=>Reach n (ey n es) u x∧Reach n (ey n es) x u) (fun x hx=>by
  obtain⟨h1,h2⟩:=hx;refine⟨xo hu h1,?_⟩;have huw:Reach n (ey n es) u w:=.step .here hw he;have pre:∀z,Reach n (ey n es) z x→z=x∨∃y,Reach n (ey n es) z y∧ey n es y x=true:=fun z hz=>by
   cases hz with
   |here=>exact .inl rfl
   |step h3 h4 h5=>exact .inr ⟨_,h3,h5⟩
  rcases pre w (np hr h1) with e|⟨y,h3,h5⟩
  ·subst e;exact⟨u,⟨.here,.here⟩,he⟩
  ·exact⟨y,⟨np huw h3,np (.step .here (xo hu h1) h5) h2⟩,h5⟩) n u ⟨.here,.here⟩
 have hlen:=kY n es n;have hm:=Pur.aT (l:=gR n es n) (k:=u) (d:=false) (by omega);rw[key]at hm;have:=List.all_eq_true.mp h _ hm;cases this
def xp:List Rg→Nat
 |[]=>1
 |r::b=>(r.hi-r.lo+1).toNat*xp b
def kE:List Rg→List Int→Nat
 |r::b,x::v=>(r.hi-x).toNat*xp b+kE b v
 |_,_=>0
def jQ (b:List Rg):List Int:=b.map Rg.lo
def yP (b:List Rg) (v:List Int) (i:Nat):List Int:=v.take i++(v.getD i 0+1)::jQ (b.drop (i+1))
def nK (b:List Rg) (v:List Int):Nat→Option (List Int)
 |0=>none
 |i+1=>if v.getD i 0<(b.getD i zr).hi then some (yP b v i) else nK b v i
theorem uo:∀(b:List Rg),¬cX b=true→kE b (jQ b)<xp b
 |[],_=>by simp[kE,xp]
 |r::b,h=>by
  have h1:¬r.hi<r.lo∧¬cX b=true:=by simpa [cX,fc]using h
  have ih:=uo b h1.2;rw[show jQ (r::b)=r.lo::jQ b from rfl,kE,xp,show(r.hi-r.lo+1).toNat=(r.hi-r.lo).toNat+1 by omega,Nat.succ_mul];omega
theorem zS:∀(i:Nat) (b:List Rg) (v:List Int),i<b.length→v.length=b.length→¬cX b=true→v.getD i 0<(b.getD i zr).hi→kE b (yP b v i)<kE b v
 |i,[],v,hi,_,_,_=>by simp at hi
 |i,r::b,[],_,hl,_,_=>by simp at hl
 |0,r::b,x::v,hi,hl,he,h=>by
  have h1:¬r.hi<r.lo∧¬cX b=true:=by simpa [cX,fc]using he
  have:=uo b h1.2;have h:x<r.hi:=by simpa using h
  rw[show yP (r::b) (x::v) 0=(x+1)::jQ b from rfl,kE,kE,show(r.hi-x).toNat=(r.hi-(x+1)).toNat+1 by omega,Nat.succ_mul];omega
 |i+1,r::b,x::v,hi,hl,he,h=>by
  have h1:¬r.hi<r.lo∧¬cX b=true:=by simpa [cX,fc]using he
  have:=zS i b v (by simpa using hi) (by simpa using hl) h1.2 (by simpa using h);rw[show yP (r::b) (x::v) (i+1)=x::yP b v i by simp[yP],kE,kE];omega
theorem uq (b:List Rg) (v:List Int):∀(k:Nat) (w:List Int),nK b v k=some w→∃i,i<k∧v.getD i 0<(b.getD i zr).hi∧w=yP b v i
 |0,w,h=>by cases h
 |k+1,w,h=>by
  rw[nK]at h;split at h
  ·rename_i hlt;injection h with h
   exact⟨k,by omega,hlt,h.symm⟩
  ·obtain⟨i,h1,h2⟩:=uq b v k w h;exact⟨i,by omega,h2⟩
theorem vq (b:List Rg) (k:Nat) (h:k<b.length):(jQ b).getD k 0=(b.getD k zr).lo:=by
 simp[jQ,List.getD,h]
theorem EG {b:List Rg} (h:¬cX b=true):eM b (jQ b):=by
 refine⟨by simp[jQ],fun k hk=>?_⟩;rw[vq b k hk];refine⟨Int.le_refl _,?_⟩;rw[oq]at h;by_cases hc:(b.getD k zr).hi<(b.getD k zr).lo
 ·exact absurd ⟨k,hk,hc⟩ h
 ·omega
theorem vt {b:List Rg} {v:List Int} {i:Nat} (hv:v.length=b.length) (hi:i<b.length):(yP b v i).length=b.length:=by
 simp only[yP,jQ,List.length_append,List.length_take,List.length_cons,List.length_map,List.length_drop];omega
theorem C8 {b:List Rg} {v:List Int} {i:Nat} (hv:v.length=b.length) (hi:i<b.length) (k:Nat) (hk:k<b.length):(yP b v i).getD k 0=if k<i then v.getD k 0 else if k=i then v.getD i 0+1 else (b.getD k zr).lo:=by
 unfold yP;have hl:(v.take i).length=i:=by rw[List.length_take];omega
 by_cases h1:k<i
 ·rw[if_pos h1,List.getD,List.getElem?_append_left (by omega),List.getElem?_take,if_pos h1];rfl
 ·rw[if_neg h1,List.getD,List.getElem?_append_right (by omega),hl];by_cases h2:k=i
  ·subst h2;simp
  ·rw[if_neg h2,show k-i=(k-i-1)+1 by omega,List.getElem?_cons_succ];have:=vq (b.drop (i+1)) (k-i-1) (by rw[List.length_drop];omega);rw[List.getD]at this;rw[this,List.getD,List.getD,List.getElem?_drop,show i+1+(k-i-1)=k by omega]
theorem Gp {b:List Rg} {v:List Int} {i:Nat} (h:eM b v) (hi:i<b.length) (hlt:v.getD i 0<(b.getD i zr).hi):eM b (yP b v i):=by
 refine⟨vt h.len hi,fun k hk=>?_⟩;have h0:=h.at_ k hk;rw[C8 h.len hi k hk];split
 ·exact h0
 ·split
  ·rename_i e;subst e;omega
  ·omega
theorem EH {b:List Rg} {v w:List Int} (h:eM b v) (hn:nK b v b.length=some w):eM b w∧kE b w<kE b v:=by
 obtain⟨i,h1,h2,rfl⟩:=uq b v _ w hn;exact⟨Gp h h1 h2,zS i b v h1 h.len h.full h2⟩
def fN (v:List Int) (l:List Rw):Bool:=l.all fun r=>decide (fR v r.terms≤r.bound)
def ou (v:List Int) (l:List Gr):Bool:=l.all fun g=>ot g.size.toNat (eG g v)
def qe (s:Sy) (v:List Int):Bool:=fN v s.rows&&ou v s.graphs&&(decide (s.cases.length=0)||s.cases.any (fN v))
theorem ph {v:List Int} {l:List Rw} (h:fN v l=true):∀r∈l,fR v r.terms≤r.bound:=fun r hr=>of_decide_eq_true (List.all_eq_true.mp h r hr)
theorem Bo {s:Sy} {v:List Int} (h:qe s v=true):Hw s s.rows v false:=by
 simp only[qe,Bool.and_eq_true,Bool.or_eq_true,decide_eq_true_eq]at h;obtain⟨⟨h1,h2⟩,h3⟩:=h;refine⟨ph h1,fun g hg=>EF (List.all_eq_true.mp h2 g hg),fun _ hne=>?_⟩;rcases h3 with h3|h3
 ·exact absurd (List.length_eq_zero_iff.mp h3) hne
 ·obtain⟨l,hl,h4⟩:=List.any_eq_true.mp h3;obtain⟨i,hi,rfl⟩:=List.mem_iff_getElem.mp hl;refine⟨i,hi,?_⟩;rw[List.getD,List.getElem?_eq_getElem hi];exact ph h4
theorem check_sound {s:Sy} {t:Tree} (h:pT s t=true) (v:List Int) (hv:eM s.box v):qe s v=false:=by
 rw[Bool.eq_false_iff];intro hh;simp only[pT,Bool.and_eq_true]at h;obtain⟨⟨h1,h2⟩,h3⟩:=h;have h1':=h1;simp only[gJ,fQ,Bool.and_eq_true,decide_eq_true_eq]at h1';obtain⟨⟨⟨⟨⟨⟨⟨e1,e1'⟩,e2⟩,e3⟩,e4⟩,e5⟩,e6⟩,e7⟩:=h1';simp only[iR,Bool.and_eq_true]at h2;refine vp (n:=s.box.length) ⟨fun q hq=>List.all_eq_true.mp e6 q hq,fun l hl r hr=>?_⟩ v t h2.2 s.rows s.box false (fun r hr=>List.all_eq_true.mp e1' r hr) rfl e1 hv (Bo hh) h3;have:=List.all_eq_true.mp e7 l hl;simp only[gy,fQ,Bool.and_eq_true]at this;exact List.all_eq_true.mp this.2.2 r hr
end Rf
end
section
open Go.Shelf
def zT:Go.Shelf.Ren:=⟨fun|4=>108|n=>n,fun|0=>0|3=>3|4=>4|9=>9|20=>20|22=>32|25=>62|n=>n,fun|n=>n⟩
theorem xq:Go.Proofs.Lays8.n4 Tryz.prog zT:={
 mixed:=by kernel_rfl
 f4 := ⟨"slices.Grow[[]confluent/api.Row,confluent/api.Row]", by rfl, Tryz.func108.trans (congrArg some (by kernel_rfl))⟩
 t0:=Tryz.underlying0
 a0:=Tryz.isAgg0
 z0:=Tryz.sizeOf0
 v0:=Tryz.zeroValue0
 t3:=Tryz.underlying3
 a3:=Tryz.isAgg3
 z3:=Tryz.sizeOf3
 v3:=Tryz.zeroValue3
 t4:=Tryz.underlying4
 a4:=Tryz.isAgg4
 z4:=Tryz.sizeOf4
 v4:=Tryz.zeroValue4
 t9:=Tryz.underlying9
 a9:=Tryz.isAgg9
 z9:=Tryz.sizeOf9
 v9:=Tryz.zeroValue9
 t20:=Tryz.underlying20
 a20:=Tryz.isAgg20
 z20:=Tryz.sizeOf20
 v20:=Tryz.zeroValue20
 t22:=Tryz.underlying32
 a22:=Tryz.isAgg32
 z22:=Tryz.sizeOf32
 v22:=Tryz.zeroValue32}
namespace Pur
open Go.RowKit
attribute [local go_sem] bI fa bR bu cS gf List.map aX aG get put tmpsOf dF iW gF iG conds ev cond_true cond_false Nat.beq Nat.ble Nat.add quiet dG cf cF pn List.append_eq List.nil_append List.cons_append dE cy cz cA cB cC cD fg eY dv jb dH calm quiet.isCallK cH List.getElem?_cons_zero List.getElem?_cons_succ bp b6 cellsOf List.all bC List.length_cons List.length_nil eP a6 List.drop List.take List.getD Option.getD_some qR qS qF qT qU qV eB gC eC eD setAt List.set Nat.reduceAdd Nat.reduceMul b9 bw refsOf bG bM scalar cd ef bL ca aN after freeze im gT aS dx dQ dt eH c6 c7 cj da db de dh di dj dk dm dn dp dq ck cp cu dw jc bytesOf bH cU aQ bD dS bA bT cI still bW ed dy dW bP eI List.isEmpty cv cw cx Int.reduceToNat Nat.mul_one Nat.reduceSub oM cV b7 dK cG look dL strip guarded fV eK eO cK dV cY hJ dc dd Bool.or_false Bool.or_true Bool.and_true Bool.and_false Nat.blt gg fx gq dD idxOf gU gV iX eV aN mI
open Rf
theorem C9:∃i0 z,Tryz.prog.info? 62=some i0∧i0.zero=some z∧i0.size=2∧i0.bytes=32∧z.cells.size=2:=by
 have h:(Tryz.prog.info? 62).map (fun i=>(i.size,i.bytes,i.zero.map fun z=>z.cells.size))=some (2,32,some 2):=by kernel_rfl
 cases hi:Tryz.prog.info? 62 with
 |none=>rw[hi]at h;cases h
 |some i0 =>
  rw[hi]at h;simp only[Option.map_some,Option.some.injEq,Prod.mk.injEq]at h;obtain⟨h1,h2,h3⟩:=h;cases hz:i0.zero with
  |none=>rw[hz]at h3;cases h3
  |some z =>
   rw[hz]at h3;exact⟨i0,z,rfl,hz,h1,h2,by simpa using h3⟩
theorem Da:ah ctx 108 [.nilsl,.int .i64 0] .nilsl:=by
 refine ah.sn (by kernel_rfl) fun w S vs hE hl hp=>?_
 obtain⟨v,u,rfl,h1,h2⟩:=Iq hp;cases h1;obtain rfl:=so h2;refine(Any8.slices_Grow_room xq none 0 0 0 w (by omega) (by omega) (by omega) (by omega)).mono fun e w' hh=>?_
 obtain⟨rfl,rfl⟩:=hh;exact⟨_,rfl,Below.refl _ _,fun _ _=>.nilsl⟩
theorem EI (n:Nat) (h0:0<n) (hn:n≤1000000000) (μ:AM):aJ ctx 108 [.pv .nilsl,.pv (.int .i64 n)] μ (.ref μ.length 0 0 0) (μ++[⟨[],0,2,62,false⟩]):=by
 refine⟨by kernel_rfl,fun w0 S γ w vs hW hp=>?_⟩;obtain⟨i0,z,hi,hz,hs,hb,hzc⟩:=C9;have hvs:vs=[.slice none 0 0,.int .i64 n]:=by
  have hl:=hp.len;match vs,hl with
  |[v,u],_ =>
   have h1:=je (hp.at_ 0 _ _ rfl rfl);have h2:=gA (hp.at_ 1 _ _ rfl rfl);rw[h1,h2]
 subst hvs;refine(Any8.slices_Grow_grow xq i0 z hi hz (by omega) none 0 0 n [] w (by omega) (by omega) (by rw[hb];omega) (by omega) (by simp) (fun _=>rfl) (fun a h=>by cases h)).mono fun e w' hh=>?_
 obtain⟨he,hw⟩:=hh;rw[show zT.t 25=62 from rfl]at he hw;obtain⟨hW1,hE1⟩:=hW.drew;have hge:=grownCap_ge w (0+n) 0 62;have hgm:=grownCap_le_maxLen w (0+n) 0 62 (by simp only[maxLen];omega);generalize hG:grownCap w (0+n) 0 62=G at *;obtain⟨hW2,hE2⟩:=hW1.DD (avs:=[]) (cs:=(Builtin.zeroCells z.cells (0+n-0)++Builtin.zeroCells z.cells (G-(0+n))).toList) (elem:=62) 2 (by omega) (Nat.zero_le _) fun i x hx=>by simp at hx
 have hco:(Builtin.zeroCells z.cells (0+n-0)++Builtin.zeroCells z.cells (G-(0+n))).toList.toArray=[].toArray++Builtin.zeroCells z.cells (0+n-0)++Builtin.zeroCells z.cells (G-(0+n)):=by simp
 have hcl:(Builtin.zeroCells z.cells (0+n-0)++Builtin.zeroCells z.cells (G-(0+n))).toList.length=G*2:=by
  rw[Array.length_toList,Array.size_append,size_zeroCells,size_zeroCells,hzc];omega
 rw[hco,hcl]at hW2 hE2;subst he hw;exact⟨_,S,_,rfl,hE1.trans hE2,hW2,.ref _ _ _ _ _ _ ⟨w.heap.size,0,none⟩ G (fX _ _ _) (Nat.le_refl _) ⟨rfl,Nat.zero_le _⟩ fun _=>.inl ⟨G,rfl,Nat.zero_add _,Nat.zero_le _,hgm⟩⟩
def c80:ay:=(⟨_,by conv=>(lhs;reduce;try simp only[eA,Int.cast_ofNat_Int,Int.reduceNegSucc,UInt8.reduceOfNat])⟩:{x // codeOf Tryz.prog 80 (fun _=>false)=some x}).1
theorem Hd:bK Tryz.prog 80 (fun _=>false)=some (c80,[.t 2],36,true):=by kernel_rfl
def j8 (L:List (List Rw)):Nat:=(L.map List.length).sum
theorem nF (L:List (List Rw)) (k:Nat) (h:k<L.length):j8 (L.take (k+1))=j8 (L.take k)+(L.getD k []).length:=by
 rw[j8,bz L k [] h];simp[j8]
theorem EJ (L:List (List Rw)) (k:Nat):j8 (L.take k)≤j8 L:=by
 have:=congrArg j8 (List.take_append_drop k L);simp only[j8,List.map_append,List.sum_append]at this ⊢;omega
theorem Bp (L:List (List Rw)) (k:Nat) (h:k<L.length):(L.take (k+1)).flatten=(L.take k).flatten++L.getD k []:=by
 rw[bz L k [] h];simp
theorem xr (L:List (List Rw)):L.flatten.length=j8 L:=by
 rw[List.length_flatten];rfl
theorem ma (L:List (List Rw)) (k:Nat) (hk:k<L.length) (h:k<(L.flatMap sC).length):(L.flatMap sC)[k]'h= .sl (L.getD k []).length ((L.getD k []).flatMap eZ):=by
 have:=bZ wP L k [] 0 hk (by omega);rw[Nat.mul_one,Nat.add_zero,List.getElem?_eq_getElem h]at this;exact Option.some.inj this
set_option maxHeartbeats 4000000 in
theorem ur (L:List (List Rw)) (hL:L.length≤1000000) (hS:j8 L≤1000000000):ah ctx 80 [aA L] (ax L.flatten):=by
 have f1:=kU L;have hle:=EJ L;have hfl:=xr L;have loop1:∀{R:Exit→AF→AM→Prop} {x:ay} {f:AF},Sub [(0,.pv (aA L)),(3,.pv (.int .i64 0)),(9,.pv (aA L)),(10,.pv (.int .i64 L.length)),(11,.pv (.int .i64 0))] f →
   (∀k,k≤L.length→Aw ctx (fun _=>false) 36 0 x (cf (fun f' μ'=>k<L.length∧True∧Sub [(0,.pv (aA L)),(3,.pv (.int .i64 (j8 (L.take (k+1))))),(9,.pv (aA L)),(10,.pv (.int .i64 L.length)),(11,.pv (.int .i64 (k+1:Nat)))] f'∧∃junk,μ'=[]++junk) R) [(0,.pv (aA L)),(3,.pv (.int .i64 (j8 (L.take k)))),(9,.pv (aA L)),(10,.pv (.int .i64 L.length)),(11,.pv (.int .i64 k))] [])→Aw ctx (fun _=>false) 36 0 (.loop x) R f []:=fun hs st =>
  bF L.length (fun _=>True) (fun k=>[(0,.pv (aA L)),(3,.pv (.int .i64 (j8 (L.take k)))),(9,.pv (aA L)),(10,.pv (.int .i64 L.length)),(11,.pv (.int .i64 k))]) (fun _=>[]) trivial hs ⟨[],rfl⟩ (fun _=>⟨Nat.zero_le _,rfl,rfl⟩) fun k hk _=>st k hk
 by_cases h0:j8 L=0
 ·have:ah ctx 80 [aA L] .nilsl:=by
   have hg:=Da;have hz:∀k,j8 (L.take k)=0:=fun k=>by have:=hle k;omega
   refine ar (C:=ctx) (Fn.of Hd rfl) rfl ?_;unfold c80;repeat' (first
    |((with_reducible first|show aH _|show aP _);simp[vb]<;>omega)
    |exact(rfl:some _=_)
    |(
     fail_if_success refine a7 ?_
     refine aV ?_;repeat1' dsimp only[c80,aA,go_sem]
     first
     |refine a8 ?_ ?_ rfl ?_
     |apply ba
     |apply bc
     |(refine bf (fun hc=>?_) fun hc=>?_<;>first|(cases hc;done)|(exfalso;simp at hc<;>omega)|(try simp only[bn]at hc;try contradiction))
     |skip))
   refine loop1 (by (repeat' (first|exact trivial|refine And.intro (by first|rfl|(simp[get,Nat.beq];done)|(simp[get,Nat.beq];omega)|(dsimp only[get];congr 1<;>first|rfl|omega|(simp;done)|(simp;omega))) ?_))) fun k hk=>?_
   by_cases hlt:k<L.length
   ·have e:=ma L k hlt;clear loop1;have hl:=nF L k hlt;rw[hz,hz]at hl;rw[hz,hz];generalize L.getD k []=l at *;obtain rfl:l=[]:=List.eq_nil_of_length_eq_zero (by omega);repeat' (first
     |((with_reducible show aH _);first|exact True.intro|(simp only[vb,lb,e,f1,hlt];and_intros<;>first|omega|(simp<;>omega)))
     |((with_reducible show aP _);first|exact True.intro|((try dsimp only[go_sem]);(simp[vb,e,f1,hlt]<;>omega)))
     |exact(rfl:some _=_)
     |(
      fail_if_success refine a7 ?_
      refine bJ [(14,{val:=some (.pv (.sl 0 []))})] ?_;repeat1' dsimp only[c80,aA,go_sem]
      first
      |refine a8 ?_ ?_ rfl ?_
      |apply ba
      |apply bc
      |(refine bf (fun hc=>?_) fun hc=>?_<;>first|(cases hc;done)|(exfalso;(simp at hc<;>omega))|(try simp only[bn]at hc;try contradiction))
      |skip))
    exact⟨hlt,trivial,by (repeat' (first|exact trivial|refine And.intro (by first|rfl|(simp[get,Nat.beq];done)|(simp[get,Nat.beq];omega)|(dsimp only[get];congr 1<;>first|rfl|omega|(simp;done)|(simp;omega))) ?_)),_,rfl⟩
   ·obtain rfl:k=L.length:=by omega
    rw[hz];repeat' (first
     |((with_reducible show aH _);exact True.intro)
     |((with_reducible show aP _);first|exact True.intro|((try dsimp only[go_sem]);(simp only[vb,and_true,true_implies];(repeat' (first|(with_reducible assumption)|(with_reducible apply And.intro)|intro _|((fail_if_success (with_reducible show(_:Int)≤_));assumption)))<;>(simp_all;done))))
     |exact(rfl:some _=_)
     |(
      fail_if_success refine a7 ?_
      refine iF [(108,fun _=>some .nilsl)] ?_;repeat1' dsimp only[c80,aA,go_sem]
      first
      |refine a8 ?_ ?_ rfl ?_
      |apply ba
      |apply bc
      |(refine bf (fun hc=>?_) fun hc=>?_<;>first|(cases hc;done)|(exfalso;(simp at hc<;>omega))|(try simp only[bn]at hc;try contradiction))
      |skip))
    refine bF L.length (fun _=>True) (fun k=>[(6,.pv .nilsl),(25,.pv (aA L)),(26,.pv (.int .i64 L.length)),(27,.pv (.int .i64 k))]) (fun _=>[]) trivial (by (repeat' (first|exact trivial|refine And.intro (by first|rfl|(simp[get,Nat.beq];done)|(simp[get,Nat.beq];omega)|(dsimp only[get];congr 1<;>first|rfl|omega|(simp;done)|(simp;omega))) ?_))) ⟨[],rfl⟩ (fun _=>⟨Nat.zero_le _,rfl,rfl⟩) fun k hk _=>?_
    by_cases hlt:k<L.length
    ·have e:=ma L k hlt;clear loop1;have hl:=nF L k hlt;rw[hz,hz]at hl;generalize L.getD k []=l at *;obtain rfl:l=[]:=List.eq_nil_of_length_eq_zero (by omega);repeat' (first
      |((with_reducible show aH _);first|exact True.intro|(simp only[vb,lb,e,f1,hlt];and_intros<;>first|omega|(simp<;>omega)))
      |((with_reducible show aP _);first|exact True.intro|((try dsimp only[go_sem]);(simp[vb,e,f1,hlt]<;>omega)))
      |exact(rfl:some _=_)
      |(
       fail_if_success refine a7 ?_
       refine bJ [(30,{val:=some (.pv (.sl 0 []))}),(33,{mode:=2})] ?_;repeat1' dsimp only[c80,aA,go_sem]
       first
       |refine a8 ?_ ?_ rfl ?_
       |apply ba
       |apply bc
       |(refine bf (fun hc=>?_) fun hc=>?_<;>first|(cases hc;done)|(exfalso;(simp at hc<;>omega))|(try simp only[bn]at hc;try contradiction))
       |skip))
     exact⟨hlt,trivial,by (repeat' (first|exact trivial|refine And.intro (by first|rfl|(simp[get,Nat.beq];done)|(simp[get,Nat.beq];omega)|(dsimp only[get];congr 1<;>first|rfl|omega|(simp;done)|(simp;omega))) ?_)),_,rfl⟩
    ·obtain rfl:k=L.length:=by omega
     repeat' (first
      |((with_reducible show aH _);exact True.intro)
      |((with_reducible show aP _);exact True.intro)
      |exact(rfl:some _=_)
      |(
       fail_if_success refine a7 ?_
       refine aV ?_;repeat1' dsimp only[c80,aA,go_sem]
       first
       |refine a8 ?_ ?_ rfl ?_
       |apply ba
       |apply bc
       |(refine bf (fun hc=>?_) fun hc=>?_<;>first|(cases hc;done)|(exfalso;(simp at hc<;>omega))|(try simp only[bn]at hc;try contradiction))
       |skip))
  have hc:=this.AH 1;have hn:L.flatten=[]:=List.eq_nil_of_length_eq_zero (by omega);rw[hn];exact hc
 ·have hg:=EI (j8 L) (by omega) hS [];refine ar (C:=ctx) (Fn.of Hd rfl) rfl ?_;unfold c80;repeat' (first
   |((with_reducible first|show aH _|show aP _);simp[vb]<;>omega)
   |exact(rfl:some _=_)
   |(
    fail_if_success refine a7 ?_
    refine aV ?_;repeat1' dsimp only[c80,aA,go_sem]
    first
    |refine a8 ?_ ?_ rfl ?_
    |apply ba
    |apply bc
    |(refine bf (fun hc=>?_) fun hc=>?_<;>first|(cases hc;done)|(exfalso;simp at hc<;>omega)|(try simp only[bn]at hc;try contradiction))
    |skip))
  refine loop1 (by (repeat' (first|exact trivial|refine And.intro (by first|rfl|(simp[get,Nat.beq];done)|(simp[get,Nat.beq];omega)|(dsimp only[get];congr 1<;>first|rfl|omega|(simp;done)|(simp;omega))) ?_))) fun k hk=>?_
  by_cases hlt:k<L.length
  ·have e:=ma L k hlt;clear loop1;have hl:=nF L k hlt;have hl2:=hle (k+1);rw[hl]at hl2 ⊢;clear hl hle hfl;generalize L.getD k []=l at *;generalize j8 (L.take k)=sm at *;repeat' (first
    |((with_reducible show aH _);first|exact True.intro|(simp only[vb,lb,e,f1,hlt];and_intros<;>first|omega|(simp<;>omega)))
    |((with_reducible show aP _);first|exact True.intro|((try dsimp only[go_sem]);(simp[vb,e,f1,hlt]<;>omega)))
    |exact(rfl:some _=_)
    |(
     fail_if_success refine a7 ?_
     refine bJ [(14,{val:=some (.pv (.sl l.length (l.flatMap eZ)))})] ?_;repeat1' dsimp only[c80,aA,go_sem]
     first
     |refine a8 ?_ ?_ rfl ?_
     |apply ba
     |apply bc
     |(refine bf (fun hc=>?_) fun hc=>?_<;>first|(cases hc;done)|(exfalso;(simp at hc<;>omega))|(try simp only[bn]at hc;try contradiction))
     |skip))
   exact⟨hlt,trivial,by (repeat' (first|exact trivial|refine And.intro (by first|rfl|(simp[get,Nat.beq];done)|(simp[get,Nat.beq];omega)|(dsimp only[get];congr 1<;>first|rfl|omega|(simp;done)|(simp;omega))) ?_)),_,rfl⟩
  ·obtain rfl:k=L.length:=by omega
   rw[List.take_length];repeat' (first
    |((with_reducible show aH _);exact True.intro)
    |((with_reducible show aP _);first|exact True.intro|((try dsimp only[go_sem]);(simp only[vb,and_true,true_implies];(repeat' (first|(with_reducible assumption)|(with_reducible apply And.intro)|intro _|((fail_if_success (with_reducible show(_:Int)≤_));assumption))))))
    |exact(rfl:some _=_)
    |(
     fail_if_success refine a7 ?_
     refine bJ [(24,{val:=some (.ref 0 0 0 0),mem:=some [⟨[],0,2,62,false⟩]})] ?_;repeat1' dsimp only[c80,aA,go_sem]
     first
     |refine a8 ?_ ?_ rfl ?_
     |apply ba
     |apply bc
     |(refine bf (fun hc=>?_) fun hc=>?_<;>first|(cases hc;done)|(exfalso;(simp at hc<;>omega))|(try simp only[bn]at hc;try contradiction))
     |skip))
   refine bF L.length (fun _=>True) (fun k=>[(6,.ref 0 k 0 (L.take k).flatten.length),(25,.pv (aA L)),(26,.pv (.int .i64 L.length)),(27,.pv (.int .i64 k))]) (fun k=>[⟨((L.take k).flatten.flatMap eZ).map .pv,k,2,62,false⟩]) trivial (by (repeat' (first|exact trivial|refine And.intro (by first|rfl|(simp[get,Nat.beq];done)|(simp[get,Nat.beq];omega)|(dsimp only[get];congr 1<;>first|rfl|omega|(simp;done)|(simp;omega))) ?_))) ⟨[],rfl⟩ (fun _=>⟨Nat.zero_le _,rfl,by simp[aM,dA]⟩) fun k hk _=>?_
   by_cases hlt:k<L.length
   ·have e:=ma L k hlt;clear loop1;have hl:=nF L k hlt;have hl2:=hle (k+1);have hf:=Bp L k hlt;have f2:=j7 (L.take k).flatten;have f3:=xr (L.take k);generalize L.getD k []=l at *;have f4:=j7 l;rw[hf];generalize (L.take k).flatten=m at *;repeat' (first
     |((with_reducible show aH _);first|exact True.intro|(simp only[vb,lb,e,f1,f2,f4,hlt];and_intros<;>first|omega|(simp<;>omega)))
     |((with_reducible show aP _);first|exact True.intro|((try dsimp only[go_sem]);(simp[vb,e,f1,f2,f4,hlt]<;>omega)))
     |exact(rfl:some _=_)
     |(
      fail_if_success refine a7 ?_
      refine bJ [(30,{val:=some (.pv (.sl l.length (l.flatMap eZ)))}),(33,{mode:=1})] ?_;repeat1' dsimp only[c80,aA,go_sem]
      first
      |refine a8 ?_ ?_ rfl ?_
      |apply ba
      |apply bc
      |(refine bf (fun hc=>?_) fun hc=>?_<;>first|(cases hc;done)|(exfalso;(simp at hc<;>omega))|(try simp only[bn]at hc;try contradiction))
      |skip))
    exact⟨hlt,trivial,by simp only[List.length_append];(repeat' (first|exact trivial|refine And.intro (by first|rfl|(simp[get,Nat.beq];done)|(simp[get,Nat.beq];omega)|(dsimp only[get];congr 1<;>first|rfl|omega|(simp;done)|(simp;omega))) ?_)),[],by simp[List.flatMap_append]⟩
   ·obtain rfl:k=L.length:=by omega
    rw[List.take_length];repeat' (first
     |((with_reducible show aH _);exact True.intro)
     |((with_reducible show aP _);exact True.intro)
     |exact(rfl:some _=_)
     |(
      fail_if_success refine a7 ?_
      refine aV ?_;repeat1' dsimp only[c80,aA,go_sem]
      first
      |refine a8 ?_ ?_ rfl ?_
      |apply ba
      |apply bc
      |(refine bf (fun hc=>?_) fun hc=>?_<;>first|(cases hc;done)|(exfalso;(simp at hc<;>omega))|(try simp only[bn]at hc;try contradiction))
      |skip))
    have f2:=j7 L.flatten;exact lp rfl rfl rfl (by rw[List.drop_zero,List.take_of_length_le (by simp only[List.length_map];omega)]) (by simp only[List.length_map];omega)
end Pur
end
end Go.Proofs.YtaleoeblooeglaaGreatDoor
