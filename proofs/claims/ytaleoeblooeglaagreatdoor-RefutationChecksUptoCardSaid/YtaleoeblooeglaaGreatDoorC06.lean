/-
  RefutationChecks: both libraries check alike, for any system and tree whose bulk is at most 1048576 (the tables laid); names shortened by a program (RfU8 RfU9 RfU10 RfW1 RfTk2 RfCdChecks)
-/
import Derived.Test.YtaleoeblooeglaaGreatDoorC05
set_option maxRecDepth 10000
set_option linter.unusedSimpArgs false
set_option linter.unusedVariables false
namespace Go.Proofs.YtaleoeblooeglaaGreatDoor
namespace Pur
open Go.RowKit
attribute [local go_sem] bG eW bN bu dt fP List.map a8 aH get put tmpsOf dD iL gy im conds ev cond_true cond_false Nat.beq Nat.ble Nat.add quiet dE cB cC ox List.append_eq List.nil_append List.cons_append dC cf cg cj ck cp cu eV eQ di iN dB calm quiet.isCallK cF List.getElem?_cons_zero List.getElem?_cons_succ bk bW cellsOf List.all bA List.length_cons List.length_nil eI bc List.drop List.take List.getD Option.getD_some qc qd pz qe qf qg ef fZ eg eh setAt List.set Nat.reduceAdd Nat.reduceMul cx bq refsOf bD bJ scalar cw dZ bT cv aM after freeze gV gF aS dm dK dd ew cR cS bZ cT cU cX cY cZ c6 c7 c8 da db dc b6 b7 b8 dj iO bytesOf bE cM aR bB dP bw bO cG still bM dY du dR bL ey List.isEmpty b9 ca cd Int.reduceToNat Nat.mul_one Nat.reduceSub nY cN bY dL cE look dM strip guarded fC eA eH cL dQ dk gP cV cW Bool.or_false Bool.or_true Bool.and_true Bool.and_false Nat.blt fQ fq fU dG idxOf gG gH iM eT aM my
section
open Rf
def xm:az:=(⟨_,by conv=>(lhs;reduce;try simp only[ei,Int.cast_ofNat_Int,Int.reduceNegSucc,UInt8.reduceOfNat])⟩:{x // codeOf Tryz.prog 81 (fun _=>false)=some x}).1
theorem yR:bF Tryz.prog 81 (fun _=>false)=some (xm,[.t 8,.t 9,.t 10],117,true):=by kernel_rfl
abbrev Dr (s:Sy):PV:=.agg [ah s.box,ay s.rows,aI s.graphs,aA s.cases]
set_option maxHeartbeats 8000000 in
theorem yS (s:Sy) (rows:List Rw) (b:List Rg) (x:bj) (hx:br x=true) (hk:x.kind=0) (hr:rows.length≤1000000000) (hrt:∀r∈rows,r.terms.length≤1000000000) (hb:b.length≤1000000000) :
  ai ctx 81 [Dr s,ay rows,ah b,dq x] (.tup [ah (de s rows b x).1,.bool (de s rows b x).2.1,.bool (de s rows b x).2.2]):=by
 simp only[br,hk,aK,Bool.and_eq_true,decide_eq_true_eq]at hx;obtain⟨⟨-,x1,x2⟩,x3,x4⟩:=hx;have x3: -1≤x.cell:=by simpa using x3
 obtain⟨i,hi⟩:∃i:Nat,x.index=i:=⟨x.index.toNat,by omega⟩
 obtain⟨kd,ix,cl⟩:=x;simp only at *;subst hk hi;unfold de;rw[if_neg (show ¬(0:Int)=1 by decide)];dsimp only;rw[Int.toNat_natCast];have f1:=gT rows;have f2:=cz b;by_cases h1:(i:Int)<rows.length∧cl<b.length
 ·obtain⟨h1,h2⟩:=h1;have h1':i<rows.length:=by omega
  have e1:=cK kT rows i zw h1';have ht:=hrt _ (aQ (d:=zw) h1');have hti:=fun c=>te b (rows.getD i zw) c hb ht
  rw[if_pos ⟨h1,h2⟩];clear hrt;generalize rows.getD i zw=q at *;by_cases h3:cl<0
  ·rw[if_pos h3];obtain⟨ts,bd⟩:=q;simp only at *;have f3:=iK ts;refine af (C:=ctx) (Fn.of yR rfl) rfl ?_;unfold xm;cases ts with
   |nil =>
    repeat' (first
     |((with_reducible show aF _);first|exact True.intro|(simp only[vb,lb,e1,f1,h1,h1',h2,h3,ff,av];and_intros<;>first|omega|(simp<;>omega)))
     |((with_reducible show aO _);first|exact True.intro|((try dsimp only[go_sem]);(simp[vb,e1,f1,h1,h1',h2,h3,ff,av]<;>omega)))
     |exact(rfl:some _=_)
     |(
      fail_if_success refine aV ?_
      refine bI [(24,{val:=some (.pv (.bool false))}),(29,{val:=some (.pv (.bool false))}),(36,{val:=some (.pv (.agg [.sl 0 [],.int .i64 bd]))}),(39,{val:=some (.pv (.bool true))}),(43,{val:=some (.pv (.bool true))})] ?_;repeat1' dsimp only[xm,dq,aG,ay,ah,aI,aA,av,ff,go_sem]
      first
      |refine aW ?_ ?_ rfl ?_
      |apply aX
      |apply aY
      |(refine aZ (fun hc=>?_) fun hc=>?_<;>first|(cases hc;done)|(try simp only[bn]at hc;try contradiction))
      |skip))
   |cons t0 tr =>
    repeat' (first
     |((with_reducible show aF _);first|exact True.intro|(simp only[vb,lb,e1,f1,h1,h1',h2,h3,ff,av];and_intros<;>first|omega|(simp<;>omega)))
     |((with_reducible show aO _);first|exact True.intro|((try dsimp only[go_sem]);(simp[vb,e1,f1,h1,h1',h2,h3,ff,av]<;>omega)))
     |exact(rfl:some _=_)
     |(
      fail_if_success refine aV ?_
      refine bI [(24,{val:=some (.pv (.bool false))}),(29,{val:=some (.pv (.bool false))}),(36,{val:=some (.pv (.agg [.sl (tr.length+1) ((t0::tr).flatMap ke),.int .i64 bd]))}),(39,{val:=some (.pv (.bool true))}),(43,{val:=some (.pv (.bool false))})] ?_;repeat1' dsimp only[xm,dq,aG,ay,ah,aI,aA,av,ff,go_sem]
      first
      |refine aW ?_ ?_ rfl ?_
      |apply aX
      |apply aY
      |(refine aZ (fun hc=>?_) fun hc=>?_<;>first|(cases hc;done)|(try simp only[bn]at hc;try contradiction))
      |skip))
  ·obtain⟨c,rfl⟩:∃c:Nat,cl=c:=⟨cl.toNat,by omega⟩
   rw[if_neg h3];have hti:=hti c;generalize fu q b c=y at *;have hw:=qT b c y hb;rw[mu,if_pos (by omega)]at hw;rw[Int.toNat_natCast]at hw ⊢;have hl:(b.set c y).length=b.length:=by simp
   generalize b.set c y=b2 at *;unfold av ah at hti;unfold ah at hw;refine af (C:=ctx) (Fn.of yR rfl) rfl ?_;unfold xm;repeat' (first
    |((with_reducible show aF _);first|exact True.intro|(simp only[vb,lb,e1,f1,f2,h1,h1',h2,h3,ff,av,hti,hw];and_intros<;>first|omega|(simp<;>omega)))
    |((with_reducible show aO _);first|exact True.intro|((try dsimp only[go_sem]);(simp[vb,e1,f1,f2,h1,h1',h2,h3,ff,av,hti,hw]<;>omega)))
    |exact(rfl:some _=_)
    |(
     fail_if_success refine aV ?_
     refine dH [(109,fun _=>some (.agg [.int .i64 y.lo,.int .i64 y.hi])),(34,fun _=>some (.sl b2.length (b2.flatMap gZ)))] [(24,{val:=some (.pv (.bool false))}),(29,{val:=some (.pv (.bool false))}),(36,{val:=some (.pv (.agg [.sl q.terms.length (q.terms.flatMap ke),.int .i64 q.bound]))}),(39,{val:=some (.pv (.bool false))})] ?_;repeat1' dsimp only[xm,dq,aG,ay,ah,aI,aA,av,go_sem]
     first
     |refine aW ?_ ?_ rfl ?_
     |apply aX
     |apply aY
     |(refine aZ (fun hc=>?_) fun hc=>?_<;>first|(cases hc;done)|(try simp only[bn]at hc;try contradiction))
     |skip))
 ·rw[if_neg h1];refine af (C:=ctx) (Fn.of yR rfl) rfl ?_;unfold xm;by_cases h2:(i:Int)<rows.length
  ·repeat' (first
    |((with_reducible show aF _);first|exact True.intro|(simp only[vb,lb,h1,h2];and_intros<;>first|omega|(simp<;>omega)))
    |((with_reducible show aO _);first|exact True.intro|((try dsimp only[go_sem]);(simp[vb,h1,h2]<;>omega)))
    |exact(rfl:some _=_)
    |(
     fail_if_success refine aV ?_
     refine bI [(24,{val:=some (.pv (.bool false))}),(29,{val:=some (.pv (.bool true))})] ?_;repeat1' dsimp only[xm,dq,aG,ay,ah,aI,aA,go_sem]
     first
     |refine aW ?_ ?_ rfl ?_
     |apply aX
     |apply aY
     |(refine aZ (fun hc=>?_) fun hc=>?_<;>first|(cases hc;done)|(try simp only[bn]at hc;try contradiction))
     |skip))
  ·repeat' (first
    |((with_reducible show aF _);first|exact True.intro|(simp only[vb,lb,h2];and_intros<;>first|omega|(simp<;>omega)))
    |((with_reducible show aO _);first|exact True.intro|((try dsimp only[go_sem]);(simp[vb,h2]<;>omega)))
    |exact(rfl:some _=_)
    |(
     fail_if_success refine aV ?_
     refine bI [(24,{val:=some (.pv (.bool true))})] ?_;repeat1' dsimp only[xm,dq,aG,ay,ah,aI,aA,go_sem]
     first
     |refine aW ?_ ?_ rfl ?_
     |apply aX
     |apply aY
     |(refine aZ (fun hc=>?_) fun hc=>?_<;>first|(cases hc;done)|(try simp only[bn]at hc;try contradiction))
     |skip))
set_option maxHeartbeats 8000000 in
theorem vj (s:Sy) (rows:List Rw) (b:List Rg) (x:bj) (hx:br x=true) (hk:x.kind=1) (hs:∀q∈s.graphs,bS b.length q=true) (hg:s.graphs.length≤1000000000) (hb:dF b=true) :
  ai ctx 81 [Dr s,ay rows,ah b,dq x] (.tup [ah (de s rows b x).1,.bool (de s rows b x).2.1,.bool (de s rows b x).2.2]):=by
 simp only[br,hk,aK,Bool.and_eq_true,decide_eq_true_eq]at hx;obtain⟨⟨-,x1,x2⟩,x3,x4⟩:=hx;have x3:0≤x.cell:=by simpa using x3
 obtain⟨i,hi⟩:∃i:Nat,x.index=i:=⟨x.index.toNat,by omega⟩
 have hbl:b.length≤128:=by
  simp only[dF,Bool.and_eq_true,decide_eq_true_eq]at hb;exact hb.2
 obtain⟨kd,ix,cl⟩:=x;simp only at *;subst hk hi;unfold de;rw[if_pos rfl];dsimp only;rw[Int.toNat_natCast];have f1:=qM s.graphs;have f2:=cz b;by_cases h1:(i:Int)<s.graphs.length
 ·have h1':i<s.graphs.length:=by omega
  have e1:=cK oZ s.graphs i zg h1';have hgo:=hs _ (aQ (d:=zg) h1');have hcu:=fun k hk=>Dq b (s.graphs.getD i zg) k hgo hb hk
  rw[if_pos h1];clear hs;generalize s.graphs.getD i zg=g at *;simp only[bS,aK,Bool.and_eq_true,decide_eq_true_eq]at hgo;obtain⟨⟨⟨⟨⟨g1,g2⟩,g3⟩,g4⟩,g5⟩,g6⟩:=hgo;have hsq:=nP g1 g2;by_cases h2:g.first≤cl∧cl<g.first+g.least.length
  ·obtain⟨k,hk⟩:∃k:Nat,cl-g.first=k:=⟨(cl-g.first).toNat,by omega⟩
   rw[if_pos h2];have hcu:=hcu k (by omega);rw[hk,Int.toNat_natCast];generalize tc g b k=y at *;have hw:=qT b cl y (by omega);rw[mu,if_pos (by omega)]at hw;generalize b.set cl.toNat y=b2 at *;obtain⟨fi,sz,le⟩:=g;simp only at *;unfold aj ah at hcu;unfold ah at hw;refine af (C:=ctx) (Fn.of yR rfl) rfl ?_;unfold xm;repeat' (first
    |((with_reducible show aF _);first|exact True.intro|(simp only[vb,lb,e1,f1,f2,h1,h1',h2,hk,g5,eU,aj,hcu,hw];and_intros<;>first|omega|(simp<;>omega)))
    |((with_reducible show aO _);first|exact True.intro|((try dsimp only[go_sem]);(simp[vb,e1,f1,f2,h1,h1',h2,hk,g5,eU,aj,hcu,hw]<;>omega)))
    |exact(rfl:some _=_)
    |(
     fail_if_success refine aV ?_
     refine dH [(110,fun _=>some (.agg [.int .i64 y.lo,.int .i64 y.hi])),(34,fun _=>some (.sl b2.length (b2.flatMap gZ)))] [(79,{val:=some (.pv (.agg [.int .i64 fi,.int .i64 sz,.sl le.length (le.flatMap cA)]))}),(84,{val:=some (.pv (.bool false))}),(96,{val:=some (.pv (.bool false))}),(105,{val:=some (.pv (.int .i64 k))})] ?_;repeat1' dsimp only[xm,dq,aG,ay,ah,aI,aA,aj,eU,go_sem]
     first
     |refine aW ?_ ?_ rfl ?_
     |apply aX
     |apply aY
     |(refine aZ (fun hc=>?_) fun hc=>?_<;>first|(cases hc;done)|(exfalso;(simp at hc<;>omega))|(try simp only[bn]at hc;try contradiction))
     |skip))
  ·rw[if_neg h2];obtain⟨fi,sz,le⟩:=g;simp only at *;by_cases h3:cl<fi
   ·refine af (C:=ctx) (Fn.of yR rfl) rfl ?_;unfold xm;repeat' (first
     |((with_reducible show aF _);first|exact True.intro|(simp only[vb,lb,e1,f1,f2,h1,h1',h2,h3,g5,eU,aj];and_intros<;>first|omega|(simp<;>omega)))
     |((with_reducible show aO _);first|exact True.intro|((try dsimp only[go_sem]);(simp[vb,e1,f1,f2,h1,h1',h2,h3,g5,eU,aj]<;>omega)))
     |exact(rfl:some _=_)
     |(
      fail_if_success refine aV ?_
      refine bI [(79,{val:=some (.pv (.agg [.int .i64 fi,.int .i64 sz,.sl le.length (le.flatMap cA)]))}),(84,{val:=some (.pv (.bool true))})] ?_;repeat1' dsimp only[xm,dq,aG,ay,ah,aI,aA,aj,eU,go_sem]
      first
      |refine aW ?_ ?_ rfl ?_
      |apply aX
      |apply aY
      |(refine aZ (fun hc=>?_) fun hc=>?_<;>first|(cases hc;done)|(exfalso;(simp at hc<;>omega))|(try simp only[bn]at hc;try contradiction))
      |skip))
   ·refine af (C:=ctx) (Fn.of yR rfl) rfl ?_;unfold xm;repeat' (first
     |((with_reducible show aF _);first|exact True.intro|(simp only[vb,lb,e1,f1,f2,h1,h1',h2,h3,g5,eU,aj];and_intros<;>first|omega|(simp<;>omega)))
     |((with_reducible show aO _);first|exact True.intro|((try dsimp only[go_sem]);(simp[vb,e1,f1,f2,h1,h1',h2,h3,g5,eU,aj]<;>omega)))
     |exact(rfl:some _=_)
     |(
      fail_if_success refine aV ?_
      refine bI [(79,{val:=some (.pv (.agg [.int .i64 fi,.int .i64 sz,.sl le.length (le.flatMap cA)]))}),(84,{val:=some (.pv (.bool false))}),(96,{val:=some (.pv (.bool true))})] ?_;repeat1' dsimp only[xm,dq,aG,ay,ah,aI,aA,aj,eU,go_sem]
      first
      |refine aW ?_ ?_ rfl ?_
      |apply aX
      |apply aY
      |(refine aZ (fun hc=>?_) fun hc=>?_<;>first|(cases hc;done)|(exfalso;(simp at hc<;>omega))|(try simp only[bn]at hc;try contradiction))
      |skip))
 ·rw[if_neg h1];refine af (C:=ctx) (Fn.of yR rfl) rfl ?_;unfold xm;repeat' (first
   |((with_reducible show aF _);first|exact True.intro|(simp only[vb,lb,h1];and_intros<;>first|omega|(simp<;>omega)))
   |((with_reducible show aO _);exact True.intro)
   |exact(rfl:some _=_)
   |(
    fail_if_success refine aV ?_
    refine a7 ?_;repeat1' dsimp only[xm,dq,aG,ay,ah,aI,aA,go_sem]
    first
    |refine aW ?_ ?_ rfl ?_
    |apply aX
    |apply aY
    |(refine aZ (fun hc=>?_) fun hc=>?_<;>first|(cases hc;done)|(exfalso;(simp at hc<;>omega))|(try simp only[bn]at hc;try contradiction))
    |skip))
theorem Bp (s:Sy) (rows:List Rw) (b:List Rg) (x:bj) (hx:br x=true) (hs:∀q∈s.graphs,bS b.length q=true) (hg:s.graphs.length≤1000000000) (hr:rows.length≤1000000000) (hrt:∀r∈rows,r.terms.length≤1000000000) (hb:dF b=true) :
  ai ctx 81 [Dr s,ay rows,ah b,dq x] (.tup [ah (de s rows b x).1,.bool (de s rows b x).2.1,.bool (de s rows b x).2.2]):=by
 have hbl:b.length≤128:=by
  simp only[dF,Bool.and_eq_true,decide_eq_true_eq]at hb;exact hb.2
 have hx':=hx;simp only[br,aK,Bool.and_eq_true,decide_eq_true_eq]at hx';by_cases hk:x.kind=1
 ·exact vj s rows b x hx hk hs hg hb
 ·exact yS s rows b x hx (by omega) hr hrt (by omega)
end
section
open Rf
def sW:az:=(⟨_,by conv=>(lhs;reduce;try simp only[ei,Int.cast_ofNat_Int,Int.reduceNegSucc,UInt8.reduceOfNat])⟩:{x // codeOf Tryz.prog 48 (fun d=>Nat.beq d 131)=some x}).1
theorem Hp:bF Tryz.prog 48 (fun d=>Nat.beq d 131)=some (sW,[.t 10],176,true):=by kernel_rfl
abbrev Ds (s:Sy):fF:=⟨[.pv (ah s.box),.pv (ay s.rows),.pv (aI s.graphs),.pv (aA s.cases)],0,4,36,false⟩
set_option maxHeartbeats 16000000 in
theorem xn (s:Sy) (hs:uk s) (n:Nat) (hm:zN s n):∀(t:Tree),ec t=true→wt t≤1000000000→∀(rows:List Rw) (b:List Rg) (ch:Bool),rows.length≤mi ch→(∀r∈rows,r.terms.length≤1000000000)→(∀r∈rows,ic n r=true)→b.length=n→n≤128→(eP b=true∨dF b=true) →
  ai ctx 48 [Dr s,ay rows,ah b,.bool ch,aE t] (.bool (bp s t rows b ch)):=by
 refine Tree.ind fun kd st c a l ih hf hw rows b ch hr hrt hrow hn hn1 hbo=>?_
 rw[cJ]at hw;have hl:=il l;rw[dO]at hf;simp only[Bool.and_eq_true]at hf;obtain⟨⟨hf1,hf2⟩,hf3⟩:=hf;have hE:=nz b (by omega);have hr':rows.length≤1001000:=by unfold mi at hr;cases ch<;>simp at hr<;>omega
 rw[oY];have f1:=iv st;have f2:=cz b;by_cases heb:eP b=true
 ·rw[heb]at hE ⊢;simp only[if_true];unfold ah at hE;refine af (C:=ctx) (Fn.of Hp rfl) rfl ?_;unfold sW;repeat' (first
   |((with_reducible show aF _);exact True.intro)
   |((with_reducible show aO _);first|exact True.intro|((try dsimp only[go_sem]);(simp[vb,hE]<;>omega)))
   |exact(rfl:some _=_)
   |(
    fail_if_success refine aV ?_
    refine iu [(61,fun _=>some (.bool true))] ?_;repeat1' dsimp only[sW,aE,Tree.kind,Tree.steps,Tree.cell,Tree.pos,Tree.kids,aa,an,ah,ay,aI,aA,go_sem]
    first
    |refine aW ?_ ?_ rfl ?_
    |apply aX
    |apply aY
    |(refine aZ (fun hc=>?_) fun hc=>?_<;>first|(cases hc;done)|(try simp only[bn]at hc;try contradiction))
    |skip))
 ·have hbo:=hbo.resolve_left heb;rw[Bool.eq_false_iff.mpr heb]at hE ⊢;simp only[Bool.false_eq_true,if_false];unfold ah at hE;refine af (C:=ctx) (Fn.of Hp rfl) rfl ?_;unfold sW;repeat' (first
   |((with_reducible show aF _);exact True.intro)
   |((with_reducible show aO _);first|exact True.intro|((try dsimp only[go_sem]);(simp[vb,hE]<;>omega)))
   |exact(rfl:some _=_)
   |(
    fail_if_success refine aV ?_
    refine iu [(61,fun _=>some (.bool false))] ?_;repeat1' dsimp only[sW,aE,Tree.kind,Tree.steps,Tree.cell,Tree.pos,Tree.kids,aa,an,ah,ay,aI,aA,go_sem]
    first
    |refine aW ?_ ?_ rfl ?_
    |apply aX
    |apply aY
    |(refine aZ (fun hc=>?_) fun hc=>?_<;>first|(cases hc;done)|(try simp only[bn]at hc;try contradiction))
    |skip))
  refine ek (σ:=Nat×List Rg) (fun q=>q.1≤st.length∧q.2.length=n∧dF q.2=true∧gp s rows (st.drop q.1) q.2=gp s rows st b)
   (fun q=>[(1,.pv (ay rows)),(2,.pv (ah q.2)),(3,.pv (.bool ch)),(5,.ptr 0 0 0),(9,.ptr 1 0 0),(10,.pv (.bool false)),(11,.pv (.int .i64 q.1))])
   (fun _=>[Ds s,ae (.node kd st c a l)]) (fun q=>st.length-q.1) (0,b) ⟨Nat.zero_le _,hn,hbo,rfl⟩ (by (repeat' (first|exact trivial|refine And.intro (by first|rfl|(simp[get,Nat.beq];done)|(simp[get,Nat.beq];omega)|(dsimp only[get];congr 1<;>first|rfl|omega|(simp;done)|(simp;omega))) ?_))) ⟨[],rfl⟩ (fun _ _=>⟨Nat.zero_le _,rfl,by simp[aP,ae,dJ]⟩) fun q hq=>?_
  obtain⟨k,bb⟩:=q;obtain⟨p1,p2,p4,p3⟩:=hq;simp only at p1 p2 p3 p4 ⊢;clear hE;by_cases hlt:k<st.length
  ·have e:=cK dN st k zs hlt;have hx:=List.all_eq_true.mp hf1 _ (aQ (d:=zs) hlt);rw[eD st k zs hlt,gp]at p3;generalize st.getD k zs=x at *;have hst:=Bp s rows bb x hx (by rw[p2];exact hm.g) hs.g (by omega) hrt p4;have hln:=pN s rows bb x;have hcp:=C9 s rows bb x;have hsu:=Dc p4 (by rw[p2];exact hrow) (by rw[p2];exact hm.g) x (by
    simp only[br,aK,Bool.and_eq_true,decide_eq_true_eq]at hx;omega)
   generalize de s rows bb x=q at *;obtain⟨b2,pp,cc⟩:=q;simp only at hst hln p3 hsu hcp;unfold Dr ah ay aI aA dq at hst;simp only[aG]at hst;rw[←p3];cases pp with
   |false =>
    obtain rfl:cc=false:=by
     cases cc with
     |false=>rfl
     |true=>exact absurd (hcp rfl) (by simp)
    simp only[Bool.false_eq_true,if_false];repeat' (first
     |((with_reducible show aF _);first|exact True.intro|(simp only[vb,lb,e,f1,hlt,aG,hst];and_intros<;>first|omega|(simp<;>omega)))
     |((with_reducible show aO _);first|exact True.intro|((try dsimp only[go_sem]);(simp[vb,e,f1,hlt,aG,hst]<;>omega)))
     |exact(rfl:some _=_)
     |(
      fail_if_success refine aV ?_
      refine dH [(81,fun _=>some (.tup [.sl b2.length (b2.flatMap gZ),.bool false,.bool false]))] [(39,{val:=some (.pv (.agg [.int .i64 x.kind,.int .i64 x.index,.int .i64 x.cell]))})] ?_;repeat1' dsimp only[sW,ae,Tree.kind,Tree.steps,Tree.cell,Tree.pos,Tree.kids,aa,an,ah,ay,aI,aA,go_sem]
      first
      |refine aW ?_ ?_ rfl ?_
      |apply aX
      |apply aY
      |(refine aZ (fun hc=>?_) fun hc=>?_<;>first|(cases hc;done)|(exfalso;(simp at hc<;>omega))|(try simp only[bn]at hc;try contradiction))
      |skip))
   |true =>
    cases cc with
    |true =>
     simp only[if_true];repeat' (first
      |((with_reducible show aF _);first|exact True.intro|(simp only[vb,lb,e,f1,hlt,aG,hst];and_intros<;>first|omega|(simp<;>omega)))
      |((with_reducible show aO _);first|exact True.intro|((try dsimp only[go_sem]);(simp[vb,e,f1,hlt,aG,hst]<;>omega)))
      |exact(rfl:some _=_)
      |(
       fail_if_success refine aV ?_
       refine dH [(81,fun _=>some (.tup [.sl b2.length (b2.flatMap gZ),.bool true,.bool true]))] [(39,{val:=some (.pv (.agg [.int .i64 x.kind,.int .i64 x.index,.int .i64 x.cell]))})] ?_;repeat1' dsimp only[sW,ae,Tree.kind,Tree.steps,Tree.cell,Tree.pos,Tree.kids,aa,an,ah,ay,aI,aA,go_sem]
       first
       |refine aW ?_ ?_ rfl ?_
       |apply aX
       |apply aY
       |(refine aZ (fun hc=>?_) fun hc=>?_<;>first|(cases hc;done)|(exfalso;(simp at hc<;>omega))|(try simp only[bn]at hc;try contradiction))
       |skip))
    |false =>
     simp only[Bool.false_eq_true,if_false,if_true];obtain⟨-,u2⟩:=(hsu rfl).resolve_left (by simp);repeat' (first
      |((with_reducible show aF _);first|exact True.intro|(simp only[vb,lb,e,f1,hlt,aG,hst];and_intros<;>first|omega|(simp<;>omega)))
      |((with_reducible show aO _);first|exact True.intro|((try dsimp only[go_sem]);(simp[vb,e,f1,hlt,aG,hst]<;>omega)))
      |exact(rfl:some _=_)
      |(
       fail_if_success refine aV ?_
       refine dH [(81,fun _=>some (.tup [.sl b2.length (b2.flatMap gZ),.bool true,.bool false]))] [(39,{val:=some (.pv (.agg [.int .i64 x.kind,.int .i64 x.index,.int .i64 x.cell]))})] ?_;repeat1' dsimp only[sW,ae,Tree.kind,Tree.steps,Tree.cell,Tree.pos,Tree.kids,aa,an,ah,ay,aI,aA,go_sem]
       first
       |refine aW ?_ ?_ rfl ?_
       |apply aX
       |apply aY
       |(refine aZ (fun hc=>?_) fun hc=>?_<;>first|(cases hc;done)|(exfalso;(simp at hc<;>omega))|(try simp only[bn]at hc;try contradiction))
       |skip))
     exact⟨(k+1,b2),by show st.length-(k+1)<st.length-k;omega,⟨by show k+1≤_;omega,hln.trans p2,u2,rfl⟩,by (repeat' (first|exact trivial|refine And.intro (by first|rfl|(simp[get,Nat.beq];done)|(simp[get,Nat.beq];omega)|(dsimp only[get];congr 1<;>first|rfl|omega|(simp;done)|(simp;omega))) ?_)),_,rfl⟩
  ·obtain rfl:k=st.length:=by omega
   rw[List.drop_length,gp]at p3;rw[←p3];simp only;clear p3 hf1 heb hbo;have f3:=gJ l;have f4:=cz bb;by_cases hk1:kd=1
   ·subst hk1;simp[cD,aK]at hf2;obtain⟨⟨t1,t2,t3⟩,t4,t5⟩:=hf2;by_cases hc:c<bb.length
    ·have hc9:=hc;obtain⟨k0,k1,hl2⟩:∃k0 k1,l=[k0,k1]:=by
      match l,t1 with
      |[k0,k1],_=>exact⟨k0,k1,rfl⟩
     have hacc:nK s 1 c a (l.map (bp s)) rows bb ch=(bp s k0 rows (bb.set c.toNat ⟨(bb.getD c.toNat zr).lo,min (bb.getD c.toNat zr).hi a⟩) ch&&bp s k1 rows (bb.set c.toNat ⟨max (bb.getD c.toNat zr).lo (a+1),(bb.getD c.toNat zr).hi⟩) ch):=by
      rw[nK,if_pos rfl,if_pos hc,hl2];rfl
     rw[hacc];have hk0:k0∈l:=by rw[hl2];simp
     have hk1:k1∈l:=by rw[hl2];simp
     have hf30:=List.all_eq_true.mp hf3 k0 hk0;have hf31:=List.all_eq_true.mp hf3 k1 hk1;have hwk0:=jU hk0;have hwk1:=jU hk1;have e0:=fR l 0 (by omega);have e1:=fR l 1 (by omega);rw[show l.getD 0 zt=k0 by rw[hl2];rfl]at e0;rw[show l.getD 1 zt=k1 by rw[hl2];rfl]at e1;clear hacc hl2;obtain⟨cn,rfl⟩:∃cn:Nat,c=cn:=⟨c.toNat,by omega⟩
     rw[Int.toNat_natCast];have hcb:cn<bb.length:=by omega
     have e:=kF bb (cn:Int) (by omega) (by omega);rw[Int.toNat_natCast]at e;have hx:=kY (ig p4 cn);generalize hxx:bb.getD cn zr=x at *;have hw1:=qT bb cn ⟨x.lo,min x.hi a⟩ (by omega);have hw2:=qT bb cn ⟨max x.lo (a+1),x.hi⟩ (by omega);rw[mu,if_pos (by omega),Int.toNat_natCast]at hw1 hw2;have m1:nx ⟨x.lo,min x.hi a⟩ (bb.getD cn zr):=⟨by rw[hxx];exact Int.le_refl _,by rw[hxx];show min _ _≤_;omega⟩
     have m2:nx ⟨max x.lo (a+1),x.hi⟩ (bb.getD cn zr):=⟨by rw[hxx];show _≤max _ _;omega,by rw[hxx];exact Int.le_refl _⟩
     have q1:=ih k0 hk0 hf30 (by omega) rows (bb.set cn ⟨x.lo,min x.hi a⟩) ch hr hrt hrow (by simpa using p2) hn1 (ui hcb p4 m1);have q2:=ih k1 hk1 hf31 (by omega) rows (bb.set cn ⟨max x.lo (a+1),x.hi⟩) ch hr hrt hrow (by simpa using p2) hn1 (ui hcb p4 m2);clear ih hxx m1 m2 hm;generalize bp s k0 rows (bb.set cn ⟨x.lo,min x.hi a⟩) ch=r1 at *;generalize bp s k1 rows (bb.set cn ⟨max x.lo (a+1),x.hi⟩) ch=r2 at *;generalize bb.set cn ⟨x.lo,min x.hi a⟩=bl at *;generalize bb.set cn ⟨max x.lo (a+1),x.hi⟩=bh at *;simp only[Nat.zero_mul,Nat.one_mul]at e0 e1
     obtain⟨a0,a1,a2,a3,a4⟩:=k0;obtain⟨d0,d1,d2,d3,d4⟩:=k1;simp only[Tree.kind,Tree.steps,Tree.cell,Tree.pos,Tree.kids]at e0 e1;simp only[aE,Tree.kind,Tree.steps,Tree.cell,Tree.pos,Tree.kids]at q1 q2;unfold ah at hw1 hw2;unfold Dr ah ay aI aA an aa at q1 q2;unfold an aa at e0 e1;cases r1 with
     |true =>
      repeat' (first
       |((with_reducible show aF _);first|exact True.intro|(simp only[vb,lb,e,e0,e1,f3,t1,f4,hc,hcb,fL,jf,hw1,hw2,q1,q2];and_intros<;>first|omega|(simp<;>omega)))
       |((with_reducible show aO _);first|exact True.intro|((try dsimp only[go_sem]);first|(simp[vb,e,e0,e1,f3,t1,f4,hc,hcb,fL,jf,hw1,hw2,q1,q2]<;>omega)|(simp only[vb,and_true,true_implies];(repeat' (first|(with_reducible assumption)|(with_reducible apply And.intro)|intro _|((fail_if_success (with_reducible show(_:Int)≤_));assumption)))<;>first|omega|(simp only[ab,e,e0,e1,f3,t1,f4,hc,hcb,fL,jf,hw1,hw2,q1,q2];done)|(simp_all;done))))
       |exact(rfl:some _=_)
       |(
        fail_if_success refine aV ?_
        refine bI [(62,{val:=some (.pv (.agg [.int .i64 x.lo,.int .i64 x.hi]))}),(72,{val:=some (.pv (.int .i64 (min x.hi a)))}),(74,{val:=some (.pv (.sl bl.length (bl.flatMap gZ)))}),(83,{val:=some (.pv (.int .i64 (max x.lo (a+1))))}),(87,{val:=some (.pv (.sl bh.length (bh.flatMap gZ)))}),(95,{val:=some (.pv (.agg [.int .i64 a0,.sl a1.length (a1.flatMap aG),.int .i64 a2,.int .i64 a3,.sl a4.length (a4.flatMap gu)]))}),(96,{val:=some (.pv (.bool true))}),(105,{val:=some (.pv (.agg [.int .i64 d0,.sl d1.length (d1.flatMap aG),.int .i64 d2,.int .i64 d3,.sl d4.length (d4.flatMap gu)]))}),(106,{val:=some (.pv (.bool r2))})] ?_
        repeat1' dsimp only[sW,ae,Tree.kind,Tree.steps,Tree.cell,Tree.pos,Tree.kids,aa,an,ah,ay,aI,aA,go_sem]
        first
        |refine aW ?_ ?_ rfl ?_
        |apply aX
        |apply aY
        |(refine aZ (fun hc=>?_) fun hc=>?_<;>first|(cases hc;done)|(exfalso;(simp at hc<;>omega))|(try simp only[bn]at hc;try contradiction))
        |skip))
     |false =>
      repeat' (first
       |((with_reducible show aF _);first|exact True.intro|(simp only[vb,lb,e,e0,e1,f3,t1,f4,hc,hcb,fL,jf,hw1,hw2,q1,q2];and_intros<;>first|omega|(simp<;>omega)))
       |((with_reducible show aO _);first|exact True.intro|((try dsimp only[go_sem]);first|(simp[vb,e,e0,e1,f3,t1,f4,hc,hcb,fL,jf,hw1,hw2,q1,q2]<;>omega)|(simp only[vb,and_true,true_implies];(repeat' (first|(with_reducible assumption)|(with_reducible apply And.intro)|intro _|((fail_if_success (with_reducible show(_:Int)≤_));assumption)))<;>first|omega|(simp only[ab,e,e0,e1,f3,t1,f4,hc,hcb,fL,jf,hw1,hw2,q1,q2];done)|(simp_all;done))))
       |exact(rfl:some _=_)
       |(
        fail_if_success refine aV ?_
        refine bI [(62,{val:=some (.pv (.agg [.int .i64 x.lo,.int .i64 x.hi]))}),(72,{val:=some (.pv (.int .i64 (min x.hi a)))}),(74,{val:=some (.pv (.sl bl.length (bl.flatMap gZ)))}),(83,{val:=some (.pv (.int .i64 (max x.lo (a+1))))}),(87,{val:=some (.pv (.sl bh.length (bh.flatMap gZ)))}),(95,{val:=some (.pv (.agg [.int .i64 a0,.sl a1.length (a1.flatMap aG),.int .i64 a2,.int .i64 a3,.sl a4.length (a4.flatMap gu)]))}),(96,{val:=some (.pv (.bool false))}),(105,{val:=some (.pv (.agg [.int .i64 d0,.sl d1.length (d1.flatMap aG),.int .i64 d2,.int .i64 d3,.sl d4.length (d4.flatMap gu)]))}),(106,{val:=some (.pv (.bool r2))})] ?_
        repeat1' dsimp only[sW,ae,Tree.kind,Tree.steps,Tree.cell,Tree.pos,Tree.kids,aa,an,ah,ay,aI,aA,go_sem]
        first
        |refine aW ?_ ?_ rfl ?_
        |apply aX
        |apply aY
        |(refine aZ (fun hc=>?_) fun hc=>?_<;>first|(cases hc;done)|(exfalso;(simp at hc<;>omega))|(try simp only[bn]at hc;try contradiction))
        |skip))
    ·rw[nK,if_pos rfl,if_neg hc];repeat' (first
      |((with_reducible show aF _);first|exact True.intro|(simp only[vb,lb,hc];and_intros<;>first|omega|(simp<;>omega)))
      |((with_reducible show aO _);first|exact True.intro|((try dsimp only[go_sem]);(simp[vb,hc]<;>omega)))
      |exact(rfl:some _=_)
      |(
       fail_if_success refine aV ?_
       refine bI [(110,{val:=some (.pv (.bool false))})] ?_;repeat1' dsimp only[sW,ae,Tree.kind,Tree.steps,Tree.cell,Tree.pos,Tree.kids,aa,an,ah,ay,aI,aA,go_sem]
       first
       |refine aW ?_ ?_ rfl ?_
       |apply aX
       |apply aY
       |(refine aZ (fun hc=>?_) fun hc=>?_<;>first|(cases hc;done)|(exfalso;(simp at hc<;>omega))|(try simp only[bn]at hc;try contradiction))
       |skip))
   ·by_cases hk2:kd=2
    ·subst hk2;simp[cD]at hf2;obtain⟨⟨⟨t1,t2⟩,rfl⟩,rfl⟩:=hf2;have hcc:=hs.c;unfold nK;rw[if_neg (by decide),if_pos rfl,List.length_map];cases ch with
     |true =>
      repeat' (first
       |((with_reducible show aF _);first|exact True.intro|(simp only[vb,lb,hlt];and_intros<;>first|omega|(simp<;>omega)))
       |((with_reducible show aO _);first|exact True.intro|((try dsimp only[go_sem]);(simp[vb,hlt]<;>omega)))
       |exact(rfl:some _=_)
       |(
        fail_if_success refine aV ?_
        refine bI [(57,{val:=some (.pv (.bool false))}),(114,{val:=some (.pv (.bool false))}),(123,{val:=some (.pv (.bool false))})] ?_;repeat1' dsimp only[sW,ae,Tree.kind,Tree.steps,Tree.cell,Tree.pos,Tree.kids,aa,an,ah,ay,aI,aA,go_sem]
        first
        |refine aW ?_ ?_ rfl ?_
        |apply aX
        |apply aY
        |(refine aZ (fun hc=>?_) fun hc=>?_<;>first|(cases hc;done)|(exfalso;(simp at hc<;>omega))|(try simp only[bn]at hc;try contradiction))
        |skip))
     |false =>
      by_cases hlc:l.length=s.cases.length
      ·rw[decide_eq_true hlc];have hlc':(l.length:Int)=(s.cases.length:Int):=by omega
       simp only[Bool.not_false,Bool.true_and];generalize hres:nc rows bb (l.map (bp s)) s.cases=res;repeat' (first
        |((with_reducible show aF _);first|exact True.intro|(simp only[vb,lb,hlt,hlc'];and_intros<;>first|omega|(simp<;>omega)))
        |((with_reducible show aO _);first|exact True.intro|((try dsimp only[go_sem]);(simp[vb,hlt,hlc']<;>omega)))
        |exact(rfl:some _=_)
        |(
         fail_if_success refine aV ?_
         refine bI [(57,{val:=some (.pv (.bool false))}),(114,{val:=some (.pv (.bool true))}),(122,{val:=some (.pv (.bool true))}),(123,{val:=some (.pv (.bool true))})] ?_;repeat1' dsimp only[sW,ae,Tree.kind,Tree.steps,Tree.cell,Tree.pos,Tree.kids,aa,an,ah,ay,aI,aA,go_sem]
         first
         |refine aW ?_ ?_ rfl ?_
         |apply aX
         |apply aY
         |(refine aZ (fun hc=>?_) fun hc=>?_<;>first|(cases hc;done)|(exfalso;(simp at hc<;>omega))|(try simp only[bn]at hc;try contradiction))
         |skip))
       refine ek (σ:=Nat) (fun k=>k≤l.length∧nc rows bb ((l.map (bp s)).drop k) (s.cases.drop k)=res)
        (fun k=>[(1,.pv (ay rows)),(2,.pv (ah bb)),(5,.ptr 0 0 0),(9,.ptr 1 0 0),(10,.pv (.bool false)),(18,.pv (.int .i64 k))])
        (fun k=>[Ds s,ae (.node 2 st 0 0 l)]) (fun k=>l.length-k) 0 ⟨Nat.zero_le _,hres⟩ (by (repeat' (first|exact trivial|refine And.intro (by first|rfl|(simp[get,Nat.beq];done)|(simp[get,Nat.beq];omega)|(dsimp only[get];congr 1<;>first|rfl|omega|(simp;done)|(simp;omega))) ?_))) ⟨[],rfl⟩ (fun _ _=>⟨Nat.zero_le _,rfl,by simp[aP,ae,dJ]⟩) fun k hq=>?_
       obtain⟨q1,q2⟩:=hq;by_cases hlk:k<l.length
       ·have hkc:k<s.cases.length:=by omega
        have e:=fR l k hlk;have e2:=mh s.cases k hkc;have e3:=l9 s.cases;have hmc:=aQ (d:=([]:List Rw)) hkc;have hcl:=hs.l _ hmc;have hcr:=hm.c _ hmc;have hmem:=aQ (d:=zt) hlk;have hwk:=jU hmem;have hih:=ih _ hmem (List.all_eq_true.mp hf3 _ hmem) (by omega) (rows++s.cases.getD k []) bb true (by rw[List.length_append];unfold mi at hr ⊢;simp only[cond_true,cond_false]at hr ⊢;omega) (fun r hr=>by
         rcases List.mem_append.mp hr with h|h
         ·exact hrt r h
         ·exact hcl.2 r h) (fun r hr=>by
         rcases List.mem_append.mp hr with h|h
         ·exact hrow r h
         ·exact hcr r h) p2 hn1 (.inr p4)
        rw[eD _ k (bp s zt) (by simpa using hlk),eD s.cases k [] hkc,nc]at q2;rw[show(l.map (bp s)).getD k (bp s zt)=bp s (l.getD k zt) by simp[List.getD]]at q2;generalize hrest:nc rows bb ((l.map (bp s)).drop (k+1)) (s.cases.drop (k+1))=rest at *;clear ih hres hcr hmc hmem;generalize s.cases.getD k []=cs at *;have hcl1:=hcl.1;have hcl2:=hcl.2;clear hcl;generalize l.getD k zt=x at *;generalize bp s x (rows++cs) bb true=qx at *;obtain⟨a0,a1,a2,a3,a4⟩:=x;simp only[aE,Tree.kind,Tree.steps,Tree.cell,Tree.pos,Tree.kids]at hih e
        unfold Dr ah ay aI aA an aa at hih;have g1:=gT rows;have g2:=gT cs;repeat' (first
         |((with_reducible show aF _);first|exact True.intro|(simp only[vb,lb,hlk,hkc];and_intros<;>first|omega|(simp<;>omega)))
         |((with_reducible show aO _);exact True.intro)
         |exact(rfl:some _=_)
         |(
          fail_if_success refine aV ?_
          refine a7 ?_;repeat1' dsimp only[sW,ae,Tree.kind,Tree.steps,Tree.cell,Tree.pos,Tree.kids,aa,an,ah,ay,aI,aA,go_sem]
          first
          |refine aW ?_ ?_ rfl ?_
          |apply aX
          |apply aY
          |(refine aZ (fun hc=>?_) fun hc=>?_<;>first|(cases hc;done)|(exfalso;(simp at hc<;>omega))|(try simp only[bn]at hc;try contradiction))
          |skip))
        refine bK rows.length (fun _=>True) (fun j=>[(1,.pv (ay rows)),(2,.pv (ah bb)),(5,.ptr 0 0 0),(9,.ptr 1 0 0),(10,.pv (.bool false)),(18,.pv (.int .i64 k)),(19,.ref 2 j 0 j),(20,.pv (.int .i64 j))])
         (fun j=>[Ds s,ae (.node 2 st 0 0 l),⟨((rows.take j).flatMap ff).map .pv,j,2,62,false⟩]) trivial (by (repeat' (first|exact trivial|refine And.intro (by first|rfl|(simp[get,Nat.beq];done)|(simp[get,Nat.beq];omega)|(dsimp only[get];congr 1<;>first|rfl|omega|(simp;done)|(simp;omega))) ?_))) ⟨[],rfl⟩ (fun _=>⟨Nat.zero_le _,rfl,by simp[aP,ae,dJ]⟩) fun j hj _=>?_
        by_cases hjt:j<rows.length
        ·have e1:=cK kT rows j zw hjt;have hst:=aU rows j zw hjt;have e7:=gT (rows.take j);have hjl:(rows.take j).length=j:=by rw[List.length_take];omega
         rw[hjl]at e7;rw[hst];clear hst;generalize rows.getD j zw=y at *;generalize rows.take j=w at *;obtain⟨ts,bd⟩:=y;repeat' (first
          |((with_reducible show aF _);first|exact True.intro|(simp only[vb,lb,e1,e7,g1,hjt,ff,av];and_intros<;>first|omega|(simp<;>omega)))
          |((with_reducible show aO _);first|exact True.intro|((try dsimp only[go_sem]);(simp[vb,e1,e7,g1,hjt,ff,av]<;>omega)))
          |exact(rfl:some _=_)
          |(
           fail_if_success refine aV ?_
           refine bI [(142,{val:=some (.pv (.agg [.sl ts.length (ts.flatMap ke),.int .i64 bd]))}),(144,{mode:=1})] ?_;repeat1' dsimp only[sW,ae,Tree.kind,Tree.steps,Tree.cell,Tree.pos,Tree.kids,aa,an,ah,ay,aI,aA,go_sem]
           first
           |refine aW ?_ ?_ rfl ?_
           |apply aX
           |apply aY
           |(refine aZ (fun hc=>?_) fun hc=>?_<;>first|(cases hc;done)|(exfalso;(simp at hc<;>omega))|(try simp only[bn]at hc;try contradiction))
           |skip))
         exact⟨hjt,trivial,by (repeat' (first|exact trivial|refine And.intro (by first|rfl|(simp[get,Nat.beq];done)|(simp[get,Nat.beq];omega)|(dsimp only[get];congr 1<;>first|rfl|omega|(simp;done)|(simp;omega))) ?_)),[],by simp[List.flatMap_append,ff,av]⟩
        ·obtain rfl:j=rows.length:=by omega
         rw[List.take_length];repeat' (first
          |((with_reducible show aF _);exact True.intro)
          |((with_reducible show aO _);exact True.intro)
          |exact(rfl:some _=_)
          |(
           fail_if_success refine aV ?_
           refine a7 ?_;repeat1' dsimp only[sW,ae,Tree.kind,Tree.steps,Tree.cell,Tree.pos,Tree.kids,aa,an,ah,ay,aI,aA,go_sem]
           first
           |refine aW ?_ ?_ rfl ?_
           |apply aX
           |apply aY
           |(refine aZ (fun hc=>?_) fun hc=>?_<;>first|(cases hc;done)|(exfalso;(simp at hc<;>omega))|(try simp only[bn]at hc;try contradiction))
           |skip))
         refine bK cs.length (fun _=>True) (fun j=>[(1,.pv (ay rows)),(2,.pv (ah bb)),(5,.ptr 0 0 0),(9,.ptr 1 0 0),(10,.pv (.bool false)),(18,.pv (.int .i64 k)),(19,.ref 2 (rows.length+j) 0 (rows.length+j)),(21,.pv (.int .i64 j))])
          (fun j=>[Ds s,ae (.node 2 st 0 0 l),⟨((rows++cs.take j).flatMap ff).map .pv,rows.length+j,2,62,false⟩]) trivial (by (repeat' (first|exact trivial|refine And.intro (by first|rfl|(simp[get,Nat.beq];done)|(simp[get,Nat.beq];omega)|(dsimp only[get];congr 1<;>first|rfl|omega|(simp;done)|(simp;omega))) ?_))) ⟨[],by (simp)<;>rfl⟩ (fun _=>⟨Nat.zero_le _,rfl,by simp[aP,ae,dJ]⟩) fun j hj _=>?_
         by_cases hjc:j<cs.length
         ·have e1:=cK kT cs j zw hjc;have hst:=aU cs j zw hjc;have e7:=gT (rows++cs.take j);have hjl:(rows++cs.take j).length=rows.length+j:=by rw[List.length_append,List.length_take];omega
          rw[hjl]at e7;rw[hst,←List.append_assoc];clear hst;generalize cs.getD j zw=y at *;generalize rows++cs.take j=w at *;obtain⟨ts,bd⟩:=y;repeat' (first
           |((with_reducible show aF _);(simp only[vb,lb,e1,e2,e3,e7,g1,g2,hjt,hjc,hkc,ff,av];and_intros<;>first|omega|(simp<;>omega)))
           |((with_reducible show aO _);first|exact True.intro|((try dsimp only[go_sem]);(simp[vb,e1,e2,e3,e7,g1,g2,hjt,hjc,hkc,ff,av]<;>omega)))
           |exact(rfl:some _=_)
           |(
            fail_if_success refine aV ?_
            refine bI [(150,{val:=some (.pv (.sl cs.length (cs.flatMap ff)))}),(160,{val:=some (.pv (.sl cs.length (cs.flatMap ff)))}),(163,{val:=some (.pv (.agg [.sl ts.length (ts.flatMap ke),.int .i64 bd]))}),(165,{mode:=1})] ?_;repeat1' dsimp only[sW,ae,Tree.kind,Tree.steps,Tree.cell,Tree.pos,Tree.kids,aa,an,ah,ay,aI,aA,go_sem]
            first
            |refine aW ?_ ?_ rfl ?_
            |apply aX
            |apply aY
            |(refine aZ (fun hc=>?_) fun hc=>?_<;>first|(cases hc;done)|(exfalso;(simp at hc<;>omega))|(try simp only[bn]at hc;try contradiction))
            |skip))
          exact⟨hjc,trivial,by (repeat' (first|exact trivial|refine And.intro (by first|rfl|(simp[get,Nat.beq];done)|(simp[get,Nat.beq];omega)|(dsimp only[get];congr 1<;>first|rfl|omega|(simp;done)|(simp;omega))) ?_)),[],by simp[List.flatMap_append,ff,av,Nat.add_assoc]⟩
         ·obtain rfl:j=cs.length:=by omega
          rw[List.take_length];have g3:=gT (rows++cs);rw[List.length_append]at g3 hih;generalize rows++cs=rc at *;refine bH [(19,.ref 2 (rows.length+cs.length) 0 (rows.length+cs.length)),(1,.pv (ay rows)),(2,.pv (ah bb)),(5,.ptr 0 0 0),(9,.ptr 1 0 0),(10,.pv (.bool false)),(18,.pv (.int .i64 k)),(21,.pv (.int .i64 cs.length))] (by (repeat' (first|exact trivial|refine And.intro (by first|rfl|(simp[get,Nat.beq];done)|(simp[get,Nat.beq];omega)|(dsimp only[get];congr 1<;>first|rfl|omega|(simp;done)|(simp;omega))) ?_))) ?_
          refine(lY (μ:=[Ds s,ae (.node 2 st 0 0 l)]) (ps:=rc.flatMap ff) (n:=rows.length+cs.length) (g:=rows.length+cs.length) (t:=19) (sz:=2) (by simp[aP,ae,dJ]) (Nat.zero_le _) (by omega) g3 (fun _=>rfl) rfl ?_);cases qx with
          |true =>
           repeat' (first
            |((with_reducible show aF _);(simp only[vb,lb,e,e2,e3,f3,hlk,hkc,hjc,an,aa,hih];and_intros<;>first|omega|(simp<;>omega)))
            |((with_reducible show aO _);first|exact True.intro|((try dsimp only[go_sem]);(simp[vb,e,e2,e3,f3,hlk,hkc,hjc,an,aa,hih]<;>omega)))
            |exact(rfl:some _=_)
            |(
             fail_if_success refine aV ?_
             refine dH [(48,fun _=>some (.bool true))] [(150,{val:=some (.pv (.sl cs.length (cs.flatMap ff)))}),(173,{val:=some (.pv (.agg [.int .i64 a0,.sl a1.length (a1.flatMap aG),.int .i64 a2,.int .i64 a3,.sl a4.length (a4.flatMap gu)]))})] ?_;repeat1' dsimp only[sW,ae,Tree.kind,Tree.steps,Tree.cell,Tree.pos,Tree.kids,aa,an,ah,ay,aI,aA,go_sem]
             first
             |refine aW ?_ ?_ rfl ?_
             |apply aX
             |apply aY
             |(refine aZ (fun hc=>?_) fun hc=>?_<;>first|(cases hc;done)|(exfalso;(simp at hc<;>omega))|(try simp only[bn]at hc;try contradiction))
             |skip))
           exact⟨k+1,by show l.length-(k+1)<l.length-k;omega,⟨by show k+1≤_;omega,by rw[←q2];simpa using hrest⟩,by (repeat' (first|exact trivial|refine And.intro (by first|rfl|(simp[get,Nat.beq];done)|(simp[get,Nat.beq];omega)|(dsimp only[get];congr 1<;>first|rfl|omega|(simp;done)|(simp;omega))) ?_)),_,rfl⟩
          |false =>
           repeat' (first
            |((with_reducible show aF _);first|exact True.intro|(simp only[vb,lb,e,e2,e3,f3,hlk,hkc,hjc,an,aa,hih];and_intros<;>first|omega|(simp<;>omega)))
            |((with_reducible show aO _);first|exact True.intro|((try dsimp only[go_sem]);(simp[vb,e,e2,e3,f3,hlk,hkc,hjc,an,aa,hih]<;>omega)))
            |exact(rfl:some _=_)
            |(
             fail_if_success refine aV ?_
             refine dH [(48,fun _=>some (.bool false))] [(150,{val:=some (.pv (.sl cs.length (cs.flatMap ff)))}),(173,{val:=some (.pv (.agg [.int .i64 a0,.sl a1.length (a1.flatMap aG),.int .i64 a2,.int .i64 a3,.sl a4.length (a4.flatMap gu)]))})] ?_;repeat1' dsimp only[sW,ae,Tree.kind,Tree.steps,Tree.cell,Tree.pos,Tree.kids,aa,an,ah,ay,aI,aA,go_sem]
             first
             |refine aW ?_ ?_ rfl ?_
             |apply aX
             |apply aY
             |(refine aZ (fun hc=>?_) fun hc=>?_<;>first|(cases hc;done)|(exfalso;(simp at hc<;>omega))|(try simp only[bn]at hc;try contradiction))
             |skip))
           rw[←q2];rfl
       ·obtain rfl:k=l.length:=by omega
        rw[List.drop_of_length_le (by simp),nc]at q2;subst q2;repeat' (first
         |((with_reducible show aF _);first|exact True.intro|(simp only[vb,lb,hlc];and_intros<;>first|omega|(simp<;>omega)))
         |((with_reducible show aO _);exact True.intro)
         |exact(rfl:some _=_)
         |(
          fail_if_success refine aV ?_
          refine a7 ?_;repeat1' dsimp only[sW,ae,Tree.kind,Tree.steps,Tree.cell,Tree.pos,Tree.kids,aa,an,ah,ay,aI,aA,go_sem]
          first
          |refine aW ?_ ?_ rfl ?_
          |apply aX
          |apply aY
          |(refine aZ (fun hc=>?_) fun hc=>?_<;>first|(cases hc;done)|(exfalso;(simp at hc<;>omega))|(try simp only[bn]at hc;try contradiction))
          |skip))
        all_goals (intro _ _ _ _ h;cases h)
      ·rw[decide_eq_false hlc];have hlc':¬(l.length:Int)=(s.cases.length:Int):=by omega
       repeat' (first
        |((with_reducible show aF _);first|exact True.intro|(simp only[vb,lb,hlt,hlc'];and_intros<;>first|omega|(simp<;>omega)))
        |((with_reducible show aO _);first|exact True.intro|((try dsimp only[go_sem]);(simp[vb,hlt,hlc']<;>omega)))
        |exact(rfl:some _=_)
        |(
         fail_if_success refine aV ?_
         refine bI [(57,{val:=some (.pv (.bool false))}),(114,{val:=some (.pv (.bool true))}),(122,{val:=some (.pv (.bool false))}),(123,{val:=some (.pv (.bool false))})] ?_;repeat1' dsimp only[sW,ae,Tree.kind,Tree.steps,Tree.cell,Tree.pos,Tree.kids,aa,an,ah,ay,aI,aA,go_sem]
         first
         |refine aW ?_ ?_ rfl ?_
         |apply aX
         |apply aY
         |(refine aZ (fun hc=>?_) fun hc=>?_<;>first|(cases hc;done)|(exfalso;(simp at hc<;>omega))|(try simp only[bn]at hc;try contradiction))
         |skip))
    ·rw[show nK s kd c a (l.map (bp s)) rows bb ch=false by rw[nK,if_neg hk1,if_neg hk2]];repeat' (first
      |((with_reducible show aF _);first|exact True.intro|(simp only[vb,lb,hk1,hk2];and_intros<;>first|omega|(simp<;>omega)))
      |((with_reducible show aO _);first|exact True.intro|((try dsimp only[go_sem]);(simp[vb,hk1,hk2]<;>omega)))
      |exact(rfl:some _=_)
      |(
       fail_if_success refine aV ?_
       refine a7 ?_;repeat1' dsimp only[sW,ae,Tree.kind,Tree.steps,Tree.cell,Tree.pos,Tree.kids,aa,an,ah,ay,aI,aA,go_sem]
       first
       |refine aW ?_ ?_ rfl ?_
       |apply aX
       |apply aY
       |(refine aZ (fun hc=>?_) fun hc=>?_<;>first|(cases hc;done)|(exfalso;(simp at hc<;>omega))|(try simp only[bn]at hc;try contradiction))
       |skip))
end
section
open Rf
def Gu:az:=(⟨_,by conv=>(lhs;reduce;try simp only[ei,Int.cast_ofNat_Int,Int.reduceNegSucc,UInt8.reduceOfNat])⟩:{x // codeOf Tryz.prog 23 (fun _=>false)=some x}).1
theorem Gv:bF Tryz.prog 23 (fun _=>false)=some (Gu,[.t 4],20,true):=by kernel_rfl
set_option maxHeartbeats 4000000 in
theorem xo (s:Sy) (hs:Dv s) (t:Tree) (ht:wt t≤1000000000):ai ctx 23 [Dr s,aE t] (.bool (se s t)):=by
 have h1:=kG s hs;have h2:=u7 t ht;have h3:ja s=true→gz t=true→ai ctx 48 [.agg [ah s.box,ay s.rows,aI s.graphs,aA s.cases],ay s.rows,ah s.box,.bool false,aE t] (.bool (bp s t s.rows s.box false)):=fun a b=>by
  obtain⟨g1,g2,g3⟩:=uk.of a hs;obtain⟨m1,m2,m3⟩:=zN.sys a;simp only[gz,Bool.and_eq_true]at b;have hb:s.box.length≤128:=by
   simp only[dF,Bool.and_eq_true,decide_eq_true_eq]at m2;exact m2.2
  exact xn s g1 s.box.length m1 t b.2 ht s.rows s.box false g3 hs.rt m3 rfl hb (.inr m2)
 unfold se;generalize bp s t s.rows s.box false=q3 at *;generalize ja s=q1 at *;generalize gz t=q2 at *;unfold ah ay aI aA at h1 h3;simp only[aE]at h2 h3;unfold aa an at h2 h3;cases q1 with
 |false =>
  refine af (C:=ctx) (Fn.of Gv rfl) rfl ?_;unfold Gu;repeat' (first
   |((with_reducible show aF _);first|exact True.intro|(simp only[vb,lb,h1,h2];and_intros<;>first|omega|(simp<;>omega)))
   |((with_reducible show aO _);first|exact True.intro|((try dsimp only[go_sem]);(simp[vb,h1,h2]<;>omega)))
   |exact(rfl:some _=_)
   |(
    fail_if_success refine aV ?_
    refine iu [(30,fun _=>some (.bool false)),(14,fun _=>some (.bool q2)),(48,fun _=>some (.bool q3))] ?_;repeat1' dsimp only[Gu,aE,aa,an,ah,ay,aI,aA,go_sem]
    first
    |refine aW ?_ ?_ rfl ?_
    |apply aX
    |apply aY
    |(refine aZ (fun hc=>?_) fun hc=>?_<;>first|(cases hc;done)|(try simp only[bn]at hc;try contradiction))
    |skip))
 |true =>
  cases q2 with
  |false =>
   refine af (C:=ctx) (Fn.of Gv rfl) rfl ?_;unfold Gu;repeat' (first
    |((with_reducible show aF _);first|exact True.intro|(simp only[vb,lb,h1,h2];and_intros<;>first|omega|(simp<;>omega)))
    |((with_reducible show aO _);first|exact True.intro|((try dsimp only[go_sem]);(simp[vb,h1,h2]<;>omega)))
    |exact(rfl:some _=_)
    |(
     fail_if_success refine aV ?_
     refine iu [(30,fun _=>some (.bool true)),(14,fun _=>some (.bool false)),(48,fun _=>some (.bool q3))] ?_;repeat1' dsimp only[Gu,aE,aa,an,ah,ay,aI,aA,go_sem]
     first
     |refine aW ?_ ?_ rfl ?_
     |apply aX
     |apply aY
     |(refine aZ (fun hc=>?_) fun hc=>?_<;>first|(cases hc;done)|(try simp only[bn]at hc;try contradiction))
     |skip))
  |true =>
   have h3:=h3 rfl rfl;refine af (C:=ctx) (Fn.of Gv rfl) rfl ?_;unfold Gu;repeat' (first
    |((with_reducible show aF _);first|exact True.intro|(simp only[vb,lb,h1,h2,h3];and_intros<;>first|omega|(simp<;>omega)))
    |((with_reducible show aO _);first|exact True.intro|((try dsimp only[go_sem]);(simp[vb,h1,h2,h3]<;>omega)))
    |exact(rfl:some _=_)
    |(
     fail_if_success refine aV ?_
     refine iu [(30,fun _=>some (.bool true)),(14,fun _=>some (.bool true)),(48,fun _=>some (.bool q3))] ?_;repeat1' dsimp only[Gu,aE,aa,an,ah,ay,aI,aA,go_sem]
     first
     |refine aW ?_ ?_ rfl ?_
     |apply aX
     |apply aY
     |(refine aZ (fun hc=>?_) fun hc=>?_<;>first|(cases hc;done)|(try simp only[bn]at hc;try contradiction))
     |skip))
end
section
open Rf
def c4:az:=(⟨_,by conv=>(lhs;reduce;try simp only[ei,Int.cast_ofNat_Int,Int.reduceNegSucc,UInt8.reduceOfNat])⟩:{x // codeOf Tryz.prog 4 (fun _=>false)=some x}).1
theorem Hy:bF Tryz.prog 4 (fun _=>false)=some (c4,[.t 4],24,true):=by kernel_rfl
set_option maxHeartbeats 8000000 in
theorem Bq (s:Sy) (hs:Dv s) (t:Tree) (hw:va 1048576 t):ai ctx 4 [Dr s,aE t] (.bool true):=by
 have h0:=C2;have h1:=Gp s hs 2000;have h2:=AK t hw 300 (by omega) (by omega);generalize Gn s 2000=fb at *;unfold ah ay aI aA at h1;by_cases hwt:(wt t:Int)≤300
 ·have h3:=Dj s hs t (by omega);have h4:=xo s hs t (by omega);rw[decide_eq_true hwt]at h2;generalize se s t=q at *;try unfold Dr at h3
  try unfold Dr at h4
  unfold ah ay aI aA at h3 h4;unfold aE aa an at h2 h3 h4;cases fb with
  |false =>
   refine af (C:=ctx) (Fn.of Hy rfl) rfl ?_;unfold c4;repeat' (first
    |((with_reducible show aF _);first|exact True.intro|(simp only[vb,lb,h0,h1,h2,h3,h4];and_intros<;>first|omega|(simp<;>omega)))
    |((with_reducible show aO _);first|exact True.intro|((try dsimp only[go_sem]);(simp[vb,h0,h1,h2,h3,h4]<;>omega)))
    |exact(rfl:some _=_)
    |(
     fail_if_success refine aV ?_
     refine iu [(11,fun _=>some (.bool true)),(21,fun _=>some (.bool false)),(12,fun _=>some (.bool true)),(22,fun _=>some (.bool q)),(23,fun _=>some (.bool q))] ?_;repeat1' dsimp only[c4,aE,Tree.kind,Tree.steps,Tree.cell,Tree.pos,Tree.kids,aa,an,ah,ay,aI,aA,go_sem]
     first
     |refine aW ?_ ?_ rfl ?_
     |apply aX
     |apply aY
     |(refine aZ (fun hc=>?_) fun hc=>?_<;>first|(cases hc;done)|(try simp only[bn]at hc;try contradiction))
     |skip))
  |true =>
   refine af (C:=ctx) (Fn.of Hy rfl) rfl ?_;unfold c4;repeat' (first
    |((with_reducible show aF _);first|exact True.intro|(simp only[vb,lb,h0,h1,h2,h3,h4];and_intros<;>first|omega|(simp<;>omega)))
    |((with_reducible show aO _);first|exact True.intro|((try dsimp only[go_sem]);first|(simp[vb,h0,h1,h2,h3,h4]<;>omega)|(simp only[vb,and_true,true_implies];(repeat' (first|(with_reducible assumption)|(with_reducible apply And.intro)|intro _|((fail_if_success (with_reducible show(_:Int)≤_));assumption)))<;>omega)))
    |exact(rfl:some _=_)
    |(
     fail_if_success refine aV ?_
     refine iu [(11,fun _=>some (.bool true)),(21,fun _=>some (.bool true)),(12,fun _=>some (.bool true)),(22,fun _=>some (.bool q)),(23,fun _=>some (.bool q))] ?_;repeat1' dsimp only[c4,aE,Tree.kind,Tree.steps,Tree.cell,Tree.pos,Tree.kids,aa,an,ah,ay,aI,aA,go_sem]
     first
     |refine aW ?_ ?_ rfl ?_
     |apply aX
     |apply aY
     |(refine aZ (fun hc=>?_) fun hc=>?_<;>first|(cases hc;done)|(try simp only[bn]at hc;try contradiction))
     |skip))
   simp
 ·rw[decide_eq_false hwt]at h2;unfold aE aa an at h2;cases fb with
  |false =>
   refine af (C:=ctx) (Fn.of Hy rfl) rfl ?_;unfold c4;repeat' (first
    |((with_reducible show aF _);first|exact True.intro|(simp only[vb,lb,h0,h1,h2];and_intros<;>first|omega|(simp<;>omega)))
    |((with_reducible show aO _);first|exact True.intro|((try dsimp only[go_sem]);(simp[vb,h0,h1,h2]<;>omega)))
    |exact(rfl:some _=_)
    |(
     fail_if_success refine aV ?_
     refine iu [(11,fun _=>some (.bool true)),(21,fun _=>some (.bool false)),(12,fun _=>some (.bool false)),(22,fun _=>some (.bool true)),(23,fun _=>some (.bool true))] ?_;repeat1' dsimp only[c4,aE,Tree.kind,Tree.steps,Tree.cell,Tree.pos,Tree.kids,aa,an,ah,ay,aI,aA,go_sem]
     first
     |refine aW ?_ ?_ rfl ?_
     |apply aX
     |apply aY
     |(refine aZ (fun hc=>?_) fun hc=>?_<;>first|(cases hc;done)|(try simp only[bn]at hc;try contradiction))
     |skip))
  |true =>
   refine af (C:=ctx) (Fn.of Hy rfl) rfl ?_;unfold c4;repeat' (first
    |((with_reducible show aF _);first|exact True.intro|(simp only[vb,lb,h0,h1,h2];and_intros<;>first|omega|(simp<;>omega)))
    |((with_reducible show aO _);first|exact True.intro|((try dsimp only[go_sem]);first|(simp[vb,h0,h1,h2]<;>omega)|(simp only[vb,and_true,true_implies];(repeat' (first|(with_reducible assumption)|(with_reducible apply And.intro)|intro _|((fail_if_success (with_reducible show(_:Int)≤_));assumption)))<;>first|omega|(simp_all;done))))
    |exact(rfl:some _=_)
    |(
     fail_if_success refine aV ?_
     refine iu [(11,fun _=>some (.bool true)),(21,fun _=>some (.bool true)),(12,fun _=>some (.bool false)),(22,fun _=>some (.bool true)),(23,fun _=>some (.bool true))] ?_;repeat1' dsimp only[c4,aE,Tree.kind,Tree.steps,Tree.cell,Tree.pos,Tree.kids,aa,an,ah,ay,aI,aA,go_sem]
     first
     |refine aW ?_ ?_ rfl ?_
     |apply aX
     |apply aY
     |(refine aZ (fun hc=>?_) fun hc=>?_<;>first|(cases hc;done)|(try simp only[bn]at hc;try contradiction))
     |skip))
end
section
open Rf
theorem vk (qs:List PV) (h:r4 Tryz.prog 1048576 [36,25] qs):ai ctx 4 qs (.bool true):=by
 match qs,h with
 |[p0,p1],h =>
  obtain⟨h0,h1,-⟩:=h;obtain⟨s,rfl,hs⟩:=IW (by omega) h0;obtain⟨t,rfl,ht⟩:=GO h1;exact Bq s hs t ht
end
end Pur
end Go.Proofs.YtaleoeblooeglaaGreatDoor
namespace Go.Proofs.YtaleoeblooeglaaGreatDoor.lawChecks
open Go.ChangeShapes Go.WideShapes Go.ChangeAt Go.RowKit
theorem Dt (H:Type) (enc:TypeId×Value→H) (W:World) (base:Nat) (args:Array Value) (ds gs:List (DataW H)) (before:List MemPlace)
  (hval:∀(j:Nat) t v,Tryz.f4.params[j]?=some t→args[j]?=some v→Value.okWide Tryz.prog W .any base t v)
  (hW:DataW.Whole enc Tryz.prog Tryz.f4.params.toList Rows.refutationChecksSpec.vars false W args.toList ds gs before) (hk:Rows.uptoSmall H (ds++gs)=true) (hL:laidMetH Tryz.prog Rows.refutationChecksUptoRow.laid W) (hsh:W.ShapedOpen Tryz.prog) :
  Calls Tryz.prog 4 args W fun e W'=>∃v,e= .returned v∧Rows.refutationChecksSpec.post enc Tryz.prog Tryz.f4 false true false false W args v W':=by
 have hW':=hW;obtain⟨p,q,hA0,hV,rfl,hfz,hnd⟩:=hW;have hA:DataW.TrodAll enc Tryz.prog W 0 (fun _=>true) true [36,25] args.toList ds p:=hA0;obtain⟨rfl,rfl⟩:=trodVars_none hV;obtain⟨qs,hty,hps⟩:=Pur.wA (B:=1048576) (Sm:=(fun d:DataW H=>Rows.uptoBulk d≤1048576)) Pur.wz.upto (L:=[36,25,3,57,31,32,33,34,62,99,107,60,49,22,66,23]) (r:=.any) (b:=base) (by kernel_rfl) [36,25] args.toList ds p (of_decide_eq_true rfl) (fun j t v h1 h2=>hval j t v (by
  rw[Tryz.params4,List.getElem?_toArray];exact h1) (by rw[Array.getElem?_toList]at h2;exact h2)) hA (fun d hd=>Pur.Ci hk d (List.mem_append_left _ hd))
 have hst:∀(W':World) (sp:Nat→Bool),Below W.heap.size W W'→(∀x∈p++[],sp x.block=true)→DataW.TrodAll enc Tryz.prog W' 0 sp true [36,25] args.toList ds p:=fun W' sp hb hsp =>
  Pur.wB (by kernel_rfl) _ _ _ _ (of_decide_eq_true (by kernel_rfl)) (fun x hx=>Pur.yi hb (hW'.lt x (List.mem_append_left _ hx))) (fun x hx=>hsp x (List.mem_append_left _ hx)) hA
 have hE:=Cd.FF hL hsh;obtain⟨v0,vs0,d0,ds0,p0,q0,hargs,rfl,hp0,h0,r0⟩:=trodAll_cons hA;obtain⟨v1,vs1,d1,ds1,p1,q1,rfl,rfl,hp1,h1,r1⟩:=trodAll_cons r0;obtain⟨rfl,rfl,rfl⟩:=trodAll_nil r1;obtain rfl:args=#[v0,v1]:=by cases args;simp_all
 refine((Pur.vk qs hty).2 W (Pur.oW W) [v0,v1] hE (fun g h=>h) hps).mono fun e W' hh=>?_
 obtain⟨v,he,hb,hv⟩:=hh;have:=Pur.wD hv;subst this;subst he;exact⟨_,rfl,yg (pa:=p) (pv:=[]) hW' (fun _ _ _=>trodAll_cons_mk (shut_bool Tryz.underlying4 _) trodAll_mk0)
  (fun sp hsp=>hst W' sp hb hsp) (fun _ _=>rfl) rfl
  hb (ok_one (by kernel_rfl) rfl (okWide_bool_mk Tryz.underlying4 _))⟩
def start:Array Value:=#[.agg #[.slice none 0 0,.slice none 0 0,.slice none 0 0,.slice none 0 0],.agg #[.int .i64 0,.slice none 0 0,.int .i64 0,.int .i64 0,.slice none 0 0]]
theorem met (os:Os):laidMet Tryz.prog Rows.refutationChecksUptoRow.laid ((World.laidAll Tryz.prog os Rows.refutationChecksUptoRow.laid).forCall (fun _ _=>0) ⟨#[],start,[]⟩).memory :=
 laidMet_laidAll _ (by kernel_rfl) (by kernel_rfl)
theorem reads (os:Os) {H:Type} (enc:TypeId×Value→H):∃places,DataW.whole enc Tryz.prog ((World.laidAll Tryz.prog os Rows.refutationChecksUptoRow.laid).forCall (fun _ _=>0) ⟨#[],start,[]⟩).memory Tryz.f4.params.toList Rows.refutationChecksSpec.vars false start.toList 8=some ([.agg [.nil,.nil,.nil,.nil],.agg [.lit (.int .i64 0),.nil,.lit (.int .i64 0),.lit (.int .i64 0),.nil]],[],places) :=
 ⟨[],by kernel_rfl⟩
set_option maxRecDepth 100000 in
theorem lifted (os:Os) (started:os.Started) (H:Type) (enc:TypeId×Value→H) (F:Stop.Interp) :
  ReturnsInHanded {} Tryz.checked os 4 .any ((Rows.OpenSpec.upto Rows.refutationChecksSpec).preRow enc Tryz.prog Tryz.f4 Rows.refutationChecksUptoRow.domain false Rows.refutationChecksUptoRow.laid) (((Rows.OpenSpec.upto Rows.refutationChecksSpec).at F).post enc Tryz.prog Tryz.f4 false true false false):=by
 obtain⟨places,hx⟩:=reads os enc;refine returnsInHanded_of_row (C:=Tryz.checked) (s:=(Rows.OpenSpec.upto Rows.refutationChecksSpec)) Cd.own started (by kernel_rfl) Tryz.func4
  (witness_row_atRef (enc:=enc) (C:=Tryz.checked) false (World.laidAll Tryz.prog os Rows.refutationChecksUptoRow.laid) start (World.laidAll_os _ _ _) (by kernel_rfl) (by kernel_rfl) (by kernel_rfl)
   (OpenSpec.preRow_of_cond 8 hx (by kernel_rfl) (fun k hk=>by cases hk;kernel_rfl) (by kernel_rfl) (met os))) ?_
 intro W base args ds gs before hval hW _ hk _ hL hsh _;exact Dt H enc W base args ds gs before hval hW (hk _ rfl) hL hsh
theorem said:Rows.RefutationChecksUptoSaid :=
 OpenClaim.holds_of_cond 4 Tryz.f4 rfl rfl rfl rfl rfl rfl rfl ⟨rfl,rfl,rfl,rfl,rfl⟩ rfl rfl rfl rfl rfl (by kernel_rfl) Tryz.func4 (by kernel_rfl)
  (of_decide_eq_true (by kernel_rfl)) (by unfold Func.isWrapper;rw[if_neg (of_decide_eq_false (by kernel_rfl))];exact⟨rfl,rfl⟩)
  (fun os started H enc _ F=>by rw[OpenClaim.pre_eq_preRow];exact lifted os started H enc F)
theorem plain (f : FuncId) (fn : Func) (hf : Tryz.pinned.checked.prog.funcNamed "confluent/confluentlaw21.RefutationChecks" = some f) (hfn : Tryz.pinned.checked.prog.funcs[f]? = some fn) :
  true=Tryz.pinned.checked.prog.looks []∧∀(j:Nat) t,fn.params[j]?=some t→Tryz.pinned.checked.prog.wantsStandIn t=false:=by
 obtain rfl : f = 4 := Option.some.inj ((show Tryz.prog.funcNamed "confluent/confluentlaw21.RefutationChecks" = some 4 by kernel_rfl).symm.trans hf) |>.symm
 obtain rfl:fn=Tryz.f4:=(Option.some.inj (Tryz.func4.symm.trans hfn)).symm;refine⟨by kernel_rfl,fun j t ht=>?_⟩;rw[Tryz.params4]at ht;have hm:=Array.mem_of_getElem? ht;simp only[List.mem_toArray,List.mem_cons,List.not_mem_nil,or_false]at hm;rcases hm with rfl|rfl
 ·exact(by kernel_rfl:Tryz.prog.wantsStandIn 36=false)
 ·exact(by kernel_rfl:Tryz.prog.wantsStandIn 25=false)
theorem proved:Rows.RefutationChecksUptoCardSaid :=
 Claim7.holds_tied_plain_at .later [] _ _ _ _ said (fun _ h=>by cases h) (by kernel_rfl) (fun _ h=>by cases h) refutationChecksUpto_row_tie rfl ⟨rfl,rfl⟩ (by kernel_rfl) rfl plain (by kernel_rfl)
end Go.Proofs.YtaleoeblooeglaaGreatDoor.lawChecks
