/-
  RefutationFound: the search for a counterexample ends, and what it names is one
-/
import Derived.Test.YtaleoeblooeglaaGreatDoorN04
set_option maxRecDepth 10000
set_option maxHeartbeats 32000000
set_option linter.unusedSimpArgs false
set_option linter.unusedVariables false
namespace Go.Proofs.YtaleoeblooeglaaGreatDoor
open Go.RowKit
attribute [local go_sem] Pur.ξ Pur.bN Pur.gv Pur.ca Pur.bz Pur.cI Pur.ji List.map Pur.bA Pur.aP Pur.get Pur.put Pur.tmpsOf Pur.eK Pur.mB Pur.kU Pur.ly Pur.conds Pur.ev cond_true cond_false Nat.beq Nat.ble Nat.add Pur.quiet Pur.eL Pur.cW Pur.dn Pur.wg List.append_eq List.nil_append List.cons_append Pur.eJ Pur.eh Pur.ei Pur.ek Pur.eo Pur.ep Pur.eu Pur.iB Pur.iq Pur.eR Pur.mE Pur.fK Pur.calm Pur.quiet.isCallK Pur.dd List.getElem?_cons_zero List.getElem?_cons_succ Pur.bV Pur.cX Pur.cellsOf List.all Pur.bP List.length_cons List.length_nil Pur.gV Pur.br List.drop List.take List.getD Option.getD_some Pur.Ab Pur.Ac Pur.yX Pur.Ad Pur.Ae Pur.Af Pur.iJ Pur.kL Pur.iK Pur.iL Pur.setAt List.set Nat.reduceAdd Nat.reduceMul Pur.cR Pur.bM Pur.refsOf Pur.bT Pur.b8 Pur.scalar Pur.dk Pur.fN Pur.cv Pur.dj Pur.a6 Pur.after Pur.freeze Pur.iV Pur.lR Pur.aZ Pur.eX Pur.gx Pur.gk Pur.gN Pur.fQ Pur.fR Pur.dY Pur.fS Pur.fT Pur.fW Pur.fX Pur.fY Pur.fZ Pur.ga Pur.gf Pur.gg Pur.gi Pur.gj Pur.dZ Pur.ea Pur.ec Pur.eS Pur.mF Pur.bytesOf Pur.bX Pur.eF Pur.aX Pur.bY Pur.fe Pur.bU Pur.cS Pur.dm Pur.still Pur.cx Pur.fM Pur.dO Pur.gR Pur.bZ Pur.gO List.isEmpty Pur.ed Pur.ef Pur.eg Int.reduceToNat Nat.mul_one Nat.reduceSub Pur.vj Pur.eG Pur.c8 Pur.eY Pur.dL Pur.look Pur.eZ Pur.strip Pur.guarded Pur.jw Pur.jO Pur.gU Pur.dC Pur.gQ Pur.dB Pur.kC Pur.fU Pur.fV Bool.or_false Bool.or_true Bool.and_true Bool.and_false Nat.blt Pur.gu Pur.gW Pur.gy Pur.dx Pur.idxOf Pur.iW Pur.ko Pur.mC Pur.gr Pur.qY
section
namespace Pur
section
open Rf
def bg (b:List Rg) (g:Nat):eN:=⟨(b.flatMap bS).map .pv,g,2,57,false⟩
def dh (s:Sy) (rows:List Rw) (bx:AV) (ch:Bool):List AV:=[.pv (aa s.box),.pv (ae s.rows),.pv (ai s.graphs),.pv (ah s.cases),.pv (ae rows),bx,.pv (.bool ch)]
theorem tn:∀(b:List Rg) (c:Nat) (lo hi:Int),c<b.length→(((b.flatMap bS).map AV.pv).set (c*2) (.pv (.int .i64 lo))).set (c*2+1) (.pv (.int .i64 hi))=((b.set c ⟨lo,hi⟩).flatMap bS).map AV.pv
 |[],c,_,_,h=>by simp at h
 |x::r,0,lo,hi,_=>rfl
 |x::r,c+1,lo,hi,h=>by
  have:=tn r c lo hi (by simpa using h);rw[show(c+1)*2=c*2+1+1 by omega];simp only[List.flatMap_cons,bS,List.cons_append,List.nil_append,List.map_cons,List.set_cons_succ];rw[this]
theorem yi:∀(b:List Rg) (c:Nat) (hi:Int),c<b.length→((b.flatMap bS).map AV.pv).set (c*2+1) (.pv (.int .i64 hi))=((b.set c ⟨(b.getD c zr).lo,hi⟩).flatMap bS).map AV.pv
 |[],c,_,h=>by simp at h
 |x::r,0,hi,_=>rfl
 |x::r,c+1,hi,h=>by
  have:=yi r c hi (by simpa using h);rw[show(c+1)*2+1=c*2+1+1+1 by omega];simp only[List.flatMap_cons,bS,List.cons_append,List.nil_append,List.map_cons,List.set_cons_succ];rw[this];simp
theorem zR (b:List Rg) (c:Nat) (h:c<b.length):((b.flatMap bS).map AV.pv)[c*2]?.getD .any= .pv (.int .i64 (b.getD c zr).lo):=by
 have:=bK ia b c zr 0 h (by omega);rw[Nat.add_zero]at this;rw[List.getElem?_map,this];rfl
theorem zS (b:List Rg) (c:Nat) (h:c<b.length):((b.flatMap bS).map AV.pv)[c*2+1]?.getD .any= .pv (.int .i64 (b.getD c zr).hi):=by
 have:=bK ia b c zr 1 h (by omega);rw[List.getElem?_map,this];rfl
theorem oa (b:List Rg) (c:Nat) (y:Rg) (h:c<b.length):(b.set c y).getD c zr=y:=by
 simp[List.getD,h]
theorem tq:∀l:List PV,br (l.map AV.pv)=some l
 |[]=>rfl
 |x::r=>by rw[List.map_cons,br,tq r]
theorem nI (b:List Rg) (g:Nat):(Nat.beq g g&&(0+b.length*2).ble ((b.flatMap bS).map AV.pv).length)=true∧br (((b.flatMap bS).map AV.pv).take (b.length*2))=some (b.flatMap bS):=by
 have f:=bJ b;refine⟨by simp[f],?_⟩;rw[List.take_of_length_le (by simp[f]),tq]
theorem zT (s:Sy) (rows:List Rw) (b:List Rg) (g:Nat) (ch:Bool) (x:aJ) (hx:bL x=true) (hk:x.kind=1) (hs:∀q∈s.graphs,bj b.length q=true) (hg:s.graphs.length≤1000000000) (hb:b.length≤1000000000) :
  aF ctx 78 [.agg (dh s rows (.ref 0 g 0 b.length) ch),.pv (fq x)] [bg b g] (.pv (.tup [.bool (bR s rows b x).2.1,.bool (bR s rows b x).2.2])) [bg (bR s rows b x).1 g]:=by
 simp only[bL,hk,aC,Bool.and_eq_true,decide_eq_true_eq,if_true]at hx;obtain⟨⟨-,x1,x2⟩,x3,x4⟩:=hx;obtain⟨i,hi⟩:∃i:Nat,x.index=i:=⟨x.index.toNat,by omega⟩
 obtain⟨c,hc⟩:∃c:Nat,x.cell=c:=⟨x.cell.toNat,by omega⟩
 obtain⟨kd,ix,cl⟩:=x;simp only at *;subst hk hi hc;unfold bR;simp only[if_true];have f1:=pj s.graphs;have f2:=bJ b;obtain⟨hth1,hth2⟩:=nI b g;by_cases h1:i<s.graphs.length
 ·have e1:=bQ l6 s.graphs i zg h1;have hgo:=hs _ (aQ (d:=zg) h1);have hcl:=Cg s rows b ch (s.graphs.getD i zg);simp only[show(i:Int)<s.graphs.length from by omega,if_true,Int.toNat_natCast];generalize s.graphs.getD i zg=q at *;have hgo':=hgo;simp only[bj,aC,Bool.and_eq_true,decide_eq_true_eq]at hgo';obtain⟨⟨⟨⟨⟨g1,g2⟩,g3⟩,g4⟩,g5⟩,g6⟩:=hgo';have hsq:=nz g1 g2;by_cases h2:q.first≤c∧(c:Int)<q.first+q.least.length
  ·obtain⟨k,hk⟩:∃k:Nat,(c:Int)-q.first=k:=⟨((c:Int)-q.first).toNat,by omega⟩
   have hkl:k<q.least.length:=by omega
   have hcb:c<b.length:=by omega
   have hcl:=hcl k hgo hb hkl;simp only[h2,and_self,if_true,hk,Int.toNat_natCast];have e2:=iP (g:=aI) (fun _=>rfl) q.least k 0 default hkl;have hlb:fv (q.least.getD k 0)=true:=List.all_eq_true.mp g6 _ (aQ hkl);simp only[fv,aC,Bool.and_eq_true,decide_eq_true_eq]at hlb;have hfc:q.first.toNat+k=c:=by omega
   unfold l5;simp only[hfc];have e3:=zS b c hcb;have e4:=zR b c hcb;have e5:=fun h=>yi b c h hcb
   have e6:=oa b c;generalize hy:b.getD c zr=y at *;generalize q.least.getD k 0=lk at *;have f3:=cO q.least;generalize gp q b k=cq at *;cases cq with
   |true =>
    simp only[if_true,dh,fq,af,bg];refine bc (C:=ctx) (Fn.of sU rfl) rfl (by simp) rfl (by simp[aS,cZ]) ?_;unfold qt;refine bw [ξ 26 (.agg [.int .i64 q.first,.int .i64 q.size,.sl q.least.length (q.least.flatMap aI)]),ξ 31 (.int .i64 k),ξ 33 (.bool false),ξ 39 (.bool false),(44,{val:=some (.pv (.bool true)),args:=some [.agg (jC s rows b ch),.agg [.int .i64 q.first,.int .i64 q.size,au q.least],.int .i64 k]})] ?_;dsimp only[ai,aa,ae,ah,au,go_sem]
    try dsimp only[ai,aa,ae,ah,au,go_sem]
    refine⟨(by exact True.intro),(by exact True.intro),?_⟩;refine bw [ξ 26 (.agg [.int .i64 q.first,.int .i64 q.size,.sl q.least.length (q.least.flatMap aI)]),ξ 31 (.int .i64 k),ξ 33 (.bool false),ξ 39 (.bool false),(44,{val:=some (.pv (.bool true)),args:=some [.agg (jC s rows b ch),.agg [.int .i64 q.first,.int .i64 q.size,au q.least],.int .i64 k]})] ?_;dsimp only[ai,aa,ae,ah,au,go_sem];try dsimp only[ai,aa,ae,ah,au,go_sem]
    refine⟨(by simp[vb,e1,f1,h1,f3,hk,hkl,jK,au]<;>omega),(by simp[vb,e1,f1,h1,f3,hk,hkl,jK,au]<;>omega),?_⟩;refine bw [ξ 26 (.agg [.int .i64 q.first,.int .i64 q.size,.sl q.least.length (q.least.flatMap aI)]),ξ 31 (.int .i64 k),ξ 33 (.bool false),ξ 39 (.bool false),(44,{val:=some (.pv (.bool true)),args:=some [.agg (jC s rows b ch),.agg [.int .i64 q.first,.int .i64 q.size,au q.least],.int .i64 k]})] ?_;dsimp only[ai,aa,ae,ah,au,go_sem];refine⟨fun _=>?_,fun h=>by simp at h<;>omega⟩
    refine bw [ξ 26 (.agg [.int .i64 q.first,.int .i64 q.size,.sl q.least.length (q.least.flatMap aI)]),ξ 31 (.int .i64 k),ξ 33 (.bool false),ξ 39 (.bool false),(44,{val:=some (.pv (.bool true)),args:=some [.agg (jC s rows b ch),.agg [.int .i64 q.first,.int .i64 q.size,au q.least],.int .i64 k]})] ?_;dsimp only[ai,aa,ae,ah,au,go_sem];try dsimp only[ai,aa,ae,ah,au,go_sem]
    refine⟨(by (simp only[vb,lb,e1,f1,h1,f3,hk,hkl,jK,au];and_intros<;>first|omega|(simp<;>omega))),(by exact True.intro),?_⟩;refine bw [ξ 26 (.agg [.int .i64 q.first,.int .i64 q.size,.sl q.least.length (q.least.flatMap aI)]),ξ 31 (.int .i64 k),ξ 33 (.bool false),ξ 39 (.bool false),(44,{val:=some (.pv (.bool true)),args:=some [.agg (jC s rows b ch),.agg [.int .i64 q.first,.int .i64 q.size,au q.least],.int .i64 k]})] ?_;dsimp only[ai,aa,ae,ah,au,go_sem];refine⟨fun h=>by simp at h<;>omega,fun _=>?_⟩
    refine bw [ξ 26 (.agg [.int .i64 q.first,.int .i64 q.size,.sl q.least.length (q.least.flatMap aI)]),ξ 31 (.int .i64 k),ξ 33 (.bool false),ξ 39 (.bool false),(44,{val:=some (.pv (.bool true)),args:=some [.agg (jC s rows b ch),.agg [.int .i64 q.first,.int .i64 q.size,au q.least],.int .i64 k]})] ?_;dsimp only[ai,aa,ae,ah,au,go_sem]
    refine bw [ξ 26 (.agg [.int .i64 q.first,.int .i64 q.size,.sl q.least.length (q.least.flatMap aI)]),ξ 31 (.int .i64 k),ξ 33 (.bool false),ξ 39 (.bool false),(44,{val:=some (.pv (.bool true)),args:=some [.agg (jC s rows b ch),.agg [.int .i64 q.first,.int .i64 q.size,au q.least],.int .i64 k]})] ?_;dsimp only[ai,aa,ae,ah,au,go_sem];try dsimp only[ai,aa,ae,ah,au,go_sem]
    refine⟨(by (simp only[vb,lb,e1,f1,h1,f3,hk,hkl,jK,au];and_intros<;>first|omega|(simp<;>omega))),(by ((try dsimp only[go_sem]);(simp[vb,e1,f1,h1,f3,hk,hkl,jK,au]<;>omega))),?_⟩;refine bw [ξ 26 (.agg [.int .i64 q.first,.int .i64 q.size,.sl q.least.length (q.least.flatMap aI)]),ξ 31 (.int .i64 k),ξ 33 (.bool false),ξ 39 (.bool false),(44,{val:=some (.pv (.bool true)),args:=some [.agg (jC s rows b ch),.agg [.int .i64 q.first,.int .i64 q.size,au q.least],.int .i64 k]})] ?_
    dsimp only[ai,aa,ae,ah,au,go_sem];try dsimp only[ai,aa,ae,ah,au,go_sem]
    refine⟨(by (simp only[vb,lb,e1,f1,h1,f3,hk,hkl,jK,au];and_intros<;>first|omega|(simp<;>omega))),(by ((try dsimp only[go_sem]);(simp[vb,e1,f1,h1,f3,hk,hkl,jK,au]<;>omega))),?_⟩;refine bw [ξ 26 (.agg [.int .i64 q.first,.int .i64 q.size,.sl q.least.length (q.least.flatMap aI)]),ξ 31 (.int .i64 k),ξ 33 (.bool false),ξ 39 (.bool false),(44,{val:=some (.pv (.bool true)),args:=some [.agg (jC s rows b ch),.agg [.int .i64 q.first,.int .i64 q.size,au q.least],.int .i64 k]})] ?_
    dsimp only[ai,aa,ae,ah,au,go_sem];try dsimp only[ai,aa,ae,ah,au,go_sem]
    refine⟨(by exact True.intro),(by ((try dsimp only[go_sem]);(simp[vb,e1,f1,h1,f3,hk,hkl,jK,au]<;>omega))),?_⟩;refine bw [ξ 26 (.agg [.int .i64 q.first,.int .i64 q.size,.sl q.least.length (q.least.flatMap aI)]),ξ 31 (.int .i64 k),ξ 33 (.bool false),ξ 39 (.bool false),(44,{val:=some (.pv (.bool true)),args:=some [.agg (jC s rows b ch),.agg [.int .i64 q.first,.int .i64 q.size,au q.least],.int .i64 k]})] ?_;dsimp only[ai,aa,ae,ah,au,go_sem];refine⟨fun h=>by simp at h<;>omega,fun _=>?_⟩
    refine bw [ξ 26 (.agg [.int .i64 q.first,.int .i64 q.size,.sl q.least.length (q.least.flatMap aI)]),ξ 31 (.int .i64 k),ξ 33 (.bool false),ξ 39 (.bool false),(44,{val:=some (.pv (.bool true)),args:=some [.agg (jC s rows b ch),.agg [.int .i64 q.first,.int .i64 q.size,au q.least],.int .i64 k]})] ?_;dsimp only[ai,aa,ae,ah,au,go_sem]
    refine bw [ξ 26 (.agg [.int .i64 q.first,.int .i64 q.size,.sl q.least.length (q.least.flatMap aI)]),ξ 31 (.int .i64 k),ξ 33 (.bool false),ξ 39 (.bool false),(44,{val:=some (.pv (.bool true)),args:=some [.agg (jC s rows b ch),.agg [.int .i64 q.first,.int .i64 q.size,au q.least],.int .i64 k]})] ?_;dsimp only[ai,aa,ae,ah,au,go_sem];try dsimp only[ai,aa,ae,ah,au,go_sem]
    refine⟨(by (simp only[vb,lb,e1,f1,h1,f3,hk,hkl,jK,au];and_intros<;>first|omega|(simp<;>omega))),?_,?_⟩
    ·rw[hth1,cond_true,hth2];exact⟨rfl,hcl,trivial⟩
    refine bw [ξ 55 (.int .i64 y.hi),ξ 60 (.int .i64 lk)] ?_;dsimp only[ai,aa,ae,ah,au,go_sem];refine⟨fun _=>?_,fun h=>by simp at h<;>omega⟩;refine lU (T:=[]) (H:=[ξ 55 (.int .i64 y.hi),ξ 60 (.int .i64 lk)]) (by rfl) ?_;dsimp only[dy,ai,aa,ae,ah,au,go_sem];try dsimp only[ai,aa,ae,ah,au,go_sem]
    refine⟨(by (simp only[vb,lb,e2,e3,f2,f3,hcb,hkl];and_intros<;>first|omega|(simp<;>omega))),(by ((try dsimp only[go_sem]);(simp only[vb,and_true,true_implies];(repeat' (first|(with_reducible assumption)|(with_reducible apply And.intro)|intro _|((fail_if_success (with_reducible show(_:Int)≤_));assumption)))<;>(simp only[ab,e2,e3,f2,f3,hcb,hkl];done)))),?_⟩;rw[show(((b.flatMap bS).map AV.pv).set (0+(c:Int).toNat*2+1) (.pv (.int .i64 (if lk-1<y.hi then lk-1 else y.hi))))=((b.set c ⟨y.lo,if lk-1<y.hi then lk-1 else y.hi⟩).flatMap bS).map AV.pv from by rw[←e5];simp];rw[jm]
    have e7:=zS (b.set c ⟨y.lo,min y.hi (lk-1)⟩) c (by simpa using hcb);have e8:=zR (b.set c ⟨y.lo,min y.hi (lk-1)⟩) c (by simpa using hcb);have e9:=bJ (b.set c ⟨y.lo,min y.hi (lk-1)⟩);rw[e6 _ hcb]at e7 e8;rw[List.length_set]at e9;clear e5 e6;generalize b.set c ⟨y.lo,min y.hi (lk-1)⟩=b2 at *;repeat' (first|((with_reducible show az _);(simp only[vb,lb,e7,e8,e9,hcb];and_intros<;>first|omega|(simp<;>omega)))|((with_reducible show aB _);((try dsimp only[go_sem]);(simp only[vb,and_true,true_implies];(repeat' (first|(with_reducible assumption)|(with_reducible apply And.intro)|intro _|((fail_if_success (with_reducible show(_:Int)≤_));assumption)))<;>(simp only[ab,e7,e8,e9,hcb];done))))|exact(rfl:some _=_)|((fail_if_success refine aK ?_);refine bw [ξ 71 (.int .i64 y.lo),ξ 78 (.int .i64 (min y.hi (lk-1)))] ?_;(repeat1' dsimp only[qt,go_sem]);first|refine aL ?_ ?_ rfl ?_|apply aM|apply aN|(refine aO (fun hc=>?_) fun hc=>?_<;>first|(cases hc;done)|(try simp only[bn]at hc;try contradiction))|skip))
    exact⟨⟨trivial,rfl⟩,_,rfl⟩
   |false =>
    simp only[Bool.false_eq_true,if_false,dh,fq,af,bg];have e7:b.set c y=b:=by
     refine List.ext_getElem? fun j=>?_
     by_cases hj:c=j
     ·subst hj;rw[List.getElem?_set_self hcb,←hy,List.getD,List.getElem?_eq_getElem hcb];rfl
     rw[List.getElem?_set_ne hj]
    rw[e7];clear e5 e6 e7;refine bc (C:=ctx) (Fn.of sU rfl) rfl (by simp) rfl (by simp[aS,cZ]) ?_;unfold qt;refine bw [ξ 26 (.agg [.int .i64 q.first,.int .i64 q.size,.sl q.least.length (q.least.flatMap aI)]),ξ 31 (.int .i64 k),ξ 33 (.bool false),ξ 39 (.bool false),(44,{val:=some (.pv (.bool false)),args:=some [.agg (jC s rows b ch),.agg [.int .i64 q.first,.int .i64 q.size,au q.least],.int .i64 k]})] ?_;dsimp only[ai,aa,ae,ah,au,go_sem];try dsimp only[ai,aa,ae,ah,au,go_sem]
    refine⟨(by exact True.intro),(by exact True.intro),?_⟩;refine bw [ξ 26 (.agg [.int .i64 q.first,.int .i64 q.size,.sl q.least.length (q.least.flatMap aI)]),ξ 31 (.int .i64 k),ξ 33 (.bool false),ξ 39 (.bool false),(44,{val:=some (.pv (.bool false)),args:=some [.agg (jC s rows b ch),.agg [.int .i64 q.first,.int .i64 q.size,au q.least],.int .i64 k]})] ?_;dsimp only[ai,aa,ae,ah,au,go_sem];try dsimp only[ai,aa,ae,ah,au,go_sem]
    refine⟨(by simp[vb,e1,f1,h1,f3,hk,hkl,jK,au]<;>omega),(by simp[vb,e1,f1,h1,f3,hk,hkl,jK,au]<;>omega),?_⟩;refine bw [ξ 26 (.agg [.int .i64 q.first,.int .i64 q.size,.sl q.least.length (q.least.flatMap aI)]),ξ 31 (.int .i64 k),ξ 33 (.bool false),ξ 39 (.bool false),(44,{val:=some (.pv (.bool false)),args:=some [.agg (jC s rows b ch),.agg [.int .i64 q.first,.int .i64 q.size,au q.least],.int .i64 k]})] ?_;dsimp only[ai,aa,ae,ah,au,go_sem];refine⟨fun _=>?_,fun h=>by simp at h<;>omega⟩
    refine bw [ξ 26 (.agg [.int .i64 q.first,.int .i64 q.size,.sl q.least.length (q.least.flatMap aI)]),ξ 31 (.int .i64 k),ξ 33 (.bool false),ξ 39 (.bool false),(44,{val:=some (.pv (.bool false)),args:=some [.agg (jC s rows b ch),.agg [.int .i64 q.first,.int .i64 q.size,au q.least],.int .i64 k]})] ?_;dsimp only[ai,aa,ae,ah,au,go_sem];try dsimp only[ai,aa,ae,ah,au,go_sem]
    refine⟨(by (simp only[vb,lb,e1,f1,h1,f3,hk,hkl,jK,au];and_intros<;>first|omega|(simp<;>omega))),(by exact True.intro),?_⟩;refine bw [ξ 26 (.agg [.int .i64 q.first,.int .i64 q.size,.sl q.least.length (q.least.flatMap aI)]),ξ 31 (.int .i64 k),ξ 33 (.bool false),ξ 39 (.bool false),(44,{val:=some (.pv (.bool false)),args:=some [.agg (jC s rows b ch),.agg [.int .i64 q.first,.int .i64 q.size,au q.least],.int .i64 k]})] ?_;dsimp only[ai,aa,ae,ah,au,go_sem];refine⟨fun h=>by simp at h<;>omega,fun _=>?_⟩
    refine bw [ξ 26 (.agg [.int .i64 q.first,.int .i64 q.size,.sl q.least.length (q.least.flatMap aI)]),ξ 31 (.int .i64 k),ξ 33 (.bool false),ξ 39 (.bool false),(44,{val:=some (.pv (.bool false)),args:=some [.agg (jC s rows b ch),.agg [.int .i64 q.first,.int .i64 q.size,au q.least],.int .i64 k]})] ?_;dsimp only[ai,aa,ae,ah,au,go_sem]
    refine bw [ξ 26 (.agg [.int .i64 q.first,.int .i64 q.size,.sl q.least.length (q.least.flatMap aI)]),ξ 31 (.int .i64 k),ξ 33 (.bool false),ξ 39 (.bool false),(44,{val:=some (.pv (.bool false)),args:=some [.agg (jC s rows b ch),.agg [.int .i64 q.first,.int .i64 q.size,au q.least],.int .i64 k]})] ?_;dsimp only[ai,aa,ae,ah,au,go_sem];try dsimp only[ai,aa,ae,ah,au,go_sem]
    refine⟨(by (simp only[vb,lb,e1,f1,h1,f3,hk,hkl,jK,au];and_intros<;>first|omega|(simp<;>omega))),(by ((try dsimp only[go_sem]);(simp[vb,e1,f1,h1,f3,hk,hkl,jK,au]<;>omega))),?_⟩;refine bw [ξ 26 (.agg [.int .i64 q.first,.int .i64 q.size,.sl q.least.length (q.least.flatMap aI)]),ξ 31 (.int .i64 k),ξ 33 (.bool false),ξ 39 (.bool false),(44,{val:=some (.pv (.bool false)),args:=some [.agg (jC s rows b ch),.agg [.int .i64 q.first,.int .i64 q.size,au q.least],.int .i64 k]})] ?_
    dsimp only[ai,aa,ae,ah,au,go_sem];try dsimp only[ai,aa,ae,ah,au,go_sem]
    refine⟨(by (simp only[vb,lb,e1,f1,h1,f3,hk,hkl,jK,au];and_intros<;>first|omega|(simp<;>omega))),(by ((try dsimp only[go_sem]);(simp[vb,e1,f1,h1,f3,hk,hkl,jK,au]<;>omega))),?_⟩;refine bw [ξ 26 (.agg [.int .i64 q.first,.int .i64 q.size,.sl q.least.length (q.least.flatMap aI)]),ξ 31 (.int .i64 k),ξ 33 (.bool false),ξ 39 (.bool false),(44,{val:=some (.pv (.bool false)),args:=some [.agg (jC s rows b ch),.agg [.int .i64 q.first,.int .i64 q.size,au q.least],.int .i64 k]})] ?_
    dsimp only[ai,aa,ae,ah,au,go_sem];try dsimp only[ai,aa,ae,ah,au,go_sem]
    refine⟨(by exact True.intro),(by ((try dsimp only[go_sem]);(simp[vb,e1,f1,h1,f3,hk,hkl,jK,au]<;>omega))),?_⟩;refine bw [ξ 26 (.agg [.int .i64 q.first,.int .i64 q.size,.sl q.least.length (q.least.flatMap aI)]),ξ 31 (.int .i64 k),ξ 33 (.bool false),ξ 39 (.bool false),(44,{val:=some (.pv (.bool false)),args:=some [.agg (jC s rows b ch),.agg [.int .i64 q.first,.int .i64 q.size,au q.least],.int .i64 k]})] ?_;dsimp only[ai,aa,ae,ah,au,go_sem];refine⟨fun h=>by simp at h<;>omega,fun _=>?_⟩
    refine bw [ξ 26 (.agg [.int .i64 q.first,.int .i64 q.size,.sl q.least.length (q.least.flatMap aI)]),ξ 31 (.int .i64 k),ξ 33 (.bool false),ξ 39 (.bool false),(44,{val:=some (.pv (.bool false)),args:=some [.agg (jC s rows b ch),.agg [.int .i64 q.first,.int .i64 q.size,au q.least],.int .i64 k]})] ?_;dsimp only[ai,aa,ae,ah,au,go_sem]
    refine bw [ξ 26 (.agg [.int .i64 q.first,.int .i64 q.size,.sl q.least.length (q.least.flatMap aI)]),ξ 31 (.int .i64 k),ξ 33 (.bool false),ξ 39 (.bool false),(44,{val:=some (.pv (.bool false)),args:=some [.agg (jC s rows b ch),.agg [.int .i64 q.first,.int .i64 q.size,au q.least],.int .i64 k]})] ?_;dsimp only[ai,aa,ae,ah,au,go_sem];try dsimp only[ai,aa,ae,ah,au,go_sem]
    refine⟨(by (simp only[vb,lb,e1,f1,h1,f3,hk,hkl,jK,au];and_intros<;>first|omega|(simp<;>omega))),?_,?_⟩
    ·rw[hth1,cond_true,hth2];exact⟨rfl,hcl,trivial⟩
    repeat' (first|((with_reducible show az _);(simp only[vb,lb,e3,e4,f2,hcb];and_intros<;>first|omega|(simp<;>omega)))|((with_reducible show aB _);((try dsimp only[go_sem]);(simp only[vb,and_true,true_implies];(repeat' (first|(with_reducible assumption)|(with_reducible apply And.intro)|intro _|((fail_if_success (with_reducible show(_:Int)≤_));assumption)))<;>(simp only[ab,e3,e4,f2,hcb];done))))|exact(rfl:some _=_)|((fail_if_success refine aK ?_);refine bw [ξ 71 (.int .i64 y.lo),ξ 78 (.int .i64 y.hi)] ?_;(repeat1' dsimp only[qt,go_sem]);first|refine aL ?_ ?_ rfl ?_|apply aM|apply aN|(refine aO (fun hc=>?_) fun hc=>?_<;>first|(cases hc;done)|(try simp only[bn]at hc;try contradiction))|skip))
    exact⟨⟨trivial,rfl⟩,_,rfl⟩
  simp only[h2,if_false];simp only[dh,fq,af,bg];clear hcl;have f3:=cO q.least;have hql:q.least.length≤36:=by omega
  refine bc (C:=ctx) (Fn.of sU rfl) rfl (by simp) rfl (by simp[aS,cZ]) ?_;unfold qt;refine bw [ξ 26 (.agg [.int .i64 q.first,.int .i64 q.size,.sl q.least.length (q.least.flatMap aI)])] ?_;dsimp only[ai,aa,ae,ah,au,go_sem];try dsimp only[ai,aa,ae,ah,au,go_sem]
  refine⟨(by exact True.intro),(by exact True.intro),?_⟩;refine bw [ξ 26 (.agg [.int .i64 q.first,.int .i64 q.size,.sl q.least.length (q.least.flatMap aI)])] ?_;dsimp only[ai,aa,ae,ah,au,go_sem];try dsimp only[ai,aa,ae,ah,au,go_sem]
  refine⟨(by simp[vb,e1,f1,h1,f3,jK,au]<;>omega),(by simp[vb,e1,f1,h1,f3,jK,au]<;>omega),?_⟩;refine bw [ξ 26 (.agg [.int .i64 q.first,.int .i64 q.size,.sl q.least.length (q.least.flatMap aI)])] ?_;dsimp only[ai,aa,ae,ah,au,go_sem];refine⟨fun _=>?_,fun h=>by simp at h<;>omega⟩;refine bw [ξ 26 (.agg [.int .i64 q.first,.int .i64 q.size,.sl q.least.length (q.least.flatMap aI)])] ?_;dsimp only[ai,aa,ae,ah,au,go_sem];try dsimp only[ai,aa,ae,ah,au,go_sem]
  refine⟨(by (simp only[vb,lb,e1,f1,h1,f3,jK,au];and_intros<;>first|omega|(simp<;>omega))),(by exact True.intro),?_⟩;refine bw [ξ 26 (.agg [.int .i64 q.first,.int .i64 q.size,.sl q.least.length (q.least.flatMap aI)])] ?_;dsimp only[ai,aa,ae,ah,au,go_sem];refine⟨fun h=>by simp at h<;>omega,fun _=>?_⟩;refine bw [ξ 26 (.agg [.int .i64 q.first,.int .i64 q.size,.sl q.least.length (q.least.flatMap aI)])] ?_;dsimp only[ai,aa,ae,ah,au,go_sem]
  refine bw [ξ 26 (.agg [.int .i64 q.first,.int .i64 q.size,.sl q.least.length (q.least.flatMap aI)])] ?_;dsimp only[ai,aa,ae,ah,au,go_sem];try dsimp only[ai,aa,ae,ah,au,go_sem]
  refine⟨(by (simp only[vb,lb,e1,f1,h1,f3,jK,au];and_intros<;>first|omega|(simp<;>omega))),(by ((try dsimp only[go_sem]);(simp[vb,e1,f1,h1,f3,jK,au]<;>omega))),?_⟩;refine bw [ξ 26 (.agg [.int .i64 q.first,.int .i64 q.size,.sl q.least.length (q.least.flatMap aI)])] ?_;dsimp only[ai,aa,ae,ah,au,go_sem];try dsimp only[ai,aa,ae,ah,au,go_sem]
  refine⟨(by (simp only[vb,lb,e1,f1,h1,f3,jK,au];and_intros<;>first|omega|(simp<;>omega))),(by exact True.intro),?_⟩;by_cases h3:(c:Int)-q.first<0
  ·repeat' (first|((with_reducible show az _);exact True.intro)|((with_reducible show aB _);first|exact True.intro|((try dsimp only[go_sem]);(simp[vb,h3]<;>omega)))|exact(rfl:some _=_)|((fail_if_success refine aK ?_);refine bw [ξ 33 (.bool true)] ?_;(repeat1' dsimp only[qt,go_sem]);first|refine aL ?_ ?_ rfl ?_|apply aM|apply aN|(refine aO (fun hc=>?_) fun hc=>?_<;>first|(cases hc;done)|(try simp only[bn]at hc;try contradiction))|skip))
   all_goals exact⟨⟨trivial,rfl⟩,_,rfl⟩
  repeat' (first|((with_reducible show az _);exact True.intro)|((with_reducible show aB _);first|exact True.intro|((try dsimp only[go_sem]);(simp[vb,h3]<;>omega)))|exact(rfl:some _=_)|((fail_if_success refine aK ?_);refine bw [ξ 33 (.bool false),ξ 39 (.bool true)] ?_;(repeat1' dsimp only[qt,go_sem]);first|refine aL ?_ ?_ rfl ?_|apply aM|apply aN|(refine aO (fun hc=>?_) fun hc=>?_<;>first|(cases hc;done)|(try simp only[bn]at hc;try contradiction))|skip))
  all_goals exact⟨⟨trivial,rfl⟩,_,rfl⟩
 simp only[show ¬(i:Int)<s.graphs.length from by omega,if_false];simp only[dh,fq,af,bg];refine bc (C:=ctx) (Fn.of sU rfl) rfl (by simp) rfl (by simp[aS,cZ]) ?_;unfold qt;repeat' (first|((with_reducible show az _);first|exact True.intro|(simp only[vb,lb,h1];and_intros<;>first|omega|(simp<;>omega)))|((with_reducible show aB _);exact True.intro)|exact(rfl:some _=_)|((fail_if_success refine aK ?_);refine bG ?_;(repeat1' dsimp only[qt,ai,aa,ae,ah,go_sem]);first|refine aL ?_ ?_ rfl ?_|apply aM|apply aN|(refine aO (fun hc=>?_) fun hc=>?_<;>first|(cases hc;done)|(exfalso;(simp at hc<;>omega))|(try simp only[bn]at hc;try contradiction))|skip))
 all_goals exact⟨⟨trivial,rfl⟩,_,rfl⟩
end
section
open Rf
theorem Eh (s:Sy) (rows:List Rw) (b:List Rg) (g:Nat) (ch:Bool) (x:aJ) (hx:bL x=true) (hk:x.kind=0) (hr:rows.length≤1000000000) (hrt:∀r∈rows,r.terms.length≤1000000000) (hb:b.length≤1000000000) :
  aF ctx 78 [.agg (dh s rows (.ref 0 g 0 b.length) ch),.pv (fq x)] [bg b g] (.pv (.tup [.bool (bR s rows b x).2.1,.bool (bR s rows b x).2.2])) [bg (bR s rows b x).1 g]:=by
 simp only[bL,hk,aC,Bool.and_eq_true,decide_eq_true_eq]at hx;obtain⟨⟨-,x1,x2⟩,x3,x4⟩:=hx;have x3: -1≤x.cell:=by simpa using x3
 obtain⟨i,hi⟩:∃i:Nat,x.index=i:=⟨x.index.toNat,by omega⟩
 obtain⟨kd,ix,cl⟩:=x;simp only at *;subst hk hi;unfold bR;rw[if_neg (show ¬(0:Int)=1 by decide)];dsimp only;rw[Int.toNat_natCast];have f1:=da rows;have f2:=bJ b;obtain⟨hth1,hth2⟩:=nI b g;by_cases h1:(i:Int)<rows.length∧cl<b.length
 ·obtain⟨h1,h2⟩:=h1;have h1':i<rows.length:=by omega
  have e1:=bQ ib rows i zw h1';have ht:=hrt _ (aQ (d:=zw) h1');have hti:=fun c=>zH b (rows.getD i zw) c hb ht
  rw[if_pos ⟨h1,h2⟩];clear hrt;generalize rows.getD i zw=q at *;by_cases h3:cl<0
  ·rw[if_pos h3];simp only[dh,fq,af,bg];obtain⟨ts,bd⟩:=q;simp only at *;have f3:=fG ts;refine bc (C:=ctx) (Fn.of sU rfl) rfl (by simp) rfl (by simp[aS,cZ]) ?_;unfold qt;cases ts with
   |nil =>
    repeat' (first|((with_reducible show az _);first|exact True.intro|(simp only[vb,lb,e1,f1,h1,h1',h2,h3,cg,ar];and_intros<;>first|omega|(simp<;>omega)))|((with_reducible show aB _);first|exact True.intro|((try dsimp only[go_sem]);(simp[vb,e1,f1,h1,h1',h2,h3,cg,ar]<;>omega)))|exact(rfl:some _=_)|((fail_if_success refine aK ?_);refine bw [ξ 99 (.agg [.sl 0 [],.int .i64 bd]),ξ 102 (.bool true)] ?_;(repeat1' dsimp only[qt,ae,aa,ai,ah,ar,cg,go_sem]);first|refine aL ?_ ?_ rfl ?_|apply aM|apply aN|(refine aO (fun hc=>?_) fun hc=>?_<;>first|(cases hc;done)|(exfalso;(simp at hc<;>omega))|(try simp only[bn]at hc;try contradiction))|skip))
    all_goals exact⟨⟨trivial,by simp⟩,_,rfl⟩
   |cons t0 tr =>
    repeat' (first|((with_reducible show az _);first|exact True.intro|(simp only[vb,lb,e1,f1,h1,h1',h2,h3,cg,ar];and_intros<;>first|omega|(simp<;>omega)))|((with_reducible show aB _);first|exact True.intro|((try dsimp only[go_sem]);(simp[vb,e1,f1,h1,h1',h2,h3,cg,ar]<;>omega)))|exact(rfl:some _=_)|((fail_if_success refine aK ?_);refine bw [ξ 99 (.agg [.sl (tr.length+1) ((t0::tr).flatMap gZ),.int .i64 bd]),ξ 102 (.bool true),ξ 106 (.bool false)] ?_;(repeat1' dsimp only[qt,ae,aa,ai,ah,ar,cg,go_sem]);first|refine aL ?_ ?_ rfl ?_|apply aM|apply aN|(refine aO (fun hc=>?_) fun hc=>?_<;>first|(cases hc;done)|(exfalso;(simp at hc<;>omega))|(try simp only[bn]at hc;try contradiction))|skip))
    all_goals exact⟨⟨trivial,by simp⟩,_,rfl⟩
  obtain⟨c,rfl⟩:∃c:Nat,cl=c:=⟨cl.toNat,by omega⟩
  have hcb:c<b.length:=by omega
  rw[if_neg h3];simp only[dh,fq,af,bg,Int.toNat_natCast];have hti:=hti c;have e5:=fun lo hi=>tn b c lo hi hcb
  have e6:=oa b c;generalize b9 q b c=y at *;unfold ar at hti;refine bc (C:=ctx) (Fn.of sU rfl) rfl (by simp) rfl (by simp[aS,cZ]) ?_;unfold qt;refine bw [ξ 85 (.bool false),ξ 92 (.bool false),ξ 99 (.agg [.sl q.terms.length (q.terms.flatMap gZ),.int .i64 q.bound]),ξ 102 (.bool false),(123,{val:=some (.pv (.agg [.int .i64 y.lo,.int .i64 y.hi])),args:=some [.agg [.sl q.terms.length (q.terms.flatMap gZ),.int .i64 q.bound],aa b,.int .i64 c]})] ?_
  dsimp only[ae,aa,ai,ah,ar,go_sem];try dsimp only[ae,aa,ai,ah,ar,go_sem]
  refine⟨(by exact True.intro),(by exact True.intro),?_⟩;iterate 5 first
   |refine⟨fun h=>by simp at h<;>omega,fun _=>?_⟩
   |refine⟨by simp[vb,e1,f1,f2,h1,h1',h2,h3,hcb,cg,ar]<;>omega,by simp[vb,e1,f1,f2,h1,h1',h2,h3,hcb,cg,ar]<;>omega,?_⟩
   |(refine bw [ξ 85 (.bool false),ξ 92 (.bool false),ξ 99 (.agg [.sl q.terms.length (q.terms.flatMap gZ),.int .i64 q.bound]),ξ 102 (.bool false),(123,{val:=some (.pv (.agg [.int .i64 y.lo,.int .i64 y.hi])),args:=some [.agg [.sl q.terms.length (q.terms.flatMap gZ),.int .i64 q.bound],aa b,.int .i64 c]})] ?_;iterate 2 (try dsimp only[ae,aa,ai,ah,ar,go_sem]))
  refine bw [ξ 85 (.bool false),ξ 92 (.bool false),ξ 99 (.agg [.sl q.terms.length (q.terms.flatMap gZ),.int .i64 q.bound]),ξ 102 (.bool false),(123,{val:=some (.pv (.agg [.int .i64 y.lo,.int .i64 y.hi])),args:=some [.agg [.sl q.terms.length (q.terms.flatMap gZ),.int .i64 q.bound],aa b,.int .i64 c]})] ?_;dsimp only[ae,aa,ai,ah,ar,go_sem];try dsimp only[ae,aa,ai,ah,ar,go_sem]
  refine⟨(by (simp only[vb,lb,e1,f1,f2,h1,h1',h2,h3,hcb,cg,ar];and_intros<;>first|omega|(simp<;>omega))),(by ((try dsimp only[go_sem]);(simp[vb,e1,f1,f2,h1,h1',h2,h3,hcb,cg,ar]<;>omega))),?_⟩;refine bw [ξ 85 (.bool false),ξ 92 (.bool false),ξ 99 (.agg [.sl q.terms.length (q.terms.flatMap gZ),.int .i64 q.bound]),ξ 102 (.bool false),(123,{val:=some (.pv (.agg [.int .i64 y.lo,.int .i64 y.hi])),args:=some [.agg [.sl q.terms.length (q.terms.flatMap gZ),.int .i64 q.bound],aa b,.int .i64 c]})] ?_
  dsimp only[ae,aa,ai,ah,ar,go_sem];refine⟨fun h=>by simp at h<;>omega,fun _=>?_⟩;refine bw [ξ 85 (.bool false),ξ 92 (.bool false),ξ 99 (.agg [.sl q.terms.length (q.terms.flatMap gZ),.int .i64 q.bound]),ξ 102 (.bool false),(123,{val:=some (.pv (.agg [.int .i64 y.lo,.int .i64 y.hi])),args:=some [.agg [.sl q.terms.length (q.terms.flatMap gZ),.int .i64 q.bound],aa b,.int .i64 c]})] ?_;dsimp only[ae,aa,ai,ah,ar,go_sem]
  refine bw [ξ 85 (.bool false),ξ 92 (.bool false),ξ 99 (.agg [.sl q.terms.length (q.terms.flatMap gZ),.int .i64 q.bound]),ξ 102 (.bool false),(123,{val:=some (.pv (.agg [.int .i64 y.lo,.int .i64 y.hi])),args:=some [.agg [.sl q.terms.length (q.terms.flatMap gZ),.int .i64 q.bound],aa b,.int .i64 c]})] ?_;dsimp only[ae,aa,ai,ah,ar,go_sem];try dsimp only[ae,aa,ai,ah,ar,go_sem]
  refine⟨(by (simp only[vb,lb,e1,f1,f2,h1,h1',h2,h3,hcb,cg,ar];and_intros<;>first|omega|(simp<;>omega))),(by ((try dsimp only[go_sem]);(simp[vb,e1,f1,f2,h1,h1',h2,h3,hcb,cg,ar]<;>omega))),?_⟩;iterate 5 first
   |refine⟨fun h=>by simp at h<;>omega,fun _=>?_⟩
   |refine⟨by simp[vb,e1,f1,f2,h1,h1',h2,h3,hcb,cg,ar]<;>omega,by simp[vb,e1,f1,f2,h1,h1',h2,h3,hcb,cg,ar]<;>omega,?_⟩
   |(refine bw [ξ 85 (.bool false),ξ 92 (.bool false),ξ 99 (.agg [.sl q.terms.length (q.terms.flatMap gZ),.int .i64 q.bound]),ξ 102 (.bool false),(123,{val:=some (.pv (.agg [.int .i64 y.lo,.int .i64 y.hi])),args:=some [.agg [.sl q.terms.length (q.terms.flatMap gZ),.int .i64 q.bound],aa b,.int .i64 c]})] ?_;iterate 2 (try dsimp only[ae,aa,ai,ah,ar,go_sem]))
  refine eE (lU (T:=[]) (H:=[ξ 85 (.bool false),ξ 92 (.bool false),ξ 99 (.agg [.sl q.terms.length (q.terms.flatMap gZ),.int .i64 q.bound]),ξ 102 (.bool false),(123,{val:=some (.pv (.agg [.int .i64 y.lo,.int .i64 y.hi])),args:=some [.agg [.sl q.terms.length (q.terms.flatMap gZ),.int .i64 q.bound],aa b,.int .i64 c]})]) (by rfl) ?_);dsimp only[dy,ae,aa,ai,ah,ar,go_sem];try dsimp only[ae,aa,ai,ah,ar,go_sem]
  refine⟨(by (simp only[vb,lb,e1,f1,f2,h1,h1',h2,h3,hcb,cg,ar];and_intros<;>first|omega|(simp<;>omega))),?_,?_⟩
  ·rw[hth1,cond_true,hth2];exact⟨rfl,hti,trivial⟩
  rw[show((((b.flatMap bS).map AV.pv).set (0+(c:Int).toNat*2) (.pv (.int .i64 y.lo))).set (0+(c:Int).toNat*2+1) (.pv (.int .i64 y.hi)))=((b.set c ⟨y.lo,y.hi⟩).flatMap bS).map AV.pv from by rw[←e5];simp];have e7:=zS (b.set c y) c (by simpa using hcb);have e8:=zR (b.set c y) c (by simpa using hcb);have e9:=bJ (b.set c y);rw[e6 _ hcb]at e7 e8;rw[List.length_set]at e9;rw[show(⟨y.lo,y.hi⟩:Rg)=y from rfl];clear e5 e6;generalize b.set c y=b2 at *;repeat' (first|((with_reducible show az _);(simp only[vb,lb,e7,e8,e9,hcb];and_intros<;>first|omega|(simp<;>omega)))|((with_reducible show aB _);((try dsimp only[go_sem]);(simp only[vb,and_true,true_implies];(repeat' (first|(with_reducible assumption)|(with_reducible apply And.intro)|intro _|((fail_if_success (with_reducible show(_:Int)≤_));assumption)))<;>(simp only[ab,e7,e8,e9,hcb];done))))|exact(rfl:some _=_)|((fail_if_success refine aK ?_);refine bw [ξ 131 (.int .i64 y.lo),ξ 138 (.int .i64 y.hi)] ?_;(repeat1' dsimp only[qt,go_sem]);first|refine aL ?_ ?_ rfl ?_|apply aM|apply aN|(refine aO (fun hc=>?_) fun hc=>?_<;>first|(cases hc;done)|(try simp only[bn]at hc;try contradiction))|skip))
  exact⟨⟨trivial,rfl⟩,_,rfl⟩
 rw[if_neg h1];simp only[dh,fq,af,bg];refine bc (C:=ctx) (Fn.of sU rfl) rfl (by simp) rfl (by simp[aS,cZ]) ?_;unfold qt;by_cases h2:(i:Int)<rows.length
 ·repeat' (first|((with_reducible show az _);first|exact True.intro|(simp only[vb,lb,h1,h2];and_intros<;>first|omega|(simp<;>omega)))|((with_reducible show aB _);first|exact True.intro|((try dsimp only[go_sem]);(simp[vb,h1,h2]<;>omega)))|exact(rfl:some _=_)|((fail_if_success refine aK ?_);refine bw [ξ 85 (.bool false),ξ 92 (.bool true)] ?_;(repeat1' dsimp only[qt,ae,aa,ai,ah,go_sem]);first|refine aL ?_ ?_ rfl ?_|apply aM|apply aN|(refine aO (fun hc=>?_) fun hc=>?_<;>first|(cases hc;done)|(try simp only[bn]at hc;try contradiction))|skip))
  all_goals exact⟨⟨trivial,rfl⟩,_,rfl⟩
 repeat' (first|((with_reducible show az _);first|exact True.intro|(simp only[vb,lb,h2];and_intros<;>first|omega|(simp<;>omega)))|((with_reducible show aB _);first|exact True.intro|((try dsimp only[go_sem]);(simp[vb,h2]<;>omega)))|exact(rfl:some _=_)|((fail_if_success refine aK ?_);refine bw [ξ 85 (.bool true)] ?_;(repeat1' dsimp only[qt,ae,aa,ai,ah,go_sem]);first|refine aL ?_ ?_ rfl ?_|apply aM|apply aN|(refine aO (fun hc=>?_) fun hc=>?_<;>first|(cases hc;done)|(try simp only[bn]at hc;try contradiction))|skip))
 all_goals exact⟨⟨trivial,rfl⟩,_,rfl⟩
theorem F5 (s:Sy) (rows:List Rw) (b:List Rg) (g:Nat) (ch:Bool) (x:aJ) (hx:bL x=true) (hs:∀q∈s.graphs,bj b.length q=true) (hg:s.graphs.length≤1000000000) (hr:rows.length≤1000000000) (hrt:∀r∈rows,r.terms.length≤1000000000) (hb:b.length≤1000000000) :
  aF ctx 78 [.agg (dh s rows (.ref 0 g 0 b.length) ch),.pv (fq x)] [bg b g] (.pv (.tup [.bool (bR s rows b x).2.1,.bool (bR s rows b x).2.2])) [bg (bR s rows b x).1 g]:=by
 have hx':=hx;simp only[bL,aC,Bool.and_eq_true,decide_eq_true_eq]at hx';by_cases hk:x.kind=1
 ·exact zT s rows b g ch x hx hk hs hg hb
 exact Eh s rows b g ch x hx (by omega) hr hrt hb
end
section
open Rf
theorem zU:aq ctx 77 [.sl 0 []] (.sl 0 []):=by
 refine an (C:=ctx) (Fn.of Fl rfl) rfl ?_;unfold H9;refine bG ?_;dsimp only[go_sem];try dsimp only[go_sem]
 refine⟨(by simp[vb]<;>omega),(by simp[vb]<;>omega),?_⟩;refine yY 0 rfl ?_ fun ad c=>?_
 ·iterate 6 first
   |refine⟨fun _=>?_,fun h=>by simp at h<;>omega⟩
   |refine⟨by simp[vb]<;>omega,by simp[vb]<;>omega,?_⟩
   |(refine bG ?_;iterate 2 (try dsimp only[go_sem]))
  refine CT 2 CW.nil ?_;refine bG ?_;dsimp only[go_sem];exact⟨(by first|exact True.intro|(simp only[vb,lb];omega)|(simp[vb]<;>omega)),rfl⟩
 iterate 7 first
  |refine⟨fun h=>by simp at h<;>omega,fun _=>?_⟩
  |refine⟨by simp[vb]<;>omega,by simp[vb]<;>omega,?_⟩
  |(refine bw [(7,{mode:=2})] ?_;iterate 2 (try dsimp only[go_sem]))
 refine bG ?_;dsimp only[go_sem];exact⟨(by first|exact True.intro|(simp only[vb,lb];omega)|(simp[vb]<;>omega)),rfl⟩
theorem F6 (k:Nat) (cells:List PV) (hk:k≤1000000000) (hc:cells.length=(k+1)*2):aF ctx 77 [.pv (.sl (k+1) cells)] [] (.ref 0 1 0 (k+1)) [⟨cells.map .pv,1,2,57,false⟩]:=by
 refine bc (C:=ctx) (Fn.of Fl rfl) rfl (by simp) rfl (by simp[aS,cZ]) ?_;unfold H9;iterate 9 first
  |refine⟨fun h=>by simp at h<;>omega,fun _=>?_⟩
  |refine⟨by simp[vb]<;>omega,by simp[vb]<;>omega,?_⟩
  |(refine bw [(7,{mode:=1})] ?_;iterate 2 (try dsimp only[go_sem]))
 refine bG ?_;dsimp only[go_sem];exact⟨⟨trivial,by simp⟩,[],rfl⟩
theorem tt {cs:List PV} {g z:Nat} {e:TypeId} {f:Bool} (ay:List Nat) (n:Nat):pL ay n ⟨cs.map .pv,g,z,e,f⟩=⟨cs.map .pv,g,z,e,f⟩:=by
 simp[pL,nh,Function.comp_def]
theorem HI (b:List Rg) (h0:b≠[]) (hl:b.length≤1000000000) (μ:AM):aF ctx 77 [.pv (.sl b.length (b.flatMap bS))] μ (.ref μ.length 1 0 b.length) (μ++[bg b 1]):=by
 obtain⟨k,hk⟩:∃k,b.length=k+1:=⟨b.length-1,by have:=List.length_pos_iff.mpr h0;omega⟩
 have f:=bJ b;unfold bg;rw[hk]at f ⊢;generalize b.flatMap bS=cs at *;have h:=F6 k cs (by omega) f;have:=h.frame [] μ (by simp) (by simp) trivial rfl (by simp[cZ]) (by simp);simpa [nh,nV,uq,tt]using this
theorem Ei (b:List Rg) (g:Nat) (h0:0<b.length) (hl:b.length≤1000000000):aF ctx 77 [.ref 0 g 0 b.length] [bg b g] (.ref 1 1 0 b.length) [bg b g,bg b 1]:=by
 have f:=bJ b;refine bc (C:=ctx) (Fn.of Fl rfl) rfl (by simp) rfl (by simp[aS,cZ,bg]) ?_;unfold H9;unfold bg;iterate 7 first
  |refine⟨fun h=>by simp at h<;>omega,fun _=>?_⟩
  |refine⟨by simp[vb,f,h0]<;>omega,by simp[vb,f,h0]<;>omega,?_⟩
  |(refine bw [(7,{mode:=1})] ?_;iterate 2 (try dsimp only[go_sem]))
 refine bw [(7,{mode:=1})] ?_;dsimp only[go_sem];try dsimp only[go_sem]
 refine⟨(by (simp only[vb,lb,f,h0];and_intros<;>first|omega|(simp<;>omega))),(by exact True.intro),?_⟩;refine bG ?_;dsimp only[go_sem];exact⟨⟨by simp[vb],by simp⟩,[],by simp[f,List.take_of_length_le]⟩
theorem Ej (b:List Rg) (g:Nat) (h0:0<b.length) (hl:b.length≤1000000000) (μ:AM) (j:Nat) (hj:μ[j]?=some (bg b g)):aF ctx 77 [.ref j g 0 b.length] μ (.ref μ.length 1 0 b.length) (μ++[bg b 1]):=by
 have hlt:=(List.getElem?_eq_some_iff.mp hj).1;have h:=(Ei b g h0 hl).frame [j] μ (by simp) (by simpa using hlt) ⟨by rw[bg,tt];exact hj,trivial⟩ (by simp[aS,bg,cZ]) (by simp[cZ,Nat.blt]) (by simp);have h2:μ.set j (bg b g)=μ:=by
  refine List.ext_getElem? fun i=>?_
  by_cases hi:j=i
  ·subst hi;rw[List.getElem?_set_self hlt,hj]
  rw[List.getElem?_set_ne hi]
 simp only[bg]at h2 ⊢ h;simpa [nh,nV,uq,tt,h2]using h
theorem Ek (s:Sy) (rows:List Rw) (ch:Bool) (x:aJ) (hx:bL x=true) (hs:∀q∈s.graphs,bj 0 q=true) (hr:rows.length≤1000000000) :
  aq ctx 78 [.agg [aa s.box,ae s.rows,ai s.graphs,ah s.cases,ae rows,.sl 0 [],.bool ch],fq x] (.tup [.bool (bR s rows [] x).2.1,.bool (bR s rows [] x).2.2])∧(bR s rows [] x).1=[]:=by
 simp only[bL,aC,Bool.and_eq_true,decide_eq_true_eq]at hx;obtain⟨⟨⟨k1,k2⟩,x1,x2⟩,x3,x4⟩:=hx;have x5: -1≤x.cell:=by split at x3<;>omega
 obtain⟨i,hi⟩:∃i:Nat,x.index=i:=⟨x.index.toNat,by omega⟩
 obtain⟨kd,ix,cl⟩:=x;simp only at *;subst hi;have hgn:s.graphs=[]:=by
  cases hg:s.graphs with
  |nil=>rfl
  |cons q r =>
   have:=hs q (by rw[hg];simp);simp only[bj,aC,Bool.and_eq_true,decide_eq_true_eq]at this;have h2:=nz this.1.1.1.1.1 this.1.1.1.1.2;omega
 refine⟨?_,List.eq_nil_of_length_eq_zero (by rw[lp];rfl)⟩;unfold bR;rw[hgn];by_cases hk:kd=1
 ·subst hk;rw[if_pos rfl];simp only[List.length_nil];rw[if_neg (by omega)];refine an (C:=ctx) (Fn.of sU rfl) rfl ?_;unfold qt;repeat' (first|((with_reducible show az _);first|exact True.intro|(simp[vb]<;>omega))|((with_reducible show aB _);exact True.intro)|exact(rfl:some _=_)|((fail_if_success refine aK ?_);refine bG ?_;(repeat1' dsimp only[qt,fq,af,ai,aa,ae,ah,go_sem]);first|refine aL ?_ ?_ rfl ?_|apply aM|apply aN|(refine aO (fun hc=>?_) fun hc=>?_<;>first|(cases hc;done)|(try simp only[bn]at hc;try contradiction))|skip))
 obtain rfl:kd=0:=by omega
 rw[if_neg hk];dsimp only;rw[Int.toNat_natCast];by_cases h1:(i:Int)<rows.length∧cl<([]:List Rg).length
 ·have h3:cl<0:=by simpa using h1.2
  rw[if_pos h1,if_pos h3];have h1':i<rows.length:=by omega
  have e1:=bQ ib rows i zw h1';have f1:=da rows;generalize rows.getD i zw=q at *;obtain⟨ts,bd⟩:=q;simp only at *;refine an (C:=ctx) (Fn.of sU rfl) rfl ?_;unfold qt;obtain⟨h1a,h1b⟩:=h1;cases ts with
  |nil =>
   repeat' (first|((with_reducible show az _);first|exact True.intro|(simp only[vb,lb,e1,f1,h1a,h1',h3,cg,ar];and_intros<;>first|omega|(simp<;>omega)))|((with_reducible show aB _);first|exact True.intro|((try dsimp only[go_sem]);(simp[vb,e1,f1,h1a,h1',h3,cg,ar]<;>omega)))|exact(rfl:some _=_)|((fail_if_success refine aK ?_);refine bw [ξ 99 (.agg [.sl 0 [],.int .i64 bd]),ξ 102 (.bool true)] ?_;(repeat1' dsimp only[qt,fq,af,ae,aa,ai,ah,ar,cg,go_sem]);first|refine aL ?_ ?_ rfl ?_|apply aM|apply aN|(refine aO (fun hc=>?_) fun hc=>?_<;>first|(cases hc;done)|(exfalso;(simp at hc<;>omega))|(try simp only[bn]at hc;try contradiction))|skip))
   all_goals simp
  |cons t0 tr =>
   repeat' (first|((with_reducible show az _);first|exact True.intro|(simp only[vb,lb,e1,f1,h1a,h1',h3,cg,ar];and_intros<;>first|omega|(simp<;>omega)))|((with_reducible show aB _);first|exact True.intro|((try dsimp only[go_sem]);(simp[vb,e1,f1,h1a,h1',h3,cg,ar]<;>omega)))|exact(rfl:some _=_)|((fail_if_success refine aK ?_);refine bw [ξ 99 (.agg [.sl (tr.length+1) ((t0::tr).flatMap gZ),.int .i64 bd]),ξ 102 (.bool true),ξ 106 (.bool false)] ?_;(repeat1' dsimp only[qt,fq,af,ae,aa,ai,ah,ar,cg,go_sem]);first|refine aL ?_ ?_ rfl ?_|apply aM|apply aN|(refine aO (fun hc=>?_) fun hc=>?_<;>first|(cases hc;done)|(exfalso;(simp at hc<;>omega))|(try simp only[bn]at hc;try contradiction))|skip))
   all_goals simp
 rw[if_neg h1];refine an (C:=ctx) (Fn.of sU rfl) rfl ?_;unfold qt;by_cases h2:(i:Int)<rows.length
 ·have h3:¬cl<0:=fun h=>h1 ⟨h2,by simpa using h⟩
  repeat' (first|((with_reducible show az _);first|exact True.intro|(simp only[vb,lb,h2,h3];and_intros<;>first|omega|(simp<;>omega)))|((with_reducible show aB _);first|exact True.intro|((try dsimp only[go_sem]);(simp[vb,h2,h3]<;>omega)))|exact(rfl:some _=_)|((fail_if_success refine aK ?_);refine bw [ξ 85 (.bool false),ξ 92 (.bool true)] ?_;(repeat1' dsimp only[qt,fq,af,ae,aa,ai,ah,go_sem]);first|refine aL ?_ ?_ rfl ?_|apply aM|apply aN|(refine aO (fun hc=>?_) fun hc=>?_<;>first|(cases hc;done)|(try simp only[bn]at hc;try contradiction))|skip))
 repeat' (first|((with_reducible show az _);first|exact True.intro|(simp only[vb,lb,h2];and_intros<;>first|omega|(simp<;>omega)))|((with_reducible show aB _);first|exact True.intro|((try dsimp only[go_sem]);(simp[vb,h2]<;>omega)))|exact(rfl:some _=_)|((fail_if_success refine aK ?_);refine bw [ξ 85 (.bool true)] ?_;(repeat1' dsimp only[qt,fq,af,ae,aa,ai,ah,go_sem]);first|refine aL ?_ ?_ rfl ?_|apply aM|apply aN|(refine aO (fun hc=>?_) fun hc=>?_<;>first|(cases hc;done)|(try simp only[bn]at hc;try contradiction))|skip))
end
section
open Rf
theorem tu (μ:AM) (b:List Rg) (op fi:Bool) (k i c:Int) (r:Rg) (bud:Int) (hb:b.length≤1000000000) :
  aF ctx 144 [.pv (.agg [.nilsl,aa b,.bool op,.bool fi]),.pv (.int .i64 k),.pv (.int .i64 i),.pv (.int .i64 c),.pv (.agg [.int .i64 r.lo,.int .i64 r.hi]),.pv (.int .i64 bud)] μ
   (tj μ.length (eM ⟨[],b,op,fi⟩ k i c r bud)) (μ++stM (eM ⟨[],b,op,fi⟩ k i c r bud).steps):=by
 have h:=(zQ b op fi k i c r bud hb).frame [] μ (by simp) (by simp) trivial rfl (by simp[cZ,tj]) (by simp);generalize eM ⟨[],b,op,fi⟩ k i c r bud=y at *;obtain⟨st,b1,o1,f1⟩:=y;cases st with
 |nil=>simpa [uq,nh,tj,stM]using h
 |cons s l=>simpa [uq,nh,nV,tj,stM,pL,Function.comp_def]using h
theorem tv (s0:aJ) (l:List aJ) (tl:AM) (b:List Rg) (op fi:Bool) (k i c:Int) (r:Rg) (bud:Int) (hb:b.length≤1000000000) (hl:l.length≤1000000000) :
  aF ctx 144 [.agg [.ref 0 l.length 0 (l.length+1),.pv (aa b),.pv (.bool op),.pv (.bool fi)],.pv (.int .i64 k),.pv (.int .i64 i),.pv (.int .i64 c),.pv (.agg [.int .i64 r.lo,.int .i64 r.hi]),.pv (.int .i64 bud)] (stM (s0::l)++tl)
   (tj 0 (eM ⟨s0::l,b,op,fi⟩ k i c r bud)) (stM (eM ⟨s0::l,b,op,fi⟩ k i c r bud).steps++tl):=by
 have hne:=(gE ⟨s0::l,b,op,fi⟩ k i c r bud).1;have h:=(Cr s0 l b op fi k i c r bud hb hl).frame [0] (stM (s0::l)++tl) (by simp) (by simp[stM]) ⟨by simp[stM,pL,nh,Function.comp_def],trivial⟩ (qD _) (by simp[cZ,tj,stM,Nat.blt]) (by
  generalize eM ⟨s0::l,b,op,fi⟩ k i c r bud=y at *;obtain⟨st,b1,o1,f1⟩:=y;cases st with
  |nil=>simp at hne
  |cons s l=>simp[stM])
 generalize eM ⟨s0::l,b,op,fi⟩ k i c r bud=y at *;obtain⟨st,b1,o1,f1⟩:=y;cases st with
 |nil=>simp at hne
 |cons s l=>simpa [uq,nh,nV,tj,stM,pL,Function.comp_def]using h
end
section
open Rf
def GX:Nat→Bool:=fun d=>Nat.beq d 59||Nat.beq d 62
def F7:av:=(⟨_,by conv=>(lhs;reduce;try simp only[G4,Int.cast_ofNat_Int,Int.reduceNegSucc,UInt8.reduceOfNat])⟩:{x // codeOf Tryz.prog 47 GX=some x}).1
theorem El:bo Tryz.prog 47 GX=some (F7,[.t 4],144,true):=by kernel_rfl
def dK (s:Sy) (rows:List Rw) (bx:AV) (ch:Bool):eN:=⟨dh s rows bx ch,0,7,73,false⟩
theorem F8 (s:Sy) (rows:List Rw) (b:List Rg) (g:Nat) (ch:Bool) (x:aJ) (hx:bL x=true) (hs:∀q∈s.graphs,bj b.length q=true) (hg:s.graphs.length≤1000000000) (hr:rows.length≤1000000000) (hrt:∀r∈rows,r.terms.length≤1000000000) (hb:b.length≤1000000000)
  (μ:AM) (j:Nat) (hj:μ[j]?=some (bg b g)) :
  aF ctx 78 [.agg (dh s rows (.ref j g 0 b.length) ch),.pv (fq x)] μ (.pv (.tup [.bool (bR s rows b x).2.1,.bool (bR s rows b x).2.2])) (μ.set j (bg (bR s rows b x).1 g)):=by
 have hlt:=(List.getElem?_eq_some_iff.mp hj).1;have h:=(F5 s rows b g ch x hx hs hg hr hrt hb).frame [j] μ (by simp) (by simpa using hlt) ⟨by rw[bg,tt];exact hj,trivial⟩ (by simp[aS,bg,cZ]) (by simp[cZ,Nat.blt,dh]) (by simp);generalize bR s rows b x=q at *;simp only[bg]at h ⊢;simpa [nh,nV,uq,tt,dh]using h
structure AU (s:Sy):Prop where
 g:s.graphs.length≤1000000000
 c:s.cases.length≤1000000
 l:∀l∈s.cases,l.length≤1000∧∀r∈l,r.terms.length≤1000000000
def rE (ch:Bool):Nat:=bif ch then 1001000 else 1000000
theorem zV (s:Sy) (hs:AU s):∀(t:Tree),eA t=true→wt t≤1000000000→∀(rows:List Rw) (b:List Rg) (ch:Bool),rows.length≤rE ch→(∀r∈rows,r.terms.length≤1000000000)→b.length≤1000000000→(∀q∈s.graphs,bj b.length q=true) →
  aq ctx 47 [.agg [aa s.box,ae s.rows,ai s.graphs,ah s.cases,ae rows,aa b,.bool ch],aE t] (.bool (bf s t rows b ch)):=by
 refine Tree.ind fun kd st c a l ih hf hw rows b ch hr hrt hb hgo=>?_
 rw[cz]at hw;have hl:=j3 l;rw[cY]at hf;simp only[Bool.and_eq_true]at hf;obtain⟨⟨hf1,hf2⟩,hf3⟩:=hf;have hE:=xO b hb;have hr':rows.length≤1001000:=by unfold rE at hr;cases ch<;>simp at hr<;>omega
 rw[fw];have f1:=de st;have f2:=bJ b;generalize bO b=eb at *;cases eb with
 |true =>
  simp only[if_true];unfold aa at hE;refine an (C:=ctx) (Fn.of El rfl) rfl ?_;unfold F7;repeat' (first|((with_reducible show az _);first|exact True.intro|(simp only[vb,lb,hE];and_intros<;>first|omega|(simp<;>omega)))|((with_reducible show aB _);first|exact True.intro|((try dsimp only[go_sem]);(simp[vb,hE]<;>omega)))|exact(rfl:some _=_)|((fail_if_success refine aK ?_);refine du [(72,fun _=>some (.bool true))] ?_;(repeat1' dsimp only[qq,aE,Tree.kind,Tree.steps,Tree.cell,Tree.pos,Tree.kids,aj,aw,aa,ae,ai,ah,go_sem]);first|refine aL ?_ ?_ rfl ?_|apply aM|apply aN|(refine aO (fun hc=>?_) fun hc=>?_<;>first|(cases hc;done)|(try simp only[bn]at hc;try contradiction))|skip))
 |false =>
  simp only[Bool.false_eq_true,if_false];by_cases h0:b=[]
  ·subst h0;have hcn:=zU;have hE:aq ctx 72 [.sl 0 []] (.bool false):=hE;refine an (C:=ctx) (Fn.of El rfl) rfl ?_;unfold F7;repeat' (first|((with_reducible show az _);first|exact True.intro|(simp only[vb,lb,hE,hcn];and_intros<;>first|omega|(simp<;>omega)))|((with_reducible show aB _);first|exact True.intro|((try dsimp only[go_sem]);(simp[vb,hE,hcn]<;>omega)))|exact(rfl:some _=_)|((fail_if_success refine aK ?_);refine du [(72,fun _=>some (.bool false)),(77,fun _=>some (.sl 0 []))] ?_;(repeat1' dsimp only[qq,aE,dK,dh,ax,Tree.kind,Tree.steps,Tree.cell,Tree.pos,Tree.kids,aj,aw,aa,ae,ai,ah,go_sem]);first|refine aL ?_ ?_ rfl ?_|apply aM|apply aN|(refine aO (fun hc=>?_) fun hc=>?_<;>first|(cases hc;done)|(try simp only[bn]at hc;try contradiction))|skip))
   refine dD (σ:=Nat) (fun q=>q≤st.length∧bk s rows (st.drop q) []=bk s rows st [])
    (fun q=>[(2,.ptr 0 0 0),(3,.ptr 1 0 0),(23,.pv (aj st)),(24,.pv (.int .i64 st.length)),(25,.pv (.int .i64 q))])
    (fun q=>[dK s rows (.pv (.sl 0 [])) ch,ax (.node kd st c a l)]) (fun q=>st.length-q) 0 ⟨Nat.zero_le _,rfl⟩ (by (repeat' (first|exact trivial|refine And.intro (by first|rfl|(simp[get,Nat.beq]<;>omega)|(dsimp only[get];congr 1<;>first|rfl|omega|(simp<;>omega))) ?_))) ⟨[],rfl⟩ (fun _ _=>⟨Nat.zero_le _,rfl,by simp[aS,dK,dh,ax,cZ]⟩) fun k hq=>?_
   obtain⟨p1,p3⟩:=hq;by_cases hlt:k<st.length
   ·have e:=bQ bI st k zs hlt;have hx:=List.all_eq_true.mp hf1 _ (aQ (d:=zs) hlt);rw[dR st k zs hlt,bk]at p3;generalize st.getD k zs=x at *;obtain⟨hst,hb2⟩:=Ek s rows ch x hx hgo (by omega);generalize bR s rows [] x=q at *;obtain⟨b2,pp,cc⟩:=q;simp only at hst hb2 p3;subst hb2;unfold fq aa ae ai ah at hst;simp only[af]at hst;rw[←p3];cases cc with
    |true =>
     simp only[if_true];repeat' (first|((with_reducible show az _);first|exact True.intro|(simp only[vb,lb,e,f1,hlt,af,hst];and_intros<;>first|omega|(simp<;>omega)))|((with_reducible show aB _);first|exact True.intro|((try dsimp only[go_sem]);(simp[vb,e,f1,hlt,af,hst]<;>omega)))|exact(rfl:some _=_)|((fail_if_success refine aK ?_);refine aV [(78,fun _=>some (.tup [.bool pp,.bool true]))] [ξ 28 (.agg [.int .i64 x.kind,.int .i64 x.index,.int .i64 x.cell])] ?_;(repeat1' dsimp only[qq,dK,dh,ax,Tree.kind,Tree.steps,Tree.cell,Tree.pos,Tree.kids,aj,aw,aa,ae,ai,ah,go_sem]);first|refine aL ?_ ?_ rfl ?_|apply aM|apply aN|(refine aO (fun hc=>?_) fun hc=>?_<;>first|(cases hc;done)|(exfalso;(simp at hc<;>omega))|(try simp only[bn]at hc;try contradiction))|skip))
    |false =>
     simp only[Bool.false_eq_true,if_false];cases pp with
     |false =>
      simp only[Bool.false_eq_true,if_false];repeat' (first|((with_reducible show az _);first|exact True.intro|(simp only[vb,lb,e,f1,hlt,af,hst];and_intros<;>first|omega|(simp<;>omega)))|((with_reducible show aB _);first|exact True.intro|((try dsimp only[go_sem]);(simp[vb,e,f1,hlt,af,hst]<;>omega)))|exact(rfl:some _=_)|((fail_if_success refine aK ?_);refine aV [(78,fun _=>some (.tup [.bool false,.bool false]))] [ξ 28 (.agg [.int .i64 x.kind,.int .i64 x.index,.int .i64 x.cell])] ?_;(repeat1' dsimp only[qq,dK,dh,ax,Tree.kind,Tree.steps,Tree.cell,Tree.pos,Tree.kids,aj,aw,aa,ae,ai,ah,go_sem]);first|refine aL ?_ ?_ rfl ?_|apply aM|apply aN|(refine aO (fun hc=>?_) fun hc=>?_<;>first|(cases hc;done)|(exfalso;(simp at hc<;>omega))|(try simp only[bn]at hc;try contradiction))|skip))
     |true =>
      simp only[if_true];repeat' (first|((with_reducible show az _);first|exact True.intro|(simp only[vb,lb,e,f1,hlt,af,hst];and_intros<;>first|omega|(simp<;>omega)))|((with_reducible show aB _);first|exact True.intro|((try dsimp only[go_sem]);(simp[vb,e,f1,hlt,af,hst]<;>omega)))|exact(rfl:some _=_)|((fail_if_success refine aK ?_);refine aV [(78,fun _=>some (.tup [.bool true,.bool false]))] [ξ 28 (.agg [.int .i64 x.kind,.int .i64 x.index,.int .i64 x.cell])] ?_;(repeat1' dsimp only[qq,dK,dh,ax,Tree.kind,Tree.steps,Tree.cell,Tree.pos,Tree.kids,aj,aw,aa,ae,ai,ah,go_sem]);first|refine aL ?_ ?_ rfl ?_|apply aM|apply aN|(refine aO (fun hc=>?_) fun hc=>?_<;>first|(cases hc;done)|(exfalso;(simp at hc<;>omega))|(try simp only[bn]at hc;try contradiction))|skip))
      exact⟨k+1,by show st.length-(k+1)<st.length-k;omega,⟨by show k+1≤_;omega,rfl⟩,by (repeat' (first|exact trivial|refine And.intro (by first|rfl|(simp[get,Nat.beq]<;>omega)|(dsimp only[get];congr 1<;>first|rfl|omega|(simp<;>omega))) ?_)),_,rfl⟩
   obtain rfl:k=st.length:=by omega
   rw[List.drop_length,bk]at p3;rw[←p3];simp only;clear p3 hE hf1 hcn;have f3:=fa l;by_cases hk1:kd=1
   ·subst hk1;simp[gT,aC]at hf2;obtain⟨⟨t1,t2,t3⟩,t4,t5⟩:=hf2;unfold nW;rw[if_pos rfl,if_neg (by simp;omega)];repeat' (first|((with_reducible show az _);first|exact True.intro|(simp only[vb,lb,t2];and_intros<;>first|omega|(simp<;>omega)))|((with_reducible show aB _);exact True.intro)|exact(rfl:some _=_)|((fail_if_success refine aK ?_);refine bG ?_;(repeat1' dsimp only[qq,dK,dh,ax,Tree.kind,Tree.steps,Tree.cell,Tree.pos,Tree.kids,aj,aw,aa,ae,ai,ah,go_sem]);first|refine aL ?_ ?_ rfl ?_|apply aM|apply aN|(refine aO (fun hc=>?_) fun hc=>?_<;>first|(cases hc;done)|(exfalso;(simp at hc<;>omega))|(try simp only[bn]at hc;try contradiction))|skip))
   by_cases hk2:kd=2
   ·subst hk2;simp[gT]at hf2;obtain⟨⟨⟨t1,t2⟩,rfl⟩,rfl⟩:=hf2;have hcc:=hs.c;unfold nW;rw[if_neg (by decide),if_pos rfl,List.length_map];cases ch with
    |true =>
     repeat' (first|((with_reducible show az _);first|exact True.intro|(simp only[vb,lb,hlt];and_intros<;>first|omega|(simp<;>omega)))|((with_reducible show aB _);first|exact True.intro|((try dsimp only[go_sem]);(simp[vb,hlt]<;>omega)))|exact(rfl:some _=_)|((fail_if_success refine aK ?_);refine bw [ξ 107 (.bool true)] ?_;(repeat1' dsimp only[qq,dK,dh,ax,Tree.kind,Tree.steps,Tree.cell,Tree.pos,Tree.kids,aj,aw,aa,ae,ai,ah,go_sem]);first|refine aL ?_ ?_ rfl ?_|apply aM|apply aN|(refine aO (fun hc=>?_) fun hc=>?_<;>first|(cases hc;done)|(exfalso;(simp at hc<;>omega))|(try simp only[bn]at hc;try contradiction))|skip))
    |false =>
     by_cases hlc:l.length=s.cases.length
     ·rw[decide_eq_true hlc];simp only[Bool.not_false,Bool.true_and];generalize hres:kE rows [] (l.map (bf s)) s.cases=res;repeat' (first|((with_reducible show az _);first|exact True.intro|(simp only[vb,lb,hlt,hlc];and_intros<;>first|omega|(simp<;>omega)))|((with_reducible show aB _);first|exact True.intro|((try dsimp only[go_sem]);(simp[vb,hlt,hlc]<;>omega)))|exact(rfl:some _=_)|((fail_if_success refine aK ?_);refine bw [ξ 107 (.bool false),ξ 116 (.bool false)] ?_;(repeat1' dsimp only[qq,dK,dh,ax,Tree.kind,Tree.steps,Tree.cell,Tree.pos,Tree.kids,aj,aw,aa,ae,ai,ah,go_sem]);first|refine aL ?_ ?_ rfl ?_|apply aM|apply aN|(refine aO (fun hc=>?_) fun hc=>?_<;>first|(cases hc;done)|(exfalso;(simp at hc<;>omega))|(try simp only[bn]at hc;try contradiction))|skip))
      refine dD (σ:=Nat) (fun k=>k≤l.length∧kE rows [] ((l.map (bf s)).drop k) (s.cases.drop k)=res)
       (fun k=>[(2,.ptr 0 0 0),(3,.ptr 1 0 0),(119,.pv (aw l)),(120,.pv (.int .i64 l.length)),(121,.pv (.int .i64 k))])
       (fun k=>[dK s rows (.pv (.sl 0 [])) false,ax (.node 2 st 0 0 l)]) (fun k=>l.length-k) 0 ⟨Nat.zero_le _,hres⟩ (by (repeat' (first|exact trivial|refine And.intro (by first|rfl|(simp[get,Nat.beq]<;>omega)|(dsimp only[get];congr 1<;>first|rfl|omega|(simp<;>omega))) ?_))) ⟨[],rfl⟩ (fun _ _=>⟨Nat.zero_le _,rfl,by simp[aS,dK,dh,ax,cZ]⟩) fun k hq=>?_
      obtain⟨q1,q2⟩:=hq;by_cases hlk:k<l.length
      ·have hkc:k<s.cases.length:=by omega
       have e:=gY l k hlk;have e2:=mj s.cases k hkc;have e3:=kP s.cases;have hcl:=hs.l _ (aQ (d:=([]:List Rw)) hkc);have hmem:=aQ (d:=zt) hlk;have hwk:=lY hmem;have hih:=ih _ hmem (List.all_eq_true.mp hf3 _ hmem) (by omega) (rows++s.cases.getD k []) [] true (by rw[List.length_append];unfold rE at hr ⊢;simp only[cond_true,cond_false]at hr ⊢;omega) (fun r hr=>by
        rcases List.mem_append.mp hr with h|h
        ·exact hrt r h
        exact hcl.2 r h) hb hgo
       have hcon:=uL [rows,s.cases.getD k []] (by simp) (by simp only[j5,List.map_cons,List.map_nil,List.sum_cons,List.sum_nil];omega);rw[show[rows,s.cases.getD k []].flatten=rows++s.cases.getD k [] by simp]at hcon;rw[dR _ k (bf s zt) (by simpa using hlk),dR s.cases k [] hkc,kE]at q2;rw[show(l.map (bf s)).getD k (bf s zt)=bf s (l.getD k zt) by simp[List.getD]]at q2;generalize hrest:kE rows [] ((l.map (bf s)).drop (k+1)) (s.cases.drop (k+1))=rest at *;generalize s.cases.getD k []=cs at *;generalize l.getD k zt=x at *
       generalize bf s x (rows++cs) [] true=qx at *;generalize rows++cs=rows2 at *;obtain⟨a0,a1,a2,a3,a4⟩:=x;simp only[aE,Tree.kind,Tree.steps,Tree.cell,Tree.pos,Tree.kids]at hih e;clear ih hres;have hcon:aq ctx 80 [.sl 2 [.sl rows.length (rows.flatMap cg),.sl cs.length (cs.flatMap cg)]] (.sl rows2.length (rows2.flatMap cg)):=hcon;unfold aa ae ai ah aw aj at hih;repeat' (first|((with_reducible show az _);first|exact True.intro|(simp only[vb,lb,e,f3,hlk,e2,e3,hkc,hcon,aw,aj,hih];and_intros<;>first|omega|(simp<;>omega)))|((with_reducible show aB _);first|exact True.intro|((try dsimp only[go_sem]);first|(simp[vb,e,f3,hlk,e2,e3,hkc,hcon,aw,aj,hih]<;>omega)|(simp only[vb,and_true,true_implies];(repeat' (first|(with_reducible assumption)|(with_reducible apply And.intro)|intro _|((fail_if_success (with_reducible show(_:Int)≤_));assumption))))))|exact(rfl:some _=_)|((fail_if_success refine aK ?_);refine aV [(80,fun _=>some (.sl rows2.length (rows2.flatMap cg))),(47,fun _=>some (.bool qx))] [ξ 125 (.agg [.int .i64 a0,.sl a1.length (a1.flatMap af),.int .i64 a2,.int .i64 a3,.sl a4.length (a4.flatMap aD)]),ξ 134 (.sl cs.length (cs.flatMap cg))] ?_;(repeat1' dsimp only[qq,dK,dh,ax,Tree.kind,Tree.steps,Tree.cell,Tree.pos,Tree.kids,aj,aw,aa,ae,ai,ah,go_sem]);first|refine aL ?_ ?_ rfl ?_|apply aM|apply aN|(refine aO (fun hc=>?_) fun hc=>?_<;>first|(cases hc;done)|(exfalso;(simp at hc<;>omega))|(try simp only[bn]at hc;try contradiction))|skip))
       ·rw[←q2,show qx=false by simpa using hc];rfl
       exact⟨k+1,by show l.length-(k+1)<l.length-k;omega,⟨by show k+1≤_;omega,by rw[←q2,show qx=true by simpa using hc];simpa using hrest⟩,by (repeat' (first|exact trivial|refine And.intro (by first|rfl|(simp[get,Nat.beq]<;>omega)|(dsimp only[get];congr 1<;>first|rfl|omega|(simp<;>omega))) ?_)),_,rfl⟩
      obtain rfl:k=l.length:=by omega
      rw[List.drop_of_length_le (by simp),kE]at q2;subst q2;repeat' (first|((with_reducible show az _);exact True.intro)|((with_reducible show aB _);exact True.intro)|exact(rfl:some _=_)|((fail_if_success refine aK ?_);refine bG ?_;(repeat1' dsimp only[qq,dK,dh,ax,Tree.kind,Tree.steps,Tree.cell,Tree.pos,Tree.kids,aj,aw,aa,ae,ai,ah,go_sem]);first|refine aL ?_ ?_ rfl ?_|apply aM|apply aN|(refine aO (fun hc=>?_) fun hc=>?_<;>first|(cases hc;done)|(exfalso;(simp at hc<;>omega))|(try simp only[bn]at hc;try contradiction))|skip))
      all_goals (intro _ _ _ _ h;cases h)
     rw[decide_eq_false hlc];have hlc':¬(l.length:Int)=(s.cases.length:Int):=by omega
     repeat' (first|((with_reducible show az _);first|exact True.intro|(simp only[vb,lb,hlt,hlc'];and_intros<;>first|omega|(simp<;>omega)))|((with_reducible show aB _);first|exact True.intro|((try dsimp only[go_sem]);(simp[vb,hlt,hlc']<;>omega)))|exact(rfl:some _=_)|((fail_if_success refine aK ?_);refine bw [ξ 107 (.bool false),ξ 116 (.bool true)] ?_;(repeat1' dsimp only[qq,dK,dh,ax,Tree.kind,Tree.steps,Tree.cell,Tree.pos,Tree.kids,aj,aw,aa,ae,ai,ah,go_sem]);first|refine aL ?_ ?_ rfl ?_|apply aM|apply aN|(refine aO (fun hc=>?_) fun hc=>?_<;>first|(cases hc;done)|(exfalso;(simp at hc<;>omega))|(try simp only[bn]at hc;try contradiction))|skip))
   rw[show nW s kd c a (l.map (bf s)) rows [] ch=false by rw[nW,if_neg hk1,if_neg hk2]];repeat' (first|((with_reducible show az _);first|exact True.intro|(simp only[vb,lb,hk1,hk2];and_intros<;>first|omega|(simp<;>omega)))|((with_reducible show aB _);exact True.intro)|exact(rfl:some _=_)|((fail_if_success refine aK ?_);refine bG ?_;(repeat1' dsimp only[qq,dK,dh,ax,Tree.kind,Tree.steps,Tree.cell,Tree.pos,Tree.kids,aj,aw,aa,ae,ai,ah,go_sem]);first|refine aL ?_ ?_ rfl ?_|apply aM|apply aN|(refine aO (fun hc=>?_) fun hc=>?_<;>first|(cases hc;done)|(exfalso;(simp at hc<;>omega))|(try simp only[bn]at hc;try contradiction))|skip))
  have hpos:0<b.length:=List.length_pos_iff.mpr h0;have hcln:=HI b h0 hb [⟨[.pv (aa s.box),.pv (ae s.rows),.pv (ai s.graphs),.pv (ah s.cases),.pv (ae rows),.pv (aa b),.pv (.bool ch)],0,7,73,false⟩,ax (.node kd st c a l)];unfold aa at hE;unfold aa ae ai ah ax bg at hcln;simp only[Tree.kind,Tree.steps,Tree.cell,Tree.pos,Tree.kids,aj,aw,List.length_cons,List.length_nil,List.cons_append,List.nil_append,Nat.zero_add]at hcln;refine an (C:=ctx) (Fn.of El rfl) rfl ?_;unfold F7;repeat' (first|((with_reducible show az _);first|exact True.intro|(simp only[vb,lb,hE,hcln];and_intros<;>first|omega|(simp<;>omega)))|((with_reducible show aB _);first|exact True.intro|((try dsimp only[go_sem]);(simp[vb,hE,hcln]<;>omega)))|exact(rfl:some _=_)|((fail_if_success refine aK ?_);refine aV [(72,fun _=>some (.bool false))] [(20,{val:=some (.ref 2 1 0 b.length),mem:=some [⟨[.pv (aa s.box),.pv (ae s.rows),.pv (ai s.graphs),.pv (ah s.cases),.pv (ae rows),.pv (aa b),.pv (.bool ch)],0,7,73,false⟩,ax (.node kd st c a l),bg b 1]})] ?_;(repeat1' dsimp only[qq,aE,ax,bg,Tree.kind,Tree.steps,Tree.cell,Tree.pos,Tree.kids,aj,aw,aa,ae,ai,ah,go_sem]);first|refine aL ?_ ?_ rfl ?_|apply aM|apply aN|(refine aO (fun hc=>?_) fun hc=>?_<;>first|(cases hc;done)|(try simp only[bn]at hc;try contradiction))|skip))
  refine dD (σ:=Nat×List Rg) (fun q=>q.1≤st.length∧q.2.length=b.length∧bk s rows (st.drop q.1) q.2=bk s rows st b)
   (fun q=>[(2,.ptr 0 0 0),(3,.ptr 1 0 0),(23,.pv (aj st)),(24,.pv (.int .i64 st.length)),(25,.pv (.int .i64 q.1))])
   (fun q=>[dK s rows (.ref 2 1 0 b.length) ch,ax (.node kd st c a l),bg q.2 1]) (fun q=>st.length-q.1) (0,b) ⟨Nat.zero_le _,rfl,rfl⟩ (by (repeat' (first|exact trivial|refine And.intro (by first|rfl|(simp[get,Nat.beq]<;>omega)|(dsimp only[get];congr 1<;>first|rfl|omega|(simp<;>omega))) ?_))) ⟨[],rfl⟩ (fun _ _=>⟨Nat.zero_le _,rfl,by simp[aS,dK,dh,ax,bg,cZ,Nat.blt]⟩) fun q hq=>?_
  obtain⟨k,bb⟩:=q;obtain⟨p1,p2,p3⟩:=hq;simp only at p1 p2 p3 ⊢;by_cases hlt:k<st.length
  ·have e:=bQ bI st k zs hlt;have hx:=List.all_eq_true.mp hf1 _ (aQ (d:=zs) hlt);rw[dR st k zs hlt,bk]at p3;generalize st.getD k zs=x at *;have hst:=F8 s rows bb 1 ch x hx (by rw[p2];exact hgo) hs.g (by omega) hrt (by omega) [dK s rows (.ref 2 1 0 b.length) ch,ax (.node kd st c a l),bg bb 1,⟨[.pv (.int .i64 x.kind),.pv (.int .i64 x.index),.pv (.int .i64 x.cell)],0,3,66,false⟩] 2 rfl;have hln:=lp s rows bb x;generalize bR s rows bb x=q at *;obtain⟨b2,pp,cc⟩:=q;simp only at hst hln p3;rw[p2]at hst hln
   rw[show([dK s rows (.ref 2 1 0 b.length) ch,ax (.node kd st c a l),bg bb 1,⟨[.pv (.int .i64 x.kind),.pv (.int .i64 x.index),.pv (.int .i64 x.cell)],0,3,66,false⟩]:AM).set 2 (bg b2 1)=[dK s rows (.ref 2 1 0 b.length) ch,ax (.node kd st c a l),bg b2 1,⟨[.pv (.int .i64 x.kind),.pv (.int .i64 x.index),.pv (.int .i64 x.cell)],0,3,66,false⟩] from rfl]at hst;unfold dK dh ax bg fq aa ae ai ah at hst;simp only[Tree.kind,Tree.steps,Tree.cell,Tree.pos,Tree.kids,aj,aw,af]at hst;rw[←p3];clear p3 hcln;cases cc with
   |true =>
    simp only[if_true];repeat' (first|((with_reducible show az _);first|exact True.intro|(simp only[vb,lb,e,f1,hlt,af,hst];and_intros<;>first|omega|(simp<;>omega)))|((with_reducible show aB _);first|exact True.intro|((try dsimp only[go_sem]);(simp[vb,e,f1,hlt,af,hst]<;>omega)))|exact(rfl:some _=_)|((fail_if_success refine aK ?_);refine bw [ξ 28 (.agg [.int .i64 x.kind,.int .i64 x.index,.int .i64 x.cell]),(32,{val:=some (.pv (.tup [.bool pp,.bool true])),mem:=some [dK s rows (.ref 2 1 0 b.length) ch,ax (.node kd st c a l),bg b2 1,⟨[.pv (.int .i64 x.kind),.pv (.int .i64 x.index),.pv (.int .i64 x.cell)],0,3,66,false⟩]})] ?_;(repeat1' dsimp only[qq,dK,dh,ax,bg,Tree.kind,Tree.steps,Tree.cell,Tree.pos,Tree.kids,aj,aw,aa,ae,ai,ah,go_sem]);first|refine aL ?_ ?_ rfl ?_|apply aM|apply aN|(refine aO (fun hc=>?_) fun hc=>?_<;>first|(cases hc;done)|(exfalso;(simp at hc<;>omega))|(try simp only[bn]at hc;try contradiction))|skip))
   |false =>
    simp only[Bool.false_eq_true,if_false];cases pp with
    |false =>
     simp only[Bool.false_eq_true,if_false];repeat' (first|((with_reducible show az _);first|exact True.intro|(simp only[vb,lb,e,f1,hlt,af,hst];and_intros<;>first|omega|(simp<;>omega)))|((with_reducible show aB _);first|exact True.intro|((try dsimp only[go_sem]);(simp[vb,e,f1,hlt,af,hst]<;>omega)))|exact(rfl:some _=_)|((fail_if_success refine aK ?_);refine bw [ξ 28 (.agg [.int .i64 x.kind,.int .i64 x.index,.int .i64 x.cell]),(32,{val:=some (.pv (.tup [.bool false,.bool false])),mem:=some [dK s rows (.ref 2 1 0 b.length) ch,ax (.node kd st c a l),bg b2 1,⟨[.pv (.int .i64 x.kind),.pv (.int .i64 x.index),.pv (.int .i64 x.cell)],0,3,66,false⟩]})] ?_;(repeat1' dsimp only[qq,dK,dh,ax,bg,Tree.kind,Tree.steps,Tree.cell,Tree.pos,Tree.kids,aj,aw,aa,ae,ai,ah,go_sem]);first|refine aL ?_ ?_ rfl ?_|apply aM|apply aN|(refine aO (fun hc=>?_) fun hc=>?_<;>first|(cases hc;done)|(exfalso;(simp at hc<;>omega))|(try simp only[bn]at hc;try contradiction))|skip))
    |true =>
     simp only[if_true];repeat' (first|((with_reducible show az _);first|exact True.intro|(simp only[vb,lb,e,f1,hlt,af,hst];and_intros<;>first|omega|(simp<;>omega)))|((with_reducible show aB _);first|exact True.intro|((try dsimp only[go_sem]);(simp[vb,e,f1,hlt,af,hst]<;>omega)))|exact(rfl:some _=_)|((fail_if_success refine aK ?_);refine bw [ξ 28 (.agg [.int .i64 x.kind,.int .i64 x.index,.int .i64 x.cell]),(32,{val:=some (.pv (.tup [.bool true,.bool false])),mem:=some [dK s rows (.ref 2 1 0 b.length) ch,ax (.node kd st c a l),bg b2 1,⟨[.pv (.int .i64 x.kind),.pv (.int .i64 x.index),.pv (.int .i64 x.cell)],0,3,66,false⟩]})] ?_;(repeat1' dsimp only[qq,dK,dh,ax,bg,Tree.kind,Tree.steps,Tree.cell,Tree.pos,Tree.kids,aj,aw,aa,ae,ai,ah,go_sem]);first|refine aL ?_ ?_ rfl ?_|apply aM|apply aN|(refine aO (fun hc=>?_) fun hc=>?_<;>first|(cases hc;done)|(exfalso;(simp at hc<;>omega))|(try simp only[bn]at hc;try contradiction))|skip))
     exact⟨(k+1,b2),by show st.length-(k+1)<st.length-k;omega,⟨by show k+1≤_;omega,hln,rfl⟩,by (repeat' (first|exact trivial|refine And.intro (by first|rfl|(simp[get,Nat.beq]<;>omega)|(dsimp only[get];congr 1<;>first|rfl|omega|(simp<;>omega))) ?_)),_,rfl⟩
  obtain rfl:k=st.length:=by omega
  rw[List.drop_length,bk]at p3;rw[←p3];simp only;clear p3 hcln hE hf1;have f3:=fa l;rw[←p2]at hb hgo hpos ⊢;have f4:=bJ bb;clear f2;by_cases hk1:kd=1
  ·subst hk1;simp[gT,aC]at hf2;obtain⟨⟨t1,t2,t3⟩,t4,t5⟩:=hf2;obtain⟨cn,rfl⟩:∃n:Nat,c=n:=⟨c.toNat,by omega⟩
   unfold nW;rw[if_pos rfl];by_cases hcb:(cn:Int)<bb.length
   ·rw[if_pos hcb];have hcb':cn<bb.length:=by omega
    match l,t1 with
    |[k0,k1],_ =>
    simp only[List.map_cons,List.map_nil,Int.toNat_natCast];have e:=iR bb cn (by omega) hcb;rw[Int.toNat_natCast]at e;have e4:(((bb.flatMap bS).map AV.pv).drop (cn*2)).take 2=[.pv (.int .i64 (bb.getD cn zr).lo),.pv (.int .i64 (bb.getD cn zr).hi)]:=by rw[←List.map_drop,←List.map_take,e];rfl
    clear e;generalize bb.getD cn zr=y at *;iterate 9 first
     |refine⟨fun h=>by simp at h<;>omega,fun _=>?_⟩
     |refine⟨by simp[vb,hcb,hcb',f4,e4,br]<;>omega,by simp[vb,hcb,hcb',f4,e4,br]<;>omega,?_⟩
     |(refine bw [ξ 54 (.agg [.int .i64 y.lo,.int .i64 y.hi])] ?_;iterate 2 (try dsimp only[dK,dh,ax,bg,Tree.kind,Tree.steps,Tree.cell,Tree.pos,Tree.kids,go_sem]))
    refine bw [ξ 54 (.agg [.int .i64 y.lo,.int .i64 y.hi])] ?_;dsimp only[dK,dh,ax,bg,Tree.kind,Tree.steps,Tree.cell,Tree.pos,Tree.kids,go_sem];refine⟨fun _=>?_,fun h=>by simp at h<;>omega⟩;iterate 5 first
     |refine⟨fun h=>by simp at h<;>omega,fun _=>?_⟩
     |refine⟨by simp[vb,hcb,hcb',f4,e4,br]<;>omega,by simp[vb,hcb,hcb',f4,e4,br]<;>omega,?_⟩
     |(refine bw [ξ 54 (.agg [.int .i64 y.lo,.int .i64 y.hi])] ?_;iterate 2 (try dsimp only[dK,dh,ax,bg,Tree.kind,Tree.steps,Tree.cell,Tree.pos,Tree.kids,go_sem]))
    refine bw [ξ 54 (.agg [.int .i64 y.lo,.int .i64 y.hi])] ?_;dsimp only[dK,dh,ax,bg,Tree.kind,Tree.steps,Tree.cell,Tree.pos,Tree.kids,go_sem];try dsimp only[dK,dh,ax,bg,Tree.kind,Tree.steps,Tree.cell,Tree.pos,Tree.kids,go_sem]
    refine⟨(by (simp only[vb,lb,hcb,hcb',f4,e4,br];and_intros<;>first|omega|(simp<;>omega))),(by ((try dsimp only[go_sem]);(simp[vb,hcb,hcb',f4,e4,br]<;>omega))),?_⟩;refine bq [(2,.ptr 0 0 0),(3,.ptr 1 0 0),(9,.ptr 3 0 0)] (by (repeat' (first|exact trivial|refine And.intro (by first|rfl|(simp[get,Nat.beq]<;>omega)|(dsimp only[get];congr 1<;>first|rfl|omega|(simp<;>omega))) ?_))) ?_;have hcr:=fun μ hj=>Ej bb 1 hpos hb μ 2 hj
    refine G6 2 [] [] rfl ?_ ?_;dsimp only[sj,go_sem];refine⟨(by first|exact True.intro|(simp only[vb,lb];omega)|(simp[vb]<;>omega)),(by first|exact True.intro|((try dsimp only[go_sem]);first|(simp[vb]<;>omega)|(simp only[vb,and_true,true_implies];(repeat' (first|(with_reducible assumption)|(with_reducible apply And.intro)|intro _|((fail_if_success (with_reducible show(_:Int)≤_));assumption)))<;>first|omega|rfl|(simp only[ab];done)|(simp[Nat.mul_one]<;>omega)|(simp_all;done)))),rfl,?_⟩;dsimp only[go_sem];rotate_left;dsimp only[sk,my,go_sem]
    refine⟨(by first|exact True.intro|(simp only[vb,lb];omega)|(simp[vb]<;>omega)),(by first|exact True.intro|((try dsimp only[go_sem]);first|(simp[vb]<;>omega)|(simp only[vb,and_true,true_implies];(repeat' (first|(with_reducible assumption)|(with_reducible apply And.intro)|intro _|((fail_if_success (with_reducible show(_:Int)≤_));assumption)))<;>first|omega|rfl|(simp only[ab];done)|(simp[Nat.mul_one]<;>omega)|(simp_all;done)))),rfl,?_⟩;refine iM [0,1,2,3,5,4] rfl ?_;dsimp only[go_sem];rw[Hr];all_goals
     refine bq [(2,.ptr 0 0 0),(3,.ptr 1 0 0),(9,.ptr 3 0 0),(10,.ptr 4 0 0),(11,.ptr 5 0 0)] (by (repeat' (first|exact trivial|refine And.intro (by first|rfl|(simp[get,Nat.beq]<;>omega)|(dsimp only[get];congr 1<;>first|rfl|omega|(simp<;>omega))) ?_))) ?_;simp only[iA]at hw;have ih0:=ih k0 (by simp) (by simpa using (List.all_eq_true.mp hf3 k0 (by simp))) (by omega) rows (bb.set cn ⟨y.lo,min y.hi a⟩) ch hr hrt (by simpa using hb) (by simpa using hgo)
     have ih1:=ih k1 (by simp) (by simpa using (List.all_eq_true.mp hf3 k1 (by simp))) (by omega) rows (bb.set cn ⟨max y.lo (a+1),y.hi⟩) ch hr hrt (by simpa using hb) (by simpa using hgo);clear ih;unfold bg at hcr;refine bw [(59,{val:=some (.ref 6 1 0 bb.length),new:=[⟨(bb.flatMap bS).map .pv,1,2,57,false⟩]}),(62,{val:=some (.ref 7 1 0 bb.length),new:=[⟨(bb.flatMap bS).map .pv,1,2,57,false⟩]})] ?_;dsimp only[go_sem];try dsimp only[go_sem]
     refine⟨(by simp[vb]<;>omega),?_,(by first|rfl|trivial),?_⟩
     ·iterate 3 (try dsimp only[pO,wh,go_sem])
      exact⟨hcr _ rfl,hcr _ rfl,trivial⟩
     iterate 3 (try dsimp only[pO,wh,go_sem])
     refine bq [(2,.ptr 0 0 0),(3,.ptr 1 0 0),(9,.ptr 3 0 0),(10,.ptr 4 0 0),(11,.ptr 5 0 0)] (by (repeat' (first|exact trivial|refine And.intro (by first|rfl|(simp[get,Nat.beq]<;>omega)|(dsimp only[get];congr 1<;>first|rfl|omega|(simp<;>omega))) ?_))) ?_;have e6:=bJ bb;have hm1:=AL y ⟨y.lo,a⟩;have hm2:=AL y ⟨a+1,y.hi⟩;have e7:=fun b lo hi h=>tn b cn lo hi h
     simp only[Int.max_self,Int.min_self]at hm1 hm2;refine eE (lU (T:=[(79,fun ps=>match ps with|[.agg [.int _ a,.int _ b],.agg [.int _ c,.int _ d]]=>some (.agg [.int .i64 (max a c),.int .i64 (min b d)])|_=>none)]) (H:=[]) (by rfl) ?_);dsimp only[dy,go_sem];try dsimp only[go_sem]
     refine⟨(by simp[vb,hcb,hcb',e6,hm1]<;>omega),(by simp[vb,hcb,hcb',e6,hm1]<;>omega),?_⟩;iterate 3 (try dsimp only[go_sem])
     refine bq [(2,.ptr 0 0 0),(3,.ptr 1 0 0),(9,.ptr 3 0 0),(10,.ptr 4 0 0),(11,.ptr 5 0 0)] (by (repeat' (first|exact trivial|refine And.intro (by first|rfl|(simp[get,Nat.beq]<;>omega)|(dsimp only[get];congr 1<;>first|rfl|omega|(simp<;>omega))) ?_))) ?_;rw[show((((bb.flatMap bS).map AV.pv).set (0+(cn:Int).toNat*2) (.pv (.int .i64 (max y.lo y.lo)))).set (0+(cn:Int).toNat*2+1) (.pv (.int .i64 (min y.hi a))))=((bb.set cn ⟨y.lo,min y.hi a⟩).flatMap bS).map AV.pv from by rw[←e7 bb _ _ hcb',Int.max_self];simp]
     refine eE (lU (T:=[(79,fun ps=>match ps with|[.agg [.int _ a,.int _ b],.agg [.int _ c,.int _ d]]=>some (.agg [.int .i64 (max a c),.int .i64 (min b d)])|_=>none)]) (H:=[]) (by rfl) ?_);dsimp only[dy,go_sem];try dsimp only[go_sem]
     refine⟨(by simp[vb,hcb,hcb',e6,hm2]<;>omega),(by simp[vb,hcb,hcb',e6,hm2]<;>omega),?_⟩;iterate 3 (try dsimp only[go_sem])
     refine bq [(2,.ptr 0 0 0),(3,.ptr 1 0 0),(9,.ptr 3 0 0),(10,.ptr 4 0 0),(11,.ptr 5 0 0)] (by (repeat' (first|exact trivial|refine And.intro (by first|rfl|(simp[get,Nat.beq]<;>omega)|(dsimp only[get];congr 1<;>first|rfl|omega|(simp<;>omega))) ?_))) ?_;rw[show((((bb.flatMap bS).map AV.pv).set (0+(cn:Int).toNat*2) (.pv (.int .i64 (max y.lo (a+1))))).set (0+(cn:Int).toNat*2+1) (.pv (.int .i64 (min y.hi y.hi))))=((bb.set cn ⟨max y.lo (a+1),y.hi⟩).flatMap bS).map AV.pv from by rw[←e7 bb _ _ hcb',Int.min_self];simp];clear hcr e7 hm1 hm2 e6 e4
     have hbl0:(bb.set cn ⟨y.lo,min y.hi a⟩).length=bb.length:=by simp
     have hbl1:(bb.set cn ⟨max y.lo (a+1),y.hi⟩).length=bb.length:=by simp
     generalize bb.set cn ⟨y.lo,min y.hi a⟩=bl at *;generalize bb.set cn ⟨max y.lo (a+1),y.hi⟩=bh at *;generalize bf s k0 rows bl ch=q0 at *;generalize bf s k1 rows bh ch=q1 at *;have z1:=bJ bl;have z2:=bJ bh;have x1:(0+bb.length*2).ble ((bl.flatMap bS).map AV.pv).length=true:=by rw[List.length_map,z1,hbl0];simp
     have x3:(0+bb.length*2).ble ((bh.flatMap bS).map AV.pv).length=true:=by rw[List.length_map,z2,hbl1];simp
     have x2:br (((bl.flatMap bS).map AV.pv).take (bb.length*2))=some (bl.flatMap bS):=by rw[←hbl0];exact(nI bl 1).2
     have x4:br (((bh.flatMap bS).map AV.pv).take (bb.length*2))=some (bh.flatMap bS):=by rw[←hbl1];exact(nI bh 1).2
     obtain⟨a0,a1,a2,a3,a4⟩:=k0;obtain⟨d0,d1,d2,d3,d4⟩:=k1;have g0:=gY [.node a0 a1 a2 a3 a4,.node d0 d1 d2 d3 d4] 0 (by simp);have g1:=gY [.node a0 a1 a2 a3 a4,.node d0 d1 d2 d3 d4] 1 (by simp);simp only[List.getD_cons_zero,List.getD_cons_succ,Tree.kind,Tree.steps,Tree.cell,Tree.pos,Tree.kids,Nat.zero_mul,Nat.one_mul,List.drop_zero]at g0 g1;have g2':([Tree.node a0 a1 a2 a3 a4,.node d0 d1 d2 d3 d4].flatMap aD).length=10:=fa _;simp only[aE,Tree.kind,Tree.steps,Tree.cell,Tree.pos,Tree.kids]at ih0 ih1;unfold aw aa at ih0 ih1;unfold aw at g0 g1
     refine bw [ξ 94 (.agg [.int .i64 a0,aj a1,.int .i64 a2,.int .i64 a3,aw a4]),(95,{val:=some (.pv (.bool q0)),args:=some [.agg [aa s.box,ae s.rows,ai s.graphs,ah s.cases,ae rows,aa bl,.bool ch],.agg [.int .i64 a0,aj a1,.int .i64 a2,.int .i64 a3,aw a4]]}),ξ 101 (.agg [.int .i64 d0,aj d1,.int .i64 d2,.int .i64 d3,aw d4]),(102,{val:=some (.pv (.bool q1)),args:=some [.agg [aa s.box,ae s.rows,ai s.graphs,ah s.cases,ae rows,aa bh,.bool ch],.agg [.int .i64 d0,aj d1,.int .i64 d2,.int .i64 d3,aw d4]]})] ?_
     dsimp only[aw,go_sem];try dsimp only[aw,go_sem]
     refine⟨(by simp[vb,ck]<;>omega),?_,?_⟩
     ·unfold aa;simp only[x1,x2,x3,x4,cond_true,g0,g1,hbl0,hbl1]at ih0 ih1 ⊢;exact⟨fun _ h=>h,fun h=>⟨trivial,⟨fun _=>h,fun _=>h,trivial⟩,trivial,ih1,trivial⟩,fun h=>⟨by simp[vb,ck],⟨fun _=>h,trivial⟩,trivial,trivial⟩,fun h=>⟨by simp[vb],⟨fun _=>h,trivial⟩,trivial⟩,fun h=>⟨by simp[vb],⟨fun _=>h,trivial⟩,trivial⟩,fun _=>⟨trivial,trivial,trivial⟩,fun _=>⟨by simp[vb],trivial,trivial⟩,trivial,ih0,trivial,trivial⟩
     repeat' (first|((with_reducible show az _);exact True.intro)|exact(rfl:some _=_)|((fail_if_success refine aK ?_);refine bG ?_;(repeat1' dsimp only[qq,go_sem]);first|refine aL ?_ ?_ rfl ?_|apply aM|apply aN|(refine aO (fun hc=>?_) fun hc=>?_<;>first|(cases hc;done)|(try simp only[bn]at hc;try contradiction))|skip))
     rw[kn]
   rw[if_neg hcb];repeat' (first|((with_reducible show az _);first|exact True.intro|(simp only[vb,lb,hcb];and_intros<;>first|omega|(simp<;>omega)))|((with_reducible show aB _);exact True.intro)|exact(rfl:some _=_)|((fail_if_success refine aK ?_);refine bG ?_;(repeat1' dsimp only[qq,dK,dh,ax,bg,Tree.kind,Tree.steps,Tree.cell,Tree.pos,Tree.kids,go_sem]);first|refine aL ?_ ?_ rfl ?_|apply aM|apply aN|(refine aO (fun hc=>?_) fun hc=>?_<;>first|(cases hc;done)|(exfalso;(simp at hc<;>omega))|(try simp only[bn]at hc;try contradiction))|skip))
  by_cases hk2:kd=2
  ·subst hk2;simp[gT]at hf2;obtain⟨⟨⟨t1,t2⟩,rfl⟩,rfl⟩:=hf2;have hcc:=hs.c;unfold nW;rw[if_neg (by decide),if_pos rfl,List.length_map];cases ch with
   |true =>
    repeat' (first|((with_reducible show az _);first|exact True.intro|(simp only[vb,lb,hlt];and_intros<;>first|omega|(simp<;>omega)))|((with_reducible show aB _);first|exact True.intro|((try dsimp only[go_sem]);(simp[vb,hlt]<;>omega)))|exact(rfl:some _=_)|((fail_if_success refine aK ?_);refine bw [ξ 107 (.bool true)] ?_;(repeat1' dsimp only[qq,dK,dh,ax,bg,Tree.kind,Tree.steps,Tree.cell,Tree.pos,Tree.kids,aw,ah,go_sem]);first|refine aL ?_ ?_ rfl ?_|apply aM|apply aN|(refine aO (fun hc=>?_) fun hc=>?_<;>first|(cases hc;done)|(exfalso;(simp at hc<;>omega))|(try simp only[bn]at hc;try contradiction))|skip))
   |false =>
    by_cases hlc:l.length=s.cases.length
    ·rw[decide_eq_true hlc];simp only[Bool.not_false,Bool.true_and];generalize hres:kE rows bb (l.map (bf s)) s.cases=res;repeat' (first|((with_reducible show az _);first|exact True.intro|(simp only[vb,lb,hlt,hlc];and_intros<;>first|omega|(simp<;>omega)))|((with_reducible show aB _);first|exact True.intro|((try dsimp only[go_sem]);(simp[vb,hlt,hlc]<;>omega)))|exact(rfl:some _=_)|((fail_if_success refine aK ?_);refine bw [ξ 107 (.bool false),ξ 116 (.bool false)] ?_;(repeat1' dsimp only[qq,dK,dh,ax,bg,Tree.kind,Tree.steps,Tree.cell,Tree.pos,Tree.kids,aw,ah,go_sem]);first|refine aL ?_ ?_ rfl ?_|apply aM|apply aN|(refine aO (fun hc=>?_) fun hc=>?_<;>first|(cases hc;done)|(exfalso;(simp at hc<;>omega))|(try simp only[bn]at hc;try contradiction))|skip))
     refine dD (σ:=Nat) (fun k=>k≤l.length∧kE rows bb ((l.map (bf s)).drop k) (s.cases.drop k)=res)
      (fun k=>[(2,.ptr 0 0 0),(3,.ptr 1 0 0),(119,.pv (aw l)),(120,.pv (.int .i64 l.length)),(121,.pv (.int .i64 k))])
      (fun k=>[dK s rows (.ref 2 1 0 bb.length) false,ax (.node 2 st 0 0 l),bg bb 1]) (fun k=>l.length-k) 0 ⟨Nat.zero_le _,hres⟩ (by (repeat' (first|exact trivial|refine And.intro (by first|rfl|(simp[get,Nat.beq]<;>omega)|(dsimp only[get];congr 1<;>first|rfl|omega|(simp<;>omega))) ?_))) ⟨[],rfl⟩ (fun _ _=>⟨Nat.zero_le _,rfl,by simp[aS,dK,dh,ax,bg,cZ,Nat.blt]⟩) fun k hq=>?_
     obtain⟨q1,q2⟩:=hq;by_cases hlk:k<l.length
     ·have hkc:k<s.cases.length:=by omega
      have e:=gY l k hlk;have e2:=mj s.cases k hkc;have e3:=kP s.cases;have hcl:=hs.l _ (aQ (d:=([]:List Rw)) hkc);have hmem:=aQ (d:=zt) hlk;have hwk:=lY hmem;have hih:=ih _ hmem (List.all_eq_true.mp hf3 _ hmem) (by omega) (rows++s.cases.getD k []) bb true (by rw[List.length_append];unfold rE at hr ⊢;simp only[cond_true,cond_false]at hr ⊢;omega) (fun r hr=>by
       rcases List.mem_append.mp hr with h|h
       ·exact hrt r h
       exact hcl.2 r h) hb hgo
      have hcon:=uL [rows,s.cases.getD k []] (by simp) (by simp only[j5,List.map_cons,List.map_nil,List.sum_cons,List.sum_nil];omega);rw[show[rows,s.cases.getD k []].flatten=rows++s.cases.getD k [] by simp]at hcon;rw[dR _ k (bf s zt) (by simpa using hlk),dR s.cases k [] hkc,kE]at q2;rw[show(l.map (bf s)).getD k (bf s zt)=bf s (l.getD k zt) by simp[List.getD]]at q2;generalize hrest:kE rows bb ((l.map (bf s)).drop (k+1)) (s.cases.drop (k+1))=rest at *;generalize s.cases.getD k []=cs at *;generalize l.getD k zt=x at *
      generalize bf s x (rows++cs) bb true=qx at *;generalize rows++cs=rows2 at *;obtain⟨x1,x2⟩:=nI bb 1;obtain⟨a0,a1,a2,a3,a4⟩:=x;simp only[aE,Tree.kind,Tree.steps,Tree.cell,Tree.pos,Tree.kids]at hih e;clear ih hres;have hcon:aq ctx 80 [.sl 2 [ae rows,.sl cs.length (cs.flatMap cg)]] (.sl rows2.length (rows2.flatMap cg)):=hcon;have z1:=bJ bb;iterate 5 first
       |refine⟨fun _=>?_,fun h=>by simp at h<;>omega⟩
       |refine⟨by simp[vb,e,f3,hlk,e2,e3,hkc,hcon,aw]<;>omega,by simp[vb,e,f3,hlk,e2,e3,hkc,hcon,aw]<;>omega,?_⟩
       |(refine aV [(80,fun _=>some (.sl rows2.length (rows2.flatMap cg)))] [ξ 125 (.agg [.int .i64 a0,aj a1,.int .i64 a2,.int .i64 a3,aw a4]),ξ 134 (.sl cs.length (cs.flatMap cg))] ?_;iterate 2 (try dsimp only[dK,dh,ax,bg,Tree.kind,Tree.steps,Tree.cell,Tree.pos,Tree.kids,aw,ah,go_sem]))
      refine aV [(80,fun _=>some (.sl rows2.length (rows2.flatMap cg)))] [ξ 125 (.agg [.int .i64 a0,aj a1,.int .i64 a2,.int .i64 a3,aw a4]),ξ 134 (.sl cs.length (cs.flatMap cg))] ?_;dsimp only[dK,dh,ax,bg,Tree.kind,Tree.steps,Tree.cell,Tree.pos,Tree.kids,aw,ah,go_sem];try dsimp only[dK,dh,ax,bg,Tree.kind,Tree.steps,Tree.cell,Tree.pos,Tree.kids,aw,ah,go_sem]
      refine⟨(by (simp[vb,e,f3,hlk,e2,e3,hkc,hcon,aw]<;>omega)),(by ((try dsimp only[go_sem]);(simp[vb,e,f3,hlk,e2,e3,hkc,hcon,aw]<;>omega))),?_⟩;refine aV [(80,fun _=>some (.sl rows2.length (rows2.flatMap cg)))] [ξ 125 (.agg [.int .i64 a0,aj a1,.int .i64 a2,.int .i64 a3,aw a4]),ξ 134 (.sl cs.length (cs.flatMap cg))] ?_;dsimp only[dK,dh,ax,bg,Tree.kind,Tree.steps,Tree.cell,Tree.pos,Tree.kids,aw,ah,go_sem];try dsimp only[dK,dh,ax,bg,Tree.kind,Tree.steps,Tree.cell,Tree.pos,Tree.kids,aw,ah,go_sem]
      refine⟨(by simp[vb,e,f3,hlk,e2,e3,hkc,hcon,aw]<;>omega),(by simp[vb,e,f3,hlk,e2,e3,hkc,hcon,aw]<;>omega),?_⟩;refine eE (lU (T:=[(80,fun _=>some (.sl rows2.length (rows2.flatMap cg)))]) (H:=[ξ 125 (.agg [.int .i64 a0,aj a1,.int .i64 a2,.int .i64 a3,aw a4]),ξ 134 (.sl cs.length (cs.flatMap cg))]) (by rfl) ?_);dsimp only[dy,dK,dh,ax,bg,Tree.kind,Tree.steps,Tree.cell,Tree.pos,Tree.kids,aw,ah,go_sem];try dsimp only[dK,dh,ax,bg,Tree.kind,Tree.steps,Tree.cell,Tree.pos,Tree.kids,aw,ah,go_sem]
      refine⟨(by simp[vb,e,f3,hlk,e2,e3,hkc,hcon,aw]<;>omega),(by simp[vb,e,f3,hlk,e2,e3,hkc,hcon,aw]<;>omega),?_⟩;iterate 4 (try dsimp only[go_sem])
      unfold aw aa at hih;have x3:(0+bb.length*2).ble ((bb.flatMap bS).map AV.pv).length=true:=by rw[List.length_map,z1];simp
      refine bw [(141,{val:=some (.pv (.bool qx)),args:=some [.agg [.sl s.box.length (s.box.flatMap bS),ae s.rows,ai s.graphs,ah s.cases,.sl rows2.length (rows2.flatMap cg),.sl bb.length (bb.flatMap bS),.bool true],.agg [.int .i64 a0,aj a1,.int .i64 a2,.int .i64 a3,.sl a4.length (a4.flatMap aD)]]})] ?_;dsimp only[aw,aa,ah,go_sem];try dsimp only[aw,aa,ah,go_sem]
      refine⟨(by simp[vb]<;>omega),?_,?_⟩
      ·iterate 3 (try dsimp only[go_sem])
       unfold ah at hih;simp only[x3,x2,cond_true];exact⟨trivial,hih,trivial⟩
      cases qx with
      |true =>
       repeat' (first|((with_reducible show az _);first|exact True.intro|(simp only[vb,lb,hlk];and_intros<;>first|omega|(simp<;>omega)))|((with_reducible show aB _);exact True.intro)|exact(rfl:some _=_)|((fail_if_success refine aK ?_);refine bG ?_;(repeat1' dsimp only[qq,go_sem]);first|refine aL ?_ ?_ rfl ?_|apply aM|apply aN|(refine aO (fun hc=>?_) fun hc=>?_<;>first|(cases hc;done)|(try simp only[bn]at hc;try contradiction))|skip))
       exact⟨k+1,by show l.length-(k+1)<l.length-k;omega,⟨by show k+1≤_;omega,by rw[←q2];simpa using hrest⟩,by (repeat' (first|exact trivial|refine And.intro (by first|rfl|(simp[get,Nat.beq]<;>omega)|(dsimp only[get];congr 1<;>first|rfl|omega|(simp<;>omega))) ?_)),_,rfl⟩
      |false =>
       repeat' (first|((with_reducible show az _);first|exact True.intro|(simp only[vb,lb,hlk];and_intros<;>first|omega|(simp<;>omega)))|((with_reducible show aB _);exact True.intro)|exact(rfl:some _=_)|((fail_if_success refine aK ?_);refine bG ?_;(repeat1' dsimp only[qq,go_sem]);first|refine aL ?_ ?_ rfl ?_|apply aM|apply aN|(refine aO (fun hc=>?_) fun hc=>?_<;>first|(cases hc;done)|(try simp only[bn]at hc;try contradiction))|skip))
       rw[←q2];rfl
     obtain rfl:k=l.length:=by omega
     rw[List.drop_of_length_le (by simp),kE]at q2;subst q2;repeat' (first|((with_reducible show az _);exact True.intro)|((with_reducible show aB _);exact True.intro)|exact(rfl:some _=_)|((fail_if_success refine aK ?_);refine bG ?_;(repeat1' dsimp only[qq,dK,dh,ax,bg,Tree.kind,Tree.steps,Tree.cell,Tree.pos,Tree.kids,aw,ah,go_sem]);first|refine aL ?_ ?_ rfl ?_|apply aM|apply aN|(refine aO (fun hc=>?_) fun hc=>?_<;>first|(cases hc;done)|(exfalso;(simp at hc<;>omega))|(try simp only[bn]at hc;try contradiction))|skip))
     all_goals (intro _ _ _ _ h;cases h)
    rw[decide_eq_false hlc];have hlc':¬(l.length:Int)=(s.cases.length:Int):=by omega
    repeat' (first|((with_reducible show az _);first|exact True.intro|(simp only[vb,lb,hlt,hlc'];and_intros<;>first|omega|(simp<;>omega)))|((with_reducible show aB _);first|exact True.intro|((try dsimp only[go_sem]);(simp[vb,hlt,hlc']<;>omega)))|exact(rfl:some _=_)|((fail_if_success refine aK ?_);refine bw [ξ 107 (.bool false),ξ 116 (.bool true)] ?_;(repeat1' dsimp only[qq,dK,dh,ax,bg,Tree.kind,Tree.steps,Tree.cell,Tree.pos,Tree.kids,aw,ah,go_sem]);first|refine aL ?_ ?_ rfl ?_|apply aM|apply aN|(refine aO (fun hc=>?_) fun hc=>?_<;>first|(cases hc;done)|(exfalso;(simp at hc<;>omega))|(try simp only[bn]at hc;try contradiction))|skip))
  rw[show nW s kd c a (l.map (bf s)) rows bb ch=false by rw[nW,if_neg hk1,if_neg hk2]];repeat' (first|((with_reducible show az _);first|exact True.intro|(simp only[vb,lb,hk1,hk2];and_intros<;>first|omega|(simp<;>omega)))|((with_reducible show aB _);exact True.intro)|exact(rfl:some _=_)|((fail_if_success refine aK ?_);refine bG ?_;(repeat1' dsimp only[qq,dK,dh,ax,bg,Tree.kind,Tree.steps,Tree.cell,Tree.pos,Tree.kids,go_sem]);first|refine aL ?_ ?_ rfl ?_|apply aM|apply aN|(refine aO (fun hc=>?_) fun hc=>?_<;>first|(cases hc;done)|(exfalso;(simp at hc<;>omega))|(try simp only[bn]at hc;try contradiction))|skip))
end
section
open Rf
theorem F9 {n':Nat} {x:av} {R:Exit→AF→AM→Prop} {F:AF} (t:Tree) (kd c a:Int) (S:List aJ) (hs:∀M,iW M 3 F=F) (hof:cu F 3=true)
  (h:Aw ctx (fun _=>false) n' 0 x R F [ax t,aY,vK 4 kd c a S []]):Aw ctx (fun _=>false) n' 0 x R F ([ax t,aY,vS 3 kd c a S]++FX (fun _=>[]) S):=by
 cases S with
 |nil=>exact ew (μ':=[ax t,aY,vK 4 kd c a [] []]) (MW.last (μ:=[ax t,aY]) ⟨(PW.refl CW.refl [AV.pv (.int .i64 kd)]).kG (PW.cons CW.nil (PW.refl CW.refl [AV.pv (.int .i64 c),.pv (.int .i64 a),.pv .nilsl])),rfl,rfl,rfl,rfl⟩) h
 |cons x l =>
  exact eH (μ:=[ax t,aY]) (c1:=[.int .i64 kd]) (c2:=[.int .i64 c,.int .i64 a,.nilsl]) (ps:=(x::l).flatMap af) (by simp[aS,cZ,aY,ax]) (by simp) (by simp) (de _) hs hof h
theorem Ga {n':Nat} {x:av} {R:Exit→AF→AM→Prop} {F:AF} (t:Tree) (kd c a:Int) (S:List aJ) (ks:List Tree) (hF:gu [0,1,2,4] F=F) (hs:∀M,iW M 3 F=F) (hof:cu F 3=true)
  (h:Aw ctx (fun _=>false) n' 0 x R F [ax t,aY,ax (.node kd S c a ks)]):Aw ctx (fun _=>false) n' 0 x R F ([ax t,aY,vK 4 kd c a S ks]++EK (fun t0=>[ax t0]) ks):=by
 cases ks with
 |nil=>exact ew (μ':=[ax t,aY,ax (.node kd S c a [])]) (MW.last (μ:=[ax t,aY]) ⟨(PW.refl CW.refl [AV.pv (.int .i64 kd),.pv (aj S),.pv (.int .i64 c),.pv (.int .i64 a)]).kG (PW.cons CW.nil PW.nil),rfl,rfl,rfl,rfl⟩) h
 |cons t0 l =>
  refine iM [0,1,2,4] rfl ?_;have e:gW [0,1,2,4] ([ax t,aY,vK 4 kd c a S (t0::l)]++EK (fun t0=>[ax t0]) (t0::l))=[ax t,aY,⟨[.pv (.int .i64 kd),.pv (aj S),.pv (.int .i64 c),.pv (.int .i64 a),.ref 3 l.length 0 (l.length+1)],0,5,25,false⟩,⟨(((t0::l).flatMap aD).map AV.pv).map (dx [0,1,2,4] 3),l.length,5,25,false⟩]:=rfl;rw[e,l8,hF];exact eH (μ:=[ax t,aY]) (c1:=[.int .i64 kd,aj S,.int .i64 c,.int .i64 a]) (c2:=[]) (ps:=(t0::l).flatMap aD) (by simp[aS,cZ,aY,ax]) (by simp) (by simp) (fa _) hs hof h
def Em:av:=(⟨_,by conv=>(lhs;reduce;try simp only[G4,Int.cast_ofNat_Int,Int.reduceNegSucc,UInt8.reduceOfNat])⟩:{x // codeOf Tryz.prog 33 (fun _=>false)=some x}).1
theorem JB:bo Tryz.prog 33 (fun _=>false)=some (Em,[.cell 4 5 true,.t 5],69,true):=by kernel_rfl
theorem tT:∀(t:Tree),wt t≤1000000000→∀(n:Int),(wt t:Int)-1000000000000≤n→n≤1000000000000 →
  aq ctx 33 [aE t,.int .i64 n] (.tup [aE (dG t n),.int .i64 (n-aT t)]):=by
 refine Tree.ind fun kd st c a l ih hw n hn1 hn2=>?_
 rw[cz]at hw hn1;have hl:=j3 l;have hsw:=jz l;rw[dA,ey];have f1:=de st;have f2:=fa l;refine an (C:=ctx) (Fn.of JB rfl) rfl ?_;unfold Em;repeat' (first|((with_reducible show az _);first|exact True.intro|(simp[vb]<;>omega))|((with_reducible show aB _);exact True.intro)|exact(rfl:some _=_)|((fail_if_success refine aK ?_);refine bG ?_;(repeat1' dsimp only[Em,aE,Tree.kind,Tree.steps,Tree.cell,Tree.pos,Tree.kids,aj,aw,go_sem]);first|refine aL ?_ ?_ rfl ?_|apply aM|apply aN|(refine aO (fun hc=>?_) fun hc=>?_<;>first|(cases hc;done)|(try simp only[bn]at hc;try contradiction))|skip))
 refine a7 st.length (fun _=>True) (fun k=>[(1,.pv (.int .i64 n)),(2,.ptr 0 0 0),(4,.ptr 1 0 0),(6,.ptr 2 0 0),(7,.pv (.int .i64 k))])
  (fun k=>[ax (.node kd st c a l),aY,vS 3 kd c a (bD (st.take k) n)]++FX (fun _=>[]) (bD (st.take k) n)) trivial (by (repeat' (first|exact trivial|refine And.intro (by first|rfl|(simp[get,Nat.beq]<;>omega)|(dsimp only[get];congr 1<;>first|rfl|omega|(simp<;>omega))) ?_))) ⟨[],by rw[List.take_zero,dH [] n (by simp;omega)];rfl⟩ (fun k=>?_) fun k hk _=>?_
 ·generalize bD (st.take k) n=S;cases S with
  |nil=>exact⟨Nat.zero_le _,rfl,rfl⟩
  |cons x S=>exact⟨Nat.zero_le _,rfl,by simp[vS,FX,aS,aY,ax,cZ]⟩
 by_cases hlt:k<st.length
 ·have e:=bQ bI st k zs hlt;have hd:=qR st n k hlt;have hdl:=qy (st.take k) n;rw[List.length_take]at hdl;rw[hd];clear hd;generalize st.getD k zs=x at *;generalize bD (st.take k) n=S at *;by_cases hkn:(k:Int)=n
  ·rw[if_pos hkn];obtain rfl:n=(k:Int):=hkn.symm;clear hkn;cases S with
   |nil =>
    simp only[vZ,rA,List.append_nil];repeat' (first|((with_reducible show az _);first|exact True.intro|(simp only[vb,lb,e,f1,hlt,af];and_intros<;>first|omega|(simp<;>omega)))|((with_reducible show aB _);exact True.intro)|exact(rfl:some _=_)|((fail_if_success refine aK ?_);refine bw [ξ 34 (.agg [.int .i64 x.kind,.int .i64 x.index,.int .i64 x.cell])] ?_;(repeat1' dsimp only[Em,ax,aY,Tree.kind,Tree.steps,Tree.cell,Tree.pos,Tree.kids,aj,aw,go_sem]);first|refine aL ?_ ?_ rfl ?_|apply aM|apply aN|(refine aO (fun hc=>?_) fun hc=>?_<;>first|(cases hc;done)|(exfalso;(simp at hc<;>omega))|(try simp only[bn]at hc;try contradiction))|skip))
    exact⟨hlt,trivial,by (repeat' (first|exact trivial|refine And.intro (by first|rfl|(simp[get,Nat.beq]<;>omega)|(dsimp only[get];congr 1<;>first|rfl|omega|(simp<;>omega))) ?_)),_,rfl⟩
   |cons s0 l0 =>
    simp only[nS,lu,List.append_nil,List.cons_append,List.nil_append];repeat' (first|((with_reducible show az _);first|exact True.intro|(simp only[vb,lb,e,f1,hlt,af];and_intros<;>first|omega|(simp<;>omega)))|((with_reducible show aB _);exact True.intro)|exact(rfl:some _=_)|((fail_if_success refine aK ?_);refine bw [ξ 34 (.agg [.int .i64 x.kind,.int .i64 x.index,.int .i64 x.cell])] ?_;(repeat1' dsimp only[Em,ax,aY,Tree.kind,Tree.steps,Tree.cell,Tree.pos,Tree.kids,aj,aw,go_sem]);first|refine aL ?_ ?_ rfl ?_|apply aM|apply aN|(refine aO (fun hc=>?_) fun hc=>?_<;>first|(cases hc;done)|(exfalso;(simp at hc<;>omega))|(try simp only[bn]at hc;try contradiction))|skip))
    exact⟨hlt,trivial,by (repeat' (first|exact trivial|refine And.intro (by first|rfl|(simp[get,Nat.beq]<;>omega)|(dsimp only[get];congr 1<;>first|rfl|omega|(simp<;>omega))) ?_)),_,rfl⟩
  rw[if_neg hkn];cases S with
  |nil =>
   simp only[vZ,rA,List.append_nil,List.nil_append,nS,lu,List.length_nil];repeat' (first|((with_reducible show az _);first|exact True.intro|(simp only[vb,lb,e,f1,hlt,af,hkn];and_intros<;>first|omega|(simp<;>omega)))|((with_reducible show aB _);first|exact True.intro|((try dsimp only[go_sem]);(simp[vb,e,f1,hlt,af,hkn]<;>omega)))|exact(rfl:some _=_)|((fail_if_success refine aK ?_);refine bw [ξ 34 (.agg [.int .i64 x.kind,.int .i64 x.index,.int .i64 x.cell])] ?_;(repeat1' dsimp only[Em,ax,aY,Tree.kind,Tree.steps,Tree.cell,Tree.pos,Tree.kids,aj,aw,go_sem]);first|refine aL ?_ ?_ rfl ?_|apply aM|apply aN|(refine aO (fun hc=>?_) fun hc=>?_<;>first|(cases hc;done)|(exfalso;(simp at hc<;>omega))|(try simp only[bn]at hc;try contradiction))|skip))
   exact⟨hlt,trivial,by (repeat' (first|exact trivial|refine And.intro (by first|rfl|(simp[get,Nat.beq]<;>omega)|(dsimp only[get];congr 1<;>first|rfl|omega|(simp<;>omega))) ?_)),[],by simp[af]⟩
  |cons s0 l0 =>
   simp only[List.length_cons]at hdl;simp only[nS,lu,List.append_nil,List.cons_append,List.nil_append];repeat' (first|((with_reducible show az _);first|exact True.intro|(simp only[vb,lb,e,f1,hlt,af,hkn,bI,rf,hdl];and_intros<;>first|omega|(simp<;>omega))|(simp[vb,e,f1,hlt,af,hkn,bI,rf,hdl]<;>omega))|((with_reducible show aB _);first|exact True.intro|((try dsimp only[go_sem]);(simp[vb,e,f1,hlt,af,hkn,bI,rf,hdl]<;>omega)))|exact(rfl:some _=_)|((fail_if_success refine aK ?_);refine bw [ξ 34 (.agg [.int .i64 x.kind,.int .i64 x.index,.int .i64 x.cell])] ?_;(repeat1' dsimp only[Em,ax,aY,Tree.kind,Tree.steps,Tree.cell,Tree.pos,Tree.kids,aj,aw,go_sem]);first|refine aL ?_ ?_ rfl ?_|apply aM|apply aN|(refine aO (fun hc=>?_) fun hc=>?_<;>first|(cases hc;done)|(exfalso;(simp at hc<;>omega))|(try simp only[bn]at hc;try contradiction))|skip))
   exact⟨hlt,trivial,by (repeat' (first|exact trivial|refine And.intro (by first|rfl|(simp[get,Nat.beq]<;>omega)|(dsimp only[get];congr 1<;>first|rfl|omega|(simp<;>omega))) ?_)),_,by simp[af];rfl⟩
 obtain rfl:k=st.length:=by omega
 rw[List.take_of_length_le (Nat.le_refl _)];generalize hS:bD st n=S at *;refine F9 (.node kd st c a l) kd c a S (fun _=>rfl) rfl ?_;rw[v7];repeat' (first|((with_reducible show az _);first|exact True.intro|(simp only[vb,lb,f1,hlt];and_intros<;>first|omega|(simp<;>omega)))|((with_reducible show aB _);exact True.intro)|exact(rfl:some _=_)|((fail_if_success refine aK ?_);refine bG ?_;(repeat1' dsimp only[Em,ax,aY,Tree.kind,Tree.steps,Tree.cell,Tree.pos,Tree.kids,aj,aw,go_sem]);first|refine aL ?_ ?_ rfl ?_|apply aM|apply aN|(refine aO (fun hc=>?_) fun hc=>?_<;>first|(cases hc;done)|(exfalso;(simp at hc<;>omega))|(try simp only[bn]at hc;try contradiction))|skip))
 refine a7 l.length (fun _=>True) (fun k=>[(2,.ptr 0 0 0),(4,.ptr 1 0 0),(6,.ptr 2 0 0),(1,.pv (.int .i64 (n-st.length-aW (l.take k)))),(8,.pv (.int .i64 k))])
  (fun k=>[ax (.node kd st c a l),aY,vK 4 kd c a S ((cp l (n-st.length)).take k)]++EK (fun t0=>[ax t0]) ((cp l (n-st.length)).take k)) trivial (by (repeat' (first|exact trivial|refine And.intro (by first|rfl|(simp[get,Nat.beq,aW]<;>omega)|(dsimp only[get];congr 1<;>first|rfl|omega|(simp<;>omega))) ?_))) ⟨[],rfl⟩ (fun k=>?_) fun k hk _=>?_
 ·generalize (cp l (n-st.length)).take k=ks;cases ks with
  |nil=>exact⟨Nat.zero_le _,rfl,rfl⟩
  |cons x S=>exact⟨Nat.zero_le _,rfl,by simp[vK,EK,aS,aY,ax,cZ]⟩
 by_cases hlk:k<l.length
 ·have e:=gY l k hlk;have hmem:=aQ (d:=zt) hlk;have hwk:=lY hmem;have hta:=tf l (n-st.length) k hlk;have hkl:((cp l (n-st.length)).take k).length=k:=by rw[List.length_take,cD];omega
  have hs1:=kq (l.take k) [l.getD k zt];rw[←aH l k zt hlk,aW,aW]at hs1;have hs2:=jj (l.take k) [l.getD k zt];rw[←aH l k zt hlk,iA,iA]at hs2;have hs3:=sO l (k+1);have hs4:=jz (l.take k);have hs5:=jk (l.getD k zt);have hih:=ih _ hmem (by omega) (n-st.length-aW (l.take k)) (by omega) (by omega);rw[hta,hs1];have hor:k=0→l.getD 0 zt=l.getD k zt:=fun h=>by rw[h]
  clear ih hta hs1;generalize l.getD k zt=x at *;generalize dG x (n-st.length-aW (l.take k))=y at *;generalize aT x=m at *;generalize aW (l.take k)=cnt at *;generalize (cp l (n-st.length)).take k=ks at *;obtain⟨a0,a1,a2,a3,a4⟩:=x;obtain⟨y0,y1,y2,y3,y4⟩:=y;simp only[aE,Tree.kind,Tree.steps,Tree.cell,Tree.pos,Tree.kids]at hih e;unfold aw aj at hih e;clear hlt;have hlt:=hlk;cases ks with
  |nil =>
   simp only[v7,AT,List.append_nil,List.nil_append,rB,pE,List.length_nil];simp only[List.length_nil]at hkl;subst hkl;try rw[hor rfl]
   repeat' (first|((with_reducible show az _);first|exact True.intro|(simp only[vb,lb,e,f2,hlt,hih];and_intros<;>first|omega|(simp<;>omega)))|((with_reducible show aB _);first|exact True.intro|((try dsimp only[go_sem]);(simp only[vb,and_true,true_implies];(repeat' (first|(with_reducible assumption)|(with_reducible apply And.intro)|intro _|((fail_if_success (with_reducible show(_:Int)≤_));assumption)))<;>(simp only[ab,e,f2,hlt,hih];done))))|exact(rfl:some _=_)|((fail_if_success refine aK ?_);refine aV [(33,fun _=>some (.tup [.agg [.int .i64 y0,.sl y1.length (y1.flatMap af),.int .i64 y2,.int .i64 y3,.sl y4.length (y4.flatMap aD)],.int .i64 (n-st.length-cnt-m)]))] [ξ 55 (.agg [.int .i64 a0,.sl a1.length (a1.flatMap af),.int .i64 a2,.int .i64 a3,.sl a4.length (a4.flatMap aD)])] ?_;(repeat1' dsimp only[Em,ax,aY,Tree.kind,Tree.steps,Tree.cell,Tree.pos,Tree.kids,aj,aw,go_sem]);first|refine aL ?_ ?_ rfl ?_|apply aM|apply aN|(refine aO (fun hc=>?_) fun hc=>?_<;>first|(cases hc;done)|(exfalso;(simp[e,f2,hlt,hih]at hc;done))|(try simp only[bn]at hc;try contradiction))|skip))
   exact⟨hlt,trivial,by (repeat' (first|exact trivial|refine And.intro (by first|rfl|(simp[get,Nat.beq]<;>omega)|(dsimp only[get];congr 1<;>first|rfl|omega|(simp<;>omega))) ?_)),[],by simp[fu,ax,Tree.kind,Tree.steps,Tree.cell,Tree.pos,Tree.kids,aj,aw]⟩
  |cons t0 l0 =>
   simp only[List.length_cons]at hkl;clear hor;simp only[rB,pE,List.append_nil,List.cons_append,List.nil_append];repeat' (first|((with_reducible show az _);first|exact True.intro|(simp only[vb,lb,e,f2,hlt,hih,ck,qp,hkl];and_intros<;>first|omega|(simp<;>omega))|(simp[vb,e,f2,hlt,hih,ck,qp,hkl]<;>omega))|((with_reducible show aB _);first|exact True.intro|((try dsimp only[go_sem]);(simp[vb,e,f2,hlt,hih,ck,qp,hkl]<;>omega)))|exact(rfl:some _=_)|((fail_if_success refine aK ?_);refine aV [(33,fun _=>some (.tup [.agg [.int .i64 y0,.sl y1.length (y1.flatMap af),.int .i64 y2,.int .i64 y3,.sl y4.length (y4.flatMap aD)],.int .i64 (n-st.length-cnt-m)]))] [ξ 55 (.agg [.int .i64 a0,.sl a1.length (a1.flatMap af),.int .i64 a2,.int .i64 a3,.sl a4.length (a4.flatMap aD)])] ?_;(repeat1' dsimp only[Em,ax,aY,Tree.kind,Tree.steps,Tree.cell,Tree.pos,Tree.kids,aj,aw,go_sem]);first|refine aL ?_ ?_ rfl ?_|apply aM|apply aN|(refine aO (fun hc=>?_) fun hc=>?_<;>first|(cases hc;done)|(exfalso;(simp at hc<;>omega))|(try simp only[bn]at hc;try contradiction))|skip))
   exact⟨hlt,trivial,by (repeat' (first|exact trivial|refine And.intro (by first|rfl|(simp[get,Nat.beq]<;>omega)|(dsimp only[get];congr 1<;>first|rfl|omega|(simp<;>omega))) ?_)),_,by simp[fu,ax,Tree.kind,Tree.steps,Tree.cell,Tree.pos,Tree.kids,aj,aw];rfl⟩
 obtain rfl:k=l.length:=by omega
 rw[List.take_of_length_le (show(cp l (n-st.length)).length≤l.length by rw[cD];exact Nat.le_refl _),List.take_of_length_le (Nat.le_refl l.length)];generalize cp l (n-st.length)=ks at *;refine Ga (.node kd st c a l) kd c a S ks rfl (fun _=>rfl) rfl ?_;repeat' (first|((with_reducible show az _);(simp only[vb,lb,f2,hlk];and_intros<;>first|omega|(simp<;>omega)))|((with_reducible show aB _);exact True.intro)|exact(rfl:some _=_)|((fail_if_success refine aK ?_);refine bG ?_;(repeat1' dsimp only[Em,ax,aY,aE,Tree.kind,Tree.steps,Tree.cell,Tree.pos,Tree.kids,aj,aw,go_sem]);first|refine aL ?_ ?_ rfl ?_|apply aM|apply aN|(refine aO (fun hc=>?_) fun hc=>?_<;>first|(cases hc;done)|(exfalso;(simp at hc<;>omega))|(try simp only[bn]at hc;try contradiction))|skip))
 rw[show n-(st.length:Int)-(aW l:Int)=n-((st.length+aW l:Nat):Int) by omega]
end
section
open Rf
theorem AU.of {s:Sy} (h:fC s=true) (hs:Ca s):AU s∧(∀q∈s.graphs,bj s.box.length q=true)∧s.rows.length≤1000000:=by
 simp only[fC,Bool.and_eq_true,decide_eq_true_eq]at h;obtain⟨⟨⟨⟨⟨⟨h1,h2⟩,h3⟩,h4⟩,h5⟩,h6⟩,h7⟩:=h;refine⟨⟨hs.g,by omega,fun l hl=>⟨?_,hs.ct l hl⟩⟩,fun q hq=>List.all_eq_true.mp h6 q hq,by omega⟩;have:=List.all_eq_true.mp h7 l hl;simp only[fc,Bool.and_eq_true,decide_eq_true_eq]at this;omega
theorem nJ (s:Sy) (hs:Ca s) (t:Tree) (ht:wt t≤1000000000):aq ctx 22 [.agg [aa s.box,ae s.rows,ai s.graphs,ah s.cases],aE t] (.bool (iO s t)):=by
 have h1:=xT s hs;have h2:=sW t ht;have h3:fC s=true→gC t=true→aq ctx 47 [.agg [aa s.box,ae s.rows,ai s.graphs,ah s.cases,ae s.rows,aa s.box,.bool false],aE t] (.bool (bf s t s.rows s.box false)):=fun a b=>by
  obtain⟨g1,g2,g3⟩:=AU.of a hs;simp only[gC,Bool.and_eq_true]at b;exact zV s g1 t b.2 ht s.rows s.box false g3 hs.rt hs.b g2
 unfold iO;generalize bf s t s.rows s.box false=q3 at *;generalize fC s=q1 at *;generalize gC t=q2 at *;unfold aa ae ai ah at h1 h3;simp only[aE]at h2 h3;unfold aj aw at h2 h3;cases q1 with
 |false =>
  refine an (C:=ctx) (Fn.of Fj rfl) rfl ?_;unfold H3;refine du [(46,fun _=>some (.bool false)),(13,fun _=>some (.bool q2))] ?_;dsimp only[aE,aj,aw,aa,ae,ai,ah,go_sem];try dsimp only[aE,aj,aw,aa,ae,ai,ah,go_sem]
  refine⟨(by simp[vb,h1,h2]<;>omega),(by simp[vb,h1,h2]<;>omega),?_⟩;refine eE (nN (T:=[(46,fun _=>some (.bool false)),(13,fun _=>some (.bool q2))]) (H:=[]) ?_);dsimp only[aE,aj,aw,aa,ae,ai,ah,go_sem];try dsimp only[aE,aj,aw,aa,ae,ai,ah,go_sem]
  refine⟨(by (simp only[vb,lb,h1,h2];and_intros<;>first|omega|(simp<;>omega))),(by ((try dsimp only[go_sem]);(simp[vb,h1,h2]<;>omega))),?_⟩;refine du [(46,fun _=>some (.bool false)),(13,fun _=>some (.bool q2))] ?_;dsimp only[aE,aj,aw,aa,ae,ai,ah,go_sem];exact⟨trivial,rfl⟩
 |true =>
  cases q2 with
  |false =>
   refine an (C:=ctx) (Fn.of Fj rfl) rfl ?_;unfold H3;refine du [(46,fun _=>some (.bool true)),(13,fun _=>some (.bool false))] ?_;dsimp only[aE,aj,aw,aa,ae,ai,ah,go_sem];try dsimp only[aE,aj,aw,aa,ae,ai,ah,go_sem]
   refine⟨(by simp[vb,h1,h2]<;>omega),(by simp[vb,h1,h2]<;>omega),?_⟩;refine eE (nN (T:=[(46,fun _=>some (.bool true)),(13,fun _=>some (.bool false))]) (H:=[]) ?_);dsimp only[aE,aj,aw,aa,ae,ai,ah,go_sem];try dsimp only[aE,aj,aw,aa,ae,ai,ah,go_sem]
   refine⟨(by (simp only[vb,lb,h1,h2];and_intros<;>first|omega|(simp<;>omega))),(by ((try dsimp only[go_sem]);(simp[vb,h1,h2]<;>omega))),?_⟩;refine du [(46,fun _=>some (.bool true)),(13,fun _=>some (.bool false))] ?_;dsimp only[aE,aj,aw,aa,ae,ai,ah,go_sem];exact⟨trivial,rfl⟩
  |true =>
   have h3:=h3 rfl rfl;refine an (C:=ctx) (Fn.of Fj rfl) rfl ?_;unfold H3;refine du [(46,fun _=>some (.bool true)),(13,fun _=>some (.bool true)),(47,fun _=>some (.bool q3))] ?_;dsimp only[aE,aj,aw,aa,ae,ai,ah,go_sem];try dsimp only[aE,aj,aw,aa,ae,ai,ah,go_sem]
   refine⟨(by simp[vb,h1,h2,h3]<;>omega),(by simp[vb,h1,h2,h3]<;>omega),?_⟩;refine eE (nN (T:=[(46,fun _=>some (.bool true)),(13,fun _=>some (.bool true)),(47,fun _=>some (.bool q3))]) (H:=[]) ?_);dsimp only[aE,aj,aw,aa,ae,ai,ah,go_sem];try dsimp only[aE,aj,aw,aa,ae,ai,ah,go_sem]
   refine⟨(by (simp only[vb,lb,h1,h2,h3];and_intros<;>first|omega|(simp<;>omega))),(by ((try dsimp only[go_sem]);(simp[vb,h1,h2,h3]<;>omega))),?_⟩;refine du [(46,fun _=>some (.bool true)),(13,fun _=>some (.bool true)),(47,fun _=>some (.bool q3))] ?_;dsimp only[aE,aj,aw,aa,ae,ai,ah,go_sem];exact⟨trivial,rfl⟩
end
end Pur
end
section
namespace Rf
def jQ (c:Int) (a:Int):List Tm→Int
 |[]=>a
 |t::r=>jQ c (if t.cell=c then t.fac else a) r
theorem pG (c:Int):∀(l m:List Tm) (a:Int),jQ c a (l++m)=jQ c (jQ c a l) m
 |[],m,a=>rfl
 |t::r,m,a=>by rw[List.cons_append,jQ,jQ,pG c r m]
theorem tw (c:Int):∀(l:List Tm) (a:Int),(∀t∈l,t.cell≠c)→jQ c a l=a
 |[],_,_=>rfl
 |t::r,a,h=>by rw[jQ,if_neg (h t (by simp)),tw c r a fun x hx=>h x (by simp[hx])]
theorem yj (n c:Int):∀(l:List Tm) (last:Int),-1≤last→dM n last l=true→jQ c 0 l=kr c l
 |[],_,_,_=>rfl
 |t::r,last,h,e=>by
  have h0:=(gD n (t::r) last h e).2 t (by simp);have e':=e;simp only[dM,Bool.and_eq_true]at e';have h2:=(gD n r t.cell (by omega) e'.2).2;rw[jQ,kr];by_cases hc:t.cell=c
  ·rw[if_pos hc,if_pos hc];exact tw c r _ fun x hx=>by have:=(h2 x hx).2.1;omega
  rw[if_neg hc,if_neg hc];exact yj n c r t.cell (by omega) e'.2
end Rf
namespace Pur
open Rf
def c124:av:=(⟨_,by conv=>(lhs;reduce;try simp only[G4,Int.cast_ofNat_Int,Int.reduceNegSucc,UInt8.reduceOfNat])⟩:{x // codeOf Tryz.prog 124 (fun _=>false)=some x}).1
theorem Ix:bo Tryz.prog 124 (fun _=>false)=some (c124,[.t 4],16,true):=by kernel_rfl
def c130:av:=(⟨_,by conv=>(lhs;reduce;try simp only[G4,Int.cast_ofNat_Int,Int.reduceNegSucc,UInt8.reduceOfNat])⟩:{x // codeOf Tryz.prog 130 (fun _=>false)=some x}).1
theorem GY:bo Tryz.prog 130 (fun _=>false)=some (c130,[.t 6],22,true):=by kernel_rfl
def c109:av:=(⟨_,by conv=>(lhs;reduce;try simp only[G4,Int.cast_ofNat_Int,Int.reduceNegSucc,UInt8.reduceOfNat])⟩:{x // codeOf Tryz.prog 109 (fun _=>false)=some x}).1
theorem En:bo Tryz.prog 109 (fun _=>false)=some (c109,[.cell 6 2 true],92,true):=by kernel_rfl
theorem v8 (a f:Int) (hf:0<f) (h1: -1000000000000≤a) (h2:a≤1000000000000) (h3:f≤1000000000000):aq ctx 124 [.int .i64 a,.int .i64 f] (.int .i64 (a / f)):=by
 have hd:(a.tmod f<0∧a / f=a.tdiv f-1)∨(0≤a.tmod f∧a / f=a.tdiv f):=by
  rw[AK a f hf];split<;>omega
 have g2:=Int.tmod_lt_of_pos a hf;have g3:=Int.lt_tmod_of_pos a hf;have g4:(a.tdiv f).natAbs≤a.natAbs:=Int.natAbs_tdiv_le_natAbs a f;have hw:IntKind.i64.wrap (a.tdiv f)=a.tdiv f:=iu (by unfold pM;omega) (by unfold jH;omega);generalize a / f=q at *;refine an (C:=ctx) (Fn.of Ix rfl) rfl ?_;unfold c124;repeat' (first|((with_reducible show az _);first|exact True.intro|(simp[vb]<;>omega))|((with_reducible show aB _);exact True.intro)|exact(rfl:some _=_)|((fail_if_success refine aK ?_);refine bw [(7,{mode:=1}),(11,{mode:=1}),(15,{mode:=1})] ?_;(repeat1' dsimp only[c124,go_sem]);first|refine aL ?_ ?_ rfl ?_|apply aM|apply aN|(refine aO (fun hc=>?_) fun hc=>?_<;>first|(cases hc;done)|(try simp only[bn]at hc;try contradiction))|skip))
 all_goals
  refine congrArg (fun x=>some (PV.int .i64 x)) ?_;omega
theorem HJ (t:Tm) (y:Rg) (h1: -1000≤t.fac) (h2:t.fac≤1000) (hy:kW y=true):aq ctx 130 [.agg [.int .i64 t.cell,.int .i64 t.fac],.agg [.int .i64 y.lo,.int .i64 y.hi],.bool true] (.int .i64 (if 0<t.fac then t.fac*y.lo else t.fac*y.hi)):=by
 have hy:=iQ hy;have q1:=vO h1 h2 (show -1000000≤y.lo by omega) (by omega);have q2:=vO h1 h2 (show -1000000≤y.hi by omega) (by omega);by_cases hf:0<t.fac
 ·simp only[hf,if_true];refine an (C:=ctx) (Fn.of GY rfl) rfl ?_;unfold c130;repeat' (first|((with_reducible show az _);first|exact True.intro|(simp only[vb,lb,hf];and_intros<;>first|omega|(simp<;>omega)))|((with_reducible show aB _);exact True.intro)|exact(rfl:some _=_)|((fail_if_success refine aK ?_);refine bG ?_;(repeat1' dsimp only[c130,go_sem]);first|refine aL ?_ ?_ rfl ?_|apply aM|apply aN|(refine aO (fun hc=>?_) fun hc=>?_<;>first|(cases hc;done)|(exfalso;(simp at hc<;>omega))|(try simp only[bn]at hc;try contradiction))|skip))
 simp only[hf,if_false];refine an (C:=ctx) (Fn.of GY rfl) rfl ?_;unfold c130;repeat' (first|((with_reducible show az _);first|exact True.intro|(simp only[vb,lb,hf];and_intros<;>first|omega|(simp<;>omega)))|((with_reducible show aB _);exact True.intro)|exact(rfl:some _=_)|((fail_if_success refine aK ?_);refine bG ?_;(repeat1' dsimp only[c130,go_sem]);first|refine aL ?_ ?_ rfl ?_|apply aM|apply aN|(refine aO (fun hc=>?_) fun hc=>?_<;>first|(cases hc;done)|(exfalso;(simp at hc<;>omega))|(try simp only[bn]at hc;try contradiction))|skip))
end Pur
end
section
namespace Rf
theorem xY.bd {b:List Rg} {v:List Int} (h:xY b v) (hb:bp b=true) (k:Nat): -1000000≤v.getD k 0∧v.getD k 0≤1000000:=by
 by_cases hk:k<b.length
 ·have h1:=h.at_ k hk;have h2:=iQ (cQ hb k);omega
 rw[py v k 0 (by rw[h.len];exact hk)];omega
end Rf
namespace Pur
open Rf
def Iy:av:=(⟨_,by conv=>(lhs;reduce;try simp only[G4,Int.cast_ofNat_Int,Int.reduceNegSucc,UInt8.reduceOfNat])⟩:{x // codeOf Tryz.prog 62 (fun d=>Nat.beq d 5)=some x}).1
theorem JC:bo Tryz.prog 62 (fun d=>Nat.beq d 5)=some (Iy,[.t 2],21,true):=by kernel_rfl
theorem Eo (b:List Rg) (i:Nat) (h:i<b.length):(b.flatMap bS)[i*2+1]?.getD default= .int .i64 (b.getD i zr).hi:=by
 rw[bK ia b i zr 1 h (by omega)];rfl
theorem Gb (l:List Tm) (i:Nat) (h:i<l.length):(l.flatMap gZ)[i*2]?.getD default= .int .i64 (l.getD i zm).cell:=by
 have:=bK kO l i zm 0 h (by omega);rw[Nat.add_zero]at this;rw[this];rfl
theorem Ep (b:List Rg) (hb:b.length≤1000000000):aq ctx 62 [aa b] (au (iX b)):=by
 have f2:=bJ b;have hl:(iX b).length=b.length:=by simp[iX]
 have hat:=fun k h=>FW b k h
 refine an (C:=ctx) (Fn.of JC rfl) rfl ?_;unfold Iy;repeat' (first|((with_reducible first|show az _|show aB _);simp[vb]<;>omega)|exact(rfl:some _=_)|((fail_if_success refine aK ?_);refine bG ?_;(repeat1' dsimp only[Iy,aa,go_sem]);first|refine aL ?_ ?_ rfl ?_|apply aM|apply aN|(refine aO (fun hc=>?_) fun hc=>?_<;>first|(cases hc;done)|(exfalso;simp at hc<;>omega)|(try simp only[bn]at hc;try contradiction))|skip))
 refine a7 b.length (fun _=>True) (fun k=>[(0,.pv (aa b)),(3,.ref 0 k 0 k),(4,.pv (.int .i64 k))]) (fun k=>[⟨(((iX b).take k).flatMap aI).map .pv,k,1,3,false⟩]) trivial (by (repeat' (first|exact trivial|refine And.intro (by first|rfl|(simp[get,Nat.beq]<;>omega)|(dsimp only[get];congr 1<;>first|rfl|omega|(simp<;>omega))) ?_))) ⟨[],rfl⟩ (fun _=>⟨Nat.zero_le _,rfl,by simp[aS,cZ]⟩) fun k hk _=>?_
 by_cases hlt:k<b.length
 ·have e:=nB b k hlt;have hs:=aH (iX b) k 0 (by omega);rw[hat k hlt]at hs;have e7:=cO ((iX b).take k);have hll:((iX b).take k).length=k:=by rw[List.length_take];omega
  rw[hll]at e7;rw[hs];clear hs hat;generalize (b.getD k zr).lo=x at *;generalize (iX b).take k=w at *;repeat' (first|((with_reducible show az _);first|exact True.intro|(simp only[vb,lb,e,e7,f2,hlt];and_intros<;>first|omega|(simp<;>omega)))|((with_reducible show aB _);first|exact True.intro|((try dsimp only[go_sem]);(simp only[vb,and_true,true_implies];(repeat' (first|(with_reducible assumption)|(with_reducible apply And.intro)|intro _|((fail_if_success (with_reducible show(_:Int)≤_));assumption)))<;>(simp only[ab,e,e7,f2,hlt];done))))|exact(rfl:some _=_)|((fail_if_success refine aK ?_);refine bw [ξ 17 (.int .i64 x),(19,{mode:=1})] ?_;(repeat1' dsimp only[Iy,aa,go_sem]);first|refine aL ?_ ?_ rfl ?_|apply aM|apply aN|(refine aO (fun hc=>?_) fun hc=>?_<;>first|(cases hc;done)|(exfalso;(simp at hc<;>omega))|(try simp only[bn]at hc;try contradiction))|skip))
  exact⟨hlt,trivial,by (repeat' (first|exact trivial|refine And.intro (by first|rfl|(simp[get,Nat.beq]<;>omega)|(dsimp only[get];congr 1<;>first|rfl|omega|(simp<;>omega))) ?_)),[],by simp[List.flatMap_append,aI]⟩
 obtain rfl:k=b.length:=by omega
 have ht:(iX b).take b.length=iX b:=List.take_of_length_le (by omega);simp only[ht];have f3:=cO (iX b);repeat' (first|((with_reducible show az _);exact True.intro)|((with_reducible show aB _);exact True.intro)|exact(rfl:some _=_)|((fail_if_success refine aK ?_);refine bG ?_;(repeat1' dsimp only[Iy,aa,go_sem]);first|refine aL ?_ ?_ rfl ?_|apply aM|apply aN|(refine aO (fun hc=>?_) fun hc=>?_<;>first|(cases hc;done)|(exfalso;(simp at hc<;>omega))|(try simp only[bn]at hc;try contradiction))|skip))
 unfold au;rw[hl];exact mV rfl rfl rfl (by rw[List.drop_zero,List.take_of_length_le (by simp only[List.length_map];omega)]) (by simp only[List.length_map];omega)
end Pur
end
section
namespace Pur
section
open Rf
theorem tx (b:List Rg) (r:Rw) (c:Int) (hv:dN b [r]=true) (hc0:0≤c) (hc1:c<b.length) (hV:aq ctx 60 [aa b,.sl 1 [ar r.terms,.int .i64 r.bound]] (.bool true)):aq ctx 109 [.agg [ar r.terms,.int .i64 r.bound],aa b,.int .i64 c] (.agg [.int .i64 (cB r b c).lo,.int .i64 (cB r b c).hi]):=by
 obtain⟨v1,v2,v3,v4,v5,v6⟩:=s5 hv;have hsm:=ny v1 c r.terms fun t ht=>by have:=v6 t ht;omega
 have e:=iR b c hc0 hc1;have hx:=iQ (cQ v1 c.toNat);have f1:=fG r.terms;have f2:=bJ b;have hF:jQ c 0 r.terms=kr c r.terms:=by
  have:=hv;simp only[dN,List.all_cons,List.all_nil,Bool.and_true,Bool.and_eq_true,cN]at this;exact yj _ c _ _ (by omega) this.2.1
 unfold cB;obtain⟨ts,bd⟩:=r;simp only at *;generalize hxx:b.getD c.toNat zr=x at *;clear hv;refine an (C:=ctx) (Fn.of En rfl) rfl ?_;unfold c109;repeat' (first|((with_reducible show az _);first|exact True.intro|(simp only[vb,lb,e,f1,f2,hc0,hc1,hV];and_intros<;>first|omega|(simp<;>omega)))|((with_reducible show aB _);first|exact True.intro|((try dsimp only[go_sem]);first|(simp[vb,e,f1,f2,hc0,hc1,hV]<;>omega)|(simp only[vb,and_true,true_implies];(repeat' (first|(with_reducible assumption)|(with_reducible apply And.intro)|intro _|((fail_if_success (with_reducible show(_:Int)≤_));assumption)))<;>first|(simp only[ab,e,f1,f2,hc0,hc1,hV];done)|(simp[Nat.mul_one,e,f1,f2,hc0,hc1,hV]<;>omega))))|exact(rfl:some _=_)|((fail_if_success refine aK ?_);refine aV [(60,fun _=>some (.bool true))] [ξ 31 (.agg [.int .i64 x.lo,.int .i64 x.hi])] ?_;(repeat1' dsimp only[c109,ar,aa,go_sem]);first|refine aL ?_ ?_ rfl ?_|apply aM|apply aN|(refine aO (fun hc=>?_) fun hc=>?_<;>first|(cases hc;done)|(exfalso;(simp at hc<;>omega))|(try simp only[bn]at hc;try contradiction))|skip))
 refine a7 ts.length (fun _=>True) (fun k=>[(1,.pv (aa b)),(2,.pv (.int .i64 c)),(3,.ptr 0 0 0),(6,.ptr 1 0 0),(7,.ptr 2 0 0),(8,.pv (.int .i64 (bd-dF b c (ts.take k)))),(9,.pv (.int .i64 (jQ c 0 (ts.take k)))),(10,.pv (.int .i64 k))]) (fun _=>[⟨[.pv (ar ts),.pv (.int .i64 bd)],0,2,62,false⟩,⟨[.pv (.int .i64 0),.pv (.int .i64 0)],0,2,57,false⟩,⟨[.pv (.int .i64 x.lo),.pv (.int .i64 x.hi)],0,2,57,false⟩]) trivial (by (repeat' (first|exact trivial|refine And.intro (by first|rfl|(simp[get,Nat.beq,dF,jQ]<;>omega)|(dsimp only[get];congr 1<;>first|rfl|omega|(simp<;>omega))) ?_))) ⟨_,rfl⟩ (fun _=>⟨Nat.zero_le _,rfl,rfl⟩) fun k hk _=>?_
 by_cases hlt:k<ts.length
 ·have e:=bQ kO ts k zm hlt;have h1:=mb b c (ts.take k) [ts.getD k zm];rw[←aH ts k zm hlt,dF,dF]at h1;have h4:=pG c (ts.take k) [ts.getD k zm] 0;rw[←aH ts k zm hlt,jQ,jQ]at h4;have h2:=ny v1 c (ts.take k) fun t ht=>by have:=v6 t (List.mem_of_mem_take ht);omega
  rw[List.length_take]at h2;obtain⟨q1,q2,q3,q4,q5⟩:=v6 _ (aQ (d:=zm) hlt);have h3:=vP (t:=ts.getD k zm) v1 q4 q5;have hE:=HJ (ts.getD k zm) (b.getD (ts.getD k zm).cell.toNat zr) q4 q5 (cQ v1 _);have hen:tR b (ts.getD k zm)=if 0<(ts.getD k zm).fac then (ts.getD k zm).fac*(b.getD (ts.getD k zm).cell.toNat zr).lo else (ts.getD k zm).fac*(b.getD (ts.getD k zm).cell.toNat zr).hi:=rfl
  rw[←hen]at hE;clear hen;rw[h1,h4];clear h1 h4 v6;generalize ts.getD k zm=x at *;generalize tR b x=en at *;have e2:=iR b x.cell q1 q2;generalize b.getD x.cell.toNat zr=y at *;generalize dF b c (ts.take k)=sm at *;generalize jQ c 0 (ts.take k)=lf at *;by_cases hcc:x.cell=c
  ·repeat' (first|((with_reducible show az _);(simp only[vb,lb,e,e2,f1,f2,hlt,q1,q2,gZ,hcc];and_intros<;>first|omega|(simp<;>omega)))|((with_reducible show aB _);first|exact True.intro|((try dsimp only[go_sem]);(simp[vb,e,e2,f1,f2,hlt,q1,q2,gZ,hcc]<;>omega)))|exact(rfl:some _=_)|((fail_if_success refine aK ?_);refine bw [ξ 45 (.agg [.int .i64 x.cell,.int .i64 x.fac]),ξ 49 (.bool true)] ?_;(repeat1' dsimp only[c109,ar,aa,go_sem]);first|refine aL ?_ ?_ rfl ?_|apply aM|apply aN|(refine aO (fun hc=>?_) fun hc=>?_<;>first|(cases hc;done)|(exfalso;(simp at hc<;>omega))|(try simp only[bn]at hc;try contradiction))|skip))
   refine⟨hlt,trivial,by simp[hcc];(repeat' (first|exact trivial|refine And.intro (by first|rfl|(simp[get,Nat.beq]<;>omega)|(dsimp only[get];congr 1<;>first|rfl|omega|(simp<;>omega))) ?_)),_,rfl⟩
  repeat' (first|((with_reducible show az _);(simp only[vb,lb,e,e2,f1,f2,hlt,q1,q2,gZ,hcc,hE];and_intros<;>first|omega|(simp<;>omega)))|((with_reducible show aB _);first|exact True.intro|((try dsimp only[go_sem]);(simp[vb,e,e2,f1,f2,hlt,q1,q2,gZ,hcc,hE]<;>omega)))|exact(rfl:some _=_)|((fail_if_success refine aK ?_);refine aV [(130,fun _=>some (.int .i64 en))] [ξ 45 (.agg [.int .i64 x.cell,.int .i64 x.fac]),ξ 49 (.bool false),ξ 58 (.agg [.int .i64 y.lo,.int .i64 y.hi])] ?_;(repeat1' dsimp only[c109,ar,aa,go_sem]);first|refine aL ?_ ?_ rfl ?_|apply aM|apply aN|(refine aO (fun hc=>?_) fun hc=>?_<;>first|(cases hc;done)|(exfalso;(simp at hc<;>omega))|(try simp only[bn]at hc;try contradiction))|skip))
  refine⟨hlt,trivial,by simp[hcc];(repeat' (first|exact trivial|refine And.intro (by first|rfl|(simp[get,Nat.beq]<;>omega)|(dsimp only[get];congr 1<;>first|rfl|omega|(simp<;>omega))) ?_)),_,rfl⟩
 obtain rfl:k=ts.length:=by omega
 have hfb: -1000≤kr c ts∧kr c ts≤1000:=by
  rcases qv c ts with⟨g1,g2⟩|⟨k,g1,g2,g3⟩
  ·rw[oG c ts g2];omega
  rw[g3];have:=v6 _ (aQ (d:=zm) g2);omega
 rw[List.take_length,hF];clear v6 hF;generalize kr c ts=f at *;generalize dF b c ts=sm at *;by_cases f0:f=0
 ·subst f0;simp only[if_true];repeat' (first|((with_reducible show az _);first|exact True.intro|(simp only[vb,lb,hlt];and_intros<;>first|omega|(simp<;>omega)))|((with_reducible show aB _);first|exact True.intro|((try dsimp only[go_sem]);(simp[vb,hlt]<;>omega)))|exact(rfl:some _=_)|((fail_if_success refine aK ?_);refine bG ?_;(repeat1' dsimp only[c109,ar,aa,go_sem]);first|refine aL ?_ ?_ rfl ?_|apply aM|apply aN|(refine aO (fun hc=>?_) fun hc=>?_<;>first|(cases hc;done)|(exfalso;(simp at hc<;>omega))|(try simp only[bn]at hc;try contradiction))|skip))
 by_cases hf:0<f
 ·have hd:=v8 (bd-sm) f hf (by omega) (by omega) (by omega);simp only[hf,f0,if_true,if_false];generalize (bd-sm) / f=q at *;repeat' (first|((with_reducible show az _);first|exact True.intro|(simp only[vb,lb,hlt,hd,hf];and_intros<;>first|omega|(simp<;>omega)))|((with_reducible show aB _);first|exact True.intro|((try dsimp only[go_sem]);(simp[vb,hlt,hd,hf]<;>omega)))|exact(rfl:some _=_)|((fail_if_success refine aK ?_);refine du [(124,fun _=>some (.int .i64 q))] ?_;(repeat1' dsimp only[c109,ar,aa,go_sem]);first|refine aL ?_ ?_ rfl ?_|apply aM|apply aN|(refine aO (fun hc=>?_) fun hc=>?_<;>first|(cases hc;done)|(exfalso;(simp at hc<;>omega))|(try simp only[bn]at hc;try contradiction))|skip))
  ·rw[jm]at hc;rw[if_pos hc.2]
  rw[jm]at hc ⊢;rw[if_neg (hc.resolve_left f0)]
 have hd:=v8 (bd-sm) (-f) (by omega) (by omega) (by omega) (by omega);have hq:((bd-sm) / -f).natAbs≤(bd-sm).natAbs:=Int.natAbs_ediv_le_natAbs _ _;simp only[hf,f0,if_false];generalize (bd-sm) / -f=q at *;repeat' (first|((with_reducible show az _);first|exact True.intro|(simp only[vb,lb,hlt,hd,hf];and_intros<;>first|omega|(simp<;>omega)))|((with_reducible show aB _);first|exact True.intro|((try dsimp only[go_sem]);(simp[vb,hlt,hd,hf]<;>omega)))|exact(rfl:some _=_)|((fail_if_success refine aK ?_);refine du [(124,fun _=>some (.int .i64 q))] ?_;(repeat1' dsimp only[c109,ar,aa,go_sem]);first|refine aL ?_ ?_ rfl ?_|apply aM|apply aN|(refine aO (fun hc=>?_) fun hc=>?_<;>first|(cases hc;done)|(exfalso;(simp at hc<;>omega))|(try simp only[bn]at hc;try contradiction))|skip))
 ·rw[pw]at hc;rw[if_pos hc.2]
 rw[pw]at hc ⊢;rw[if_neg (hc.resolve_left f0)]
theorem tU (b:List Rg) (r:Rw) (c:Int) (hb:b.length≤1000000000) (hr:r.terms.length≤1000000000):aq ctx 109 [.agg [ar r.terms,.int .i64 r.bound],aa b,.int .i64 c] (.agg [.int .i64 (b9 r b c).lo,.int .i64 (b9 r b c).hi]):=by
 have hv:aq ctx 60 [.sl b.length (b.flatMap bS),.sl 1 [.sl r.terms.length (r.terms.flatMap gZ),.int .i64 r.bound]] (.bool (dN b [r])):=jn b [r] hb (by simp) fun x hx=>by simp at hx;subst hx;exact hr
 by_cases hc:dN b [r]=true∧0≤c∧c<b.length
 ·rw[hc.1]at hv;have ht:=tx b r c hc.1 hc.2.1 hc.2.2 hv;rw[show b9 r b c=cB r b c by rw[b9,if_pos hc]];exact ht
 rw[show b9 r b c=zr by rw[b9,if_neg hc]];generalize dN b [r]=q at *;cases q with
 |false =>
  refine an (C:=ctx) (Fn.of En rfl) rfl ?_;unfold c109;repeat' (first|((with_reducible show az _);first|exact True.intro|(simp only[vb,lb,hv];and_intros<;>first|omega|(simp<;>omega)))|((with_reducible show aB _);first|exact True.intro|((try dsimp only[go_sem]);(simp[vb,hv]<;>omega)))|exact(rfl:some _=_)|((fail_if_success refine aK ?_);refine du [(60,fun _=>some (.bool false))] ?_;(repeat1' dsimp only[c109,ar,aa,go_sem]);first|refine aL ?_ ?_ rfl ?_|apply aM|apply aN|(refine aO (fun hc=>?_) fun hc=>?_<;>first|(cases hc;done)|(try simp only[bn]at hc;try contradiction))|skip))
 |true =>
  have hn:¬(0≤c∧c<b.length):=fun h=>hc ⟨rfl,h⟩
  clear hc;refine an (C:=ctx) (Fn.of En rfl) rfl ?_;unfold c109;repeat' (first|((with_reducible show az _);first|exact True.intro|(simp only[vb,lb,hv];and_intros<;>first|omega|(simp<;>omega)))|((with_reducible show aB _);first|exact True.intro|((try dsimp only[go_sem]);(simp[vb,hv]<;>omega)))|exact(rfl:some _=_)|((fail_if_success refine aK ?_);refine du [(60,fun _=>some (.bool true))] ?_;(repeat1' dsimp only[c109,ar,aa,go_sem]);first|refine aL ?_ ?_ rfl ?_|apply aM|apply aN|(refine aO (fun hc=>?_) fun hc=>?_<;>first|(cases hc;done)|(exfalso;(simp at hc<;>omega))|(try simp only[bn]at hc;try contradiction))|skip))
end
section
open Rf
def Er:av:=(⟨_,by conv=>(lhs;reduce;try simp only[G4,Int.cast_ofNat_Int,Int.reduceNegSucc,UInt8.reduceOfNat])⟩:{x // codeOf Tryz.prog 132 (fun d=>Nat.beq d 7)=some x}).1
theorem Iz:bo Tryz.prog 132 (fun d=>Nat.beq d 7)=some (Er,[.t 4],35,true):=by kernel_rfl
theorem zW (b:List Rg) (g:Gr) (hg:bj b.length g=true) (hb:b.length≤1000000000):aq ctx 132 [.agg [.int .i64 g.first,.int .i64 g.size,au g.least],aa b] (bC (cC g b)):=by
 simp only[bj,aC,Bool.and_eq_true,decide_eq_true_eq]at hg;obtain⟨⟨⟨⟨⟨g1,g2⟩,g3⟩,g4⟩,g5⟩,g6⟩:=hg;have hsq:=nz g1 g2;obtain⟨fi,hfi⟩:∃fi:Nat,g.first=fi:=⟨g.first.toNat,by omega⟩
 have hpl:=mc g b;have hat:=kQ g b;have f1:=cO g.least;have f2:=bJ b;obtain⟨_,n,le⟩:=g;simp only at *;subst hfi;generalize cC ⟨fi,n,le⟩ b=ps at *;refine an (C:=ctx) (Fn.of Iz rfl) rfl ?_;unfold Er;repeat' (first|((with_reducible first|show az _|show aB _);simp[vb]<;>omega)|exact(rfl:some _=_)|((fail_if_success refine aK ?_);refine bG ?_;(repeat1' dsimp only[Er,au,aa,go_sem]);first|refine aL ?_ ?_ rfl ?_|apply aM|apply aN|(refine aO (fun hc=>?_) fun hc=>?_<;>first|(cases hc;done)|(exfalso;simp at hc<;>omega)|(try simp only[bn]at hc;try contradiction))|skip))
 refine a7 le.length (fun _=>True) (fun j=>[(1,.pv (aa b)),(2,.ptr 0 0 0),(5,.ref 1 j 0 j),(6,.pv (.int .i64 j))]) (fun j=>[⟨[.pv (.int .i64 fi),.pv (.int .i64 n),.pv (au le)],0,3,99,false⟩,⟨((ps.take j).flatMap dP).map .pv,j,1,4,false⟩]) trivial (by (repeat' (first|exact trivial|refine And.intro (by first|rfl|(simp[get,Nat.beq]<;>omega)|(dsimp only[get];congr 1<;>first|rfl|omega|(simp<;>omega))) ?_))) ⟨[],rfl⟩ (fun _=>⟨Nat.zero_le _,rfl,by simp[aS,cZ]⟩) fun j hk _=>?_
 by_cases hlt:j<le.length
 ·have e1:=iP (g:=aI) (fun _=>rfl) le j 0 default hlt;have e2:=nB b (fi+j) (by omega);have e3:=hat j hlt;have e6:((fi:Int)+(j:Int))=((fi+j:Nat):Int):=by simp
  have hs:=aH ps j false (by omega);have e7:=fH (ps.take j);have hl:(ps.take j).length=j:=by rw[List.length_take];omega
  have hlt2:fi+j<b.length:=by omega
  rw[Int.toNat_natCast]at e3;rw[hs,e3];rw[hl]at e7;clear hs e3 hat;generalize ps.take j=v at *;generalize le.getD j 0=lj at *;generalize (b.getD (fi+j) zr).lo=lo at *;repeat' (first|((with_reducible show az _);(simp only[vb,lb,e1,e2,e7,hlt,hlt2,hpl,f1,f2,g5];and_intros<;>first|omega|(simp<;>omega)))|((with_reducible show aB _);first|exact True.intro|((try dsimp only[go_sem]);first|(simp[vb,e1,e2,e7,hlt,hlt2,hpl,f1,f2,g5]<;>omega)|(simp only[vb,and_true,true_implies];(repeat' (first|(with_reducible assumption)|(with_reducible apply And.intro)|intro _|((fail_if_success (with_reducible show(_:Int)≤_));assumption)))<;>first|rfl|(simp only[ab,e1,e2,e7,hlt,hlt2,hpl,f1,f2,g5];done))))|exact(rfl:some _=_)|((fail_if_success refine aK ?_);refine bw [ξ 14 (.bool true),ξ 22 (.int .i64 (fi+j:Nat)),ξ 25 (.int .i64 lo),ξ 30 (.int .i64 lj),(33,{mode:=1})] ?_;(repeat1' dsimp only[Er,au,aa,go_sem]);first|refine aL ?_ ?_ rfl ?_|apply aM|apply aN|(refine aO (fun hc=>?_) fun hc=>?_<;>first|(cases hc;done)|(try simp only[bn]at hc;try contradiction))|skip))
  exact⟨hlt,trivial,by (repeat' (first|exact trivial|refine And.intro (by first|rfl|(simp[get,Nat.beq]<;>omega)|(dsimp only[get];congr 1<;>first|rfl|omega|(simp<;>omega))) ?_)),[],by simp[List.flatMap_append,dP]⟩
 obtain rfl:j=le.length:=by omega
 have ht:ps.take le.length=ps:=List.take_of_length_le (by omega);simp only[ht];have f3:=fH ps;repeat' (first|((with_reducible show az _);first|exact True.intro|(simp only[vb,lb,hlt,g5];and_intros<;>first|omega|(simp<;>omega)))|((with_reducible show aB _);first|exact True.intro|((try dsimp only[go_sem]);(simp[vb,hlt,g5]<;>omega)))|exact(rfl:some _=_)|((fail_if_success refine aK ?_);refine bw [ξ 14 (.bool false)] ?_;(repeat1' dsimp only[Er,au,aa,go_sem]);first|refine aL ?_ ?_ rfl ?_|apply aM|apply aN|(refine aO (fun hc=>?_) fun hc=>?_<;>first|(cases hc;done)|(try simp only[bn]at hc;try contradiction))|skip))
 unfold bC;rw[hpl];exact mV rfl rfl rfl (by rw[List.drop_zero,List.take_of_length_le (by simp only[List.length_map];omega)]) (by simp only[List.length_map];omega)
end
section
open Rf
def HK:av:=(⟨_,by conv=>(lhs;reduce;try simp only[G4,Int.cast_ofNat_Int,Int.reduceNegSucc,UInt8.reduceOfNat])⟩:{x // codeOf Tryz.prog 151 (fun _=>false)=some x}).1
theorem IA:bo Tryz.prog 151 (fun _=>false)=some (HK,[.t 4],19,true):=by kernel_rfl
def c152:av:=(⟨_,by conv=>(lhs;reduce;try simp only[G4,Int.cast_ofNat_Int,Int.reduceNegSucc,UInt8.reduceOfNat])⟩:{x // codeOf Tryz.prog 152 (fun _=>false)=some x}).1
theorem IB:bo Tryz.prog 152 (fun _=>false)=some (c152,[.t 4],18,true):=by kernel_rfl
def Es:av:=(⟨_,by conv=>(lhs;reduce;try simp only[G4,Int.cast_ofNat_Int,Int.reduceNegSucc,UInt8.reduceOfNat])⟩:{x // codeOf Tryz.prog 153 (fun d=>Nat.beq d 7)=some x}).1
theorem IC:bo Tryz.prog 153 (fun d=>Nat.beq d 7)=some (Es,[.t 4],25,true):=by kernel_rfl
theorem zX (n:Int) (l:List Bool) (h1:1≤n) (h2:n≤6) (hl:(l.length:Int)=n*n):aq ctx 151 [.int .i64 n,bC l] (.bool true):=by
 have hsq:=nz h1 h2;have f3:=fH l;refine an (C:=ctx) (Fn.of IA rfl) rfl ?_;unfold HK;repeat' (first|((with_reducible show az _);exact True.intro)|((with_reducible show aB _);first|exact True.intro|((try dsimp only[go_sem]);(simp[vb,hl,h1,h2]<;>omega)))|exact(rfl:some _=_)|((fail_if_success refine aK ?_);refine bw [ξ 18 (.bool true)] ?_;(repeat1' dsimp only[HK,bC,go_sem]);first|refine aL ?_ ?_ rfl ?_|apply aM|apply aN|(refine aO (fun hc=>?_) fun hc=>?_<;>first|(cases hc;done)|(try simp only[bn]at hc;try contradiction))|skip))
theorem Et (l:List Int) (v:Int) (hl:l.length≤1000000000):aq ctx 152 [au l,.int .i64 v] (.bool (decide (v∈l))):=by
 have f1:=cO l;generalize hq:decide (v∈l)=q;refine an (C:=ctx) (Fn.of IB rfl) rfl ?_;unfold c152;repeat' (first|((with_reducible first|show az _|show aB _);simp[vb]<;>omega)|exact(rfl:some _=_)|((fail_if_success refine aK ?_);refine bG ?_;(repeat1' dsimp only[c152,au,go_sem]);first|refine aL ?_ ?_ rfl ?_|apply aM|apply aN|(refine aO (fun hc=>?_) fun hc=>?_<;>first|(cases hc;done)|(exfalso;simp at hc<;>omega)|(try simp only[bn]at hc;try contradiction))|skip))
 refine a7 l.length (fun k=>decide (v∈l.drop k)=q) (fun k=>[(0,.pv (au l)),(1,.pv (.int .i64 v)),(5,.pv (.int .i64 k))]) (fun _=>[]) (by simpa using hq) (by (repeat' (first|exact trivial|refine And.intro (by first|rfl|(simp[get,Nat.beq]<;>omega)|(dsimp only[get];congr 1<;>first|rfl|omega|(simp<;>omega))) ?_))) ⟨_,rfl⟩ (fun _=>⟨Nat.zero_le _,rfl,rfl⟩) fun k hk hP=>?_
 by_cases hlt:k<l.length
 ·have e:=iP (g:=aI) (fun _=>rfl) l k 0 default hlt;rw[dR l k 0 hlt]at hP;generalize l.getD k 0=x at *;by_cases hx:x=v
  ·subst hx;simp at hP;subst hP;repeat' (first|((with_reducible show az _);first|exact True.intro|(simp only[vb,lb,e,f1,hlt];and_intros<;>first|omega|(simp<;>omega)))|((with_reducible show aB _);first|exact True.intro|((try dsimp only[go_sem]);(simp only[vb,and_true,true_implies];(repeat' (first|(with_reducible assumption)|(with_reducible apply And.intro)|intro _|((fail_if_success (with_reducible show(_:Int)≤_));assumption)))<;>(simp only[ab,e,f1,hlt];done))))|exact(rfl:some _=_)|((fail_if_success refine aK ?_);refine bw [ξ 15 (.int .i64 x)] ?_;(repeat1' dsimp only[c152,au,go_sem]);first|refine aL ?_ ?_ rfl ?_|apply aM|apply aN|(refine aO (fun hc=>?_) fun hc=>?_<;>first|(cases hc;done)|(exfalso;(simp at hc<;>omega))|(try simp only[bn]at hc;try contradiction))|skip))
  have hP:decide (v∈l.drop (k+1))=q:=by
   rw[←hP];have:v≠x:=fun h=>hx h.symm
   simp[this]
  repeat' (first|((with_reducible show az _);first|exact True.intro|(simp only[vb,lb,e,f1,hlt,hx];and_intros<;>first|omega|(simp<;>omega)))|((with_reducible show aB _);first|exact True.intro|((try dsimp only[go_sem]);(simp only[vb,and_true,true_implies];(repeat' (first|(with_reducible assumption)|(with_reducible apply And.intro)|intro _|((fail_if_success (with_reducible show(_:Int)≤_));assumption)))<;>(simp only[ab,e,f1,hlt,hx];done))))|exact(rfl:some _=_)|((fail_if_success refine aK ?_);refine bw [ξ 15 (.int .i64 x)] ?_;(repeat1' dsimp only[c152,au,go_sem]);first|refine aL ?_ ?_ rfl ?_|apply aM|apply aN|(refine aO (fun hc=>?_) fun hc=>?_<;>first|(cases hc;done)|(exfalso;(simp at hc<;>omega))|(try simp only[bn]at hc;try contradiction))|skip))
  exact⟨hlt,hP,by (repeat' (first|exact trivial|refine And.intro (by first|rfl|(simp[get,Nat.beq]<;>omega)|(dsimp only[get];congr 1<;>first|rfl|omega|(simp<;>omega))) ?_)),_,rfl⟩
 obtain rfl:k=l.length:=by omega
 simp at hP;subst hP;repeat' (first|((with_reducible first|show az _|show aB _);simp[vb,hlt]<;>omega)|exact(rfl:some _=_)|((fail_if_success refine aK ?_);refine bG ?_;(repeat1' dsimp only[c152,au,go_sem]);first|refine aL ?_ ?_ rfl ?_|apply aM|apply aN|(refine aO (fun hc=>?_) fun hc=>?_<;>first|(cases hc;done)|(exfalso;simp[hlt]at hc<;>omega)|(try simp only[bn]at hc;try contradiction))|skip))
theorem Cs (l:List Int) (v:Int) (hl:l.length≤1000000000):aq ctx 153 [au l,.int .i64 v] (au (l++[v])):=by
 have f1:=cO l;refine an (C:=ctx) (Fn.of IC rfl) rfl ?_;unfold Es;repeat' (first|((with_reducible first|show az _|show aB _);simp[vb]<;>omega)|exact(rfl:some _=_)|((fail_if_success refine aK ?_);refine bG ?_;(repeat1' dsimp only[Es,au,go_sem]);first|refine aL ?_ ?_ rfl ?_|apply aM|apply aN|(refine aO (fun hc=>?_) fun hc=>?_<;>first|(cases hc;done)|(exfalso;simp at hc<;>omega)|(try simp only[bn]at hc;try contradiction))|skip))
 refine a7 l.length (fun _=>True) (fun k=>[(0,.pv (au l)),(1,.pv (.int .i64 v)),(5,.ref 0 k 0 k),(6,.pv (.int .i64 k))]) (fun k=>[⟨((l.take k).flatMap aI).map .pv,k,1,3,false⟩]) trivial (by (repeat' (first|exact trivial|refine And.intro (by first|rfl|(simp[get,Nat.beq]<;>omega)|(dsimp only[get];congr 1<;>first|rfl|omega|(simp<;>omega))) ?_))) ⟨[],rfl⟩ (fun _=>⟨Nat.zero_le _,rfl,by simp[aS,cZ]⟩) fun k hk _=>?_
 by_cases hlt:k<l.length
 ·have e:=iP (g:=aI) (fun _=>rfl) l k 0 default hlt;have hs:=aH l k 0 hlt;have e7:=cO (l.take k);have hll:(l.take k).length=k:=by rw[List.length_take];omega
  rw[hll]at e7;rw[hs];clear hs;generalize l.getD k 0=x at *;generalize l.take k=w at *;repeat' (first|((with_reducible show az _);first|exact True.intro|(simp only[vb,lb,e,e7,f1,hlt];and_intros<;>first|omega|(simp<;>omega)))|((with_reducible show aB _);first|exact True.intro|((try dsimp only[go_sem]);(simp only[vb,and_true,true_implies];(repeat' (first|(with_reducible assumption)|(with_reducible apply And.intro)|intro _|((fail_if_success (with_reducible show(_:Int)≤_));assumption)))<;>(simp only[ab,e,e7,f1,hlt];done))))|exact(rfl:some _=_)|((fail_if_success refine aK ?_);refine bw [ξ 18 (.int .i64 x),(20,{mode:=1})] ?_;(repeat1' dsimp only[Es,au,go_sem]);first|refine aL ?_ ?_ rfl ?_|apply aM|apply aN|(refine aO (fun hc=>?_) fun hc=>?_<;>first|(cases hc;done)|(exfalso;(simp at hc<;>omega))|(try simp only[bn]at hc;try contradiction))|skip))
  exact⟨hlt,trivial,by (repeat' (first|exact trivial|refine And.intro (by first|rfl|(simp[get,Nat.beq]<;>omega)|(dsimp only[get];congr 1<;>first|rfl|omega|(simp<;>omega))) ?_)),[],by simp[List.flatMap_append,aI]⟩
 obtain rfl:k=l.length:=by omega
 have ht:l.take l.length=l:=List.take_of_length_le (by omega);simp only[ht];have f3:=cO (l++[v]);repeat' (first|((with_reducible show az _);first|exact True.intro|(simp only[vb,lb,hlt,f1];and_intros<;>first|omega|(simp<;>omega)))|((with_reducible show aB _);exact True.intro)|exact(rfl:some _=_)|((fail_if_success refine aK ?_);refine bw [(24,{mode:=1})] ?_;(repeat1' dsimp only[Es,au,go_sem]);first|refine aL ?_ ?_ rfl ?_|apply aM|apply aN|(refine aO (fun hc=>?_) fun hc=>?_<;>first|(cases hc;done)|(exfalso;(simp at hc<;>omega))|(try simp only[bn]at hc;try contradiction))|skip))
 rw[show List.map AV.pv (List.flatMap aI l)++[AV.pv (PV.int IntKind.i64 v)]=((l++[v]).flatMap aI).map AV.pv by simp[List.flatMap_append,aI],show l.length+1=(l++[v]).length by simp];exact mV rfl rfl rfl (by rw[List.drop_zero,List.take_of_length_le (by simp only[List.length_map];omega)]) (by simp only[List.length_map];omega)
end
end Pur
end
section
namespace Rf
def kS (u n:Nat) (e:Nat→Nat→Bool) (p:List Nat):List (List Nat):=((List.range u).filter fun u=>e (db p) u&& !decide (u∈p)).map fun u=>p++[u]
theorem zY (u n:Nat) (e:Nat→Nat→Bool) (p:List Nat):kS (u+1) n e p=kS u n e p++if (e (db p) u&& !decide (u∈p))=true then [p++[u]] else []:=by
 simp only[kS,List.range_succ,List.filter_append,List.map_append];congr 1;by_cases h:(e (db p) u&& !decide (u∈p))=true<;>simp[List.filter,h]
theorem uO (u n:Nat) (e:Nat→Nat→Bool) (p:List Nat):(kS u n e p).length≤u:=by
 rw[kS,List.length_map];have:=List.length_filter_le (fun u=>e (db p) u&& !decide (u∈p)) (List.range u);simpa using this
theorem Eu (n:Nat) (e:Nat→Nat→Bool) (p:List Nat):(Dy n e p).length≤n:=uO n n e p
theorem nT (n:Nat) (e:Nat→Nat→Bool):∀(ps:List (List Nat)),(gP n e ps).length≤ps.length*n
 |[]=>by simp[gP]
 |p::r=>by
  have h1:=nT n e r;have h2:=Eu n e p;simp only[gP,List.flatMap_cons,List.length_append,List.length_cons]at h1 ⊢;rw[Nat.add_mul];omega
theorem AX {n:Nat} (e:Nat→Nat→Bool) (a:Nat) (hn:n≤6):∀(k:Nat),(lvl n e a k).length≤6 ^ k
 |0=>by simp[lvl]
 |k+1=>by
  have h1:=AX e a hn k;have h2:=nT n e (lvl n e a k);rw[lvl,Nat.pow_succ];exact Nat.le_trans h2 (Nat.mul_le_mul h1 hn)
end Rf
namespace Pur
open Rf
abbrev lv (p:List Nat):PV:=.sl p.length ((p.map Int.ofNat).flatMap aI)
def wa (p:List Nat):List PV:=[lv p]
abbrev AY (ps:List (List Nat)):PV:=.sl ps.length (ps.flatMap wa)
def tz:Option (List Nat)→PV
 |some p=>lv p
 |none=>.nilsl
theorem tA (ps:List (List Nat)):(ps.flatMap wa).length=ps.length*1:=by
 induction ps with
 |nil=>rfl
 |cons p r ih=>simp only[List.flatMap_cons,List.length_append,List.length_cons,ih,wa,List.length_nil];omega
def c131:av:=(⟨_,by conv=>(lhs;reduce;try simp only[G4,Int.cast_ofNat_Int,Int.reduceNegSucc,UInt8.reduceOfNat])⟩:{x // codeOf Tryz.prog 131 (fun d=>Nat.beq d 45)=some x}).1
theorem ID:bo Tryz.prog 131 (fun d=>Nat.beq d 45)=some (c131,[.t 8],103,true):=by kernel_rfl
theorem Ct (n:Nat) (es:List Bool) (a v:Nat) (h1:1≤n) (h2:n≤6) (he:es.length=n*n) (ha:a<n) (hv:v<n):aq ctx 131 [.int .i64 n,bC es,.int .i64 a,.int .i64 v] (tz (jB n (bE n es) v n [[a]])):=by
 have hV:=zX n es (by omega) (by omega) (by rw[he];simp);have f1:=fH es;generalize hq:jB n (bE n es) v n [[a]]=q;refine an (C:=ctx) (Fn.of ID rfl) rfl ?_;unfold c131;repeat' (first|((with_reducible show az _);exact True.intro)|((with_reducible show aB _);first|exact True.intro|((try dsimp only[go_sem]);(simp only[vb,and_true,true_implies];(repeat' (first|(with_reducible assumption)|(with_reducible apply And.intro)|intro _|((fail_if_success (with_reducible show(_:Int)≤_));assumption)))<;>first|rfl|(simp only[ab,hV,h1,ha,hv];done)|(simp[Nat.mul_one,hV,h1,ha,hv]<;>omega))))|exact(rfl:some _=_)|((fail_if_success refine aK ?_);refine du [(151,fun _=>some (.bool true))] ?_;(repeat1' dsimp only[c131,bC,go_sem]);first|refine aL ?_ ?_ rfl ?_|apply aM|apply aN|(refine aO (fun hc=>?_) fun hc=>?_<;>first|(cases hc;done)|(exfalso;(simp at hc<;>omega))|(try simp only[bn]at hc;try contradiction))|skip))
 refine a7 n (fun k=>jB n (bE n es) v (n-k) (lvl n (bE n es) a k)=q) (fun k=>[(0,.pv (.int .i64 n)),(1,.pv (bC es)),(3,.pv (.int .i64 v)),(9,.pv (AY (lvl n (bE n es) a k))),(10,.pv (.int .i64 k))]) (fun _=>[]) hq (by (repeat' (first|exact trivial|refine And.intro (by first|rfl|(simp[get,Nat.beq,lvl,wa]<;>omega)|(dsimp only[get];congr 1<;>first|rfl|omega|(simp<;>omega))) ?_))) ⟨_,rfl⟩ (fun _=>⟨Nat.zero_le _,rfl,rfl⟩) fun k hk hP=>?_
 by_cases hlt:k<n
 ·obtain⟨g,hg⟩:∃g,n-k=g+1:=⟨n-k-1,by omega⟩
  rw[hg,jB]at hP;have hll:=AX (bE n es) a h2 k;have h6:(6:Nat) ^ k≤6 ^ 6:=Nat.pow_le_pow_right (by omega) (by omega);have hsp:∀p∈lvl n (bE n es) a k,0<p.length∧p.length≤n∧∀x∈p,x<n:=fun p hp=>by
   have s1:=zB k p hp;have s2:=xH ha s1;exact⟨(Dz s1).1,zC n p s2.1 s2.2,s2.2⟩
  have hnx:lvl n (bE n es) a (k+1)=gP n (bE n es) (lvl n (bE n es) a k):=rfl;rw[hnx];generalize lvl n (bE n es) a k=ps at *;have f2:=tA ps;repeat' (first|((with_reducible show az _);exact True.intro)|((with_reducible show aB _);exact True.intro)|exact(rfl:some _=_)|((fail_if_success refine aK ?_);refine bG ?_;(repeat1' dsimp only[c131,bC,go_sem]);first|refine aL ?_ ?_ rfl ?_|apply aM|apply aN|(refine aO (fun hc=>?_) fun hc=>?_<;>first|(cases hc;done)|(exfalso;(simp at hc<;>omega))|(try simp only[bn]at hc;try contradiction))|skip))
  refine a7 ps.length (fun i=>(match (ps.drop i).find? (fun p=>decide (db p=v)) with|some p=>some p|none=>jB n (bE n es) v g (gP n (bE n es) ps))=q) (fun i=>[(0,.pv (.int .i64 n)),(1,.pv (bC es)),(3,.pv (.int .i64 v)),(9,.pv (AY ps)),(10,.pv (.int .i64 k)),(11,.ref 0 (gP n (bE n es) (ps.take i)).length 0 (gP n (bE n es) (ps.take i)).length),(12,.pv (.int .i64 i))]) (fun i=>[⟨((gP n (bE n es) (ps.take i)).flatMap wa).map .pv,(gP n (bE n es) (ps.take i)).length,1,49,false⟩]) hP (by (repeat' (first|exact trivial|refine And.intro (by first|rfl|(simp[get,Nat.beq,gP]<;>omega)|(dsimp only[get];congr 1<;>first|rfl|omega|(simp<;>omega))) ?_))) ⟨[],rfl⟩ (fun _=>⟨Nat.zero_le _,rfl,by simp[aS,cZ]⟩) fun i hi hQ=>?_
  by_cases hli:i<ps.length
  ·have hm:=hsp _ (aQ (d:=[]) hli);have e:=iP (g:=wa) (f:=lv) (fun _=>rfl) ps i [] default hli;have hm0:=hm.1;rw[dR ps i [] hli,List.find?_cons]at hQ;have hs:=aH ps i [] hli;generalize ps.getD i []=p at *;have e3:=iP (g:=aI) (fun _=>rfl) (p.map Int.ofNat) (p.length-1) 0 default (by simp;omega);have e4:(p.map Int.ofNat).getD (p.length-1) 0=(db p:Nat):=by
    rw[db,List.getLastD_eq_getLast?,List.getLast?_eq_getElem?,List.getD,List.getElem?_map];rw[List.getElem?_eq_getElem (show p.length-1<p.length by omega)];rfl
   rw[e4]at e3;clear e4;have f4:=cO (p.map Int.ofNat);rw[List.length_map]at f4;have hlast:db p<n:=by
    rw[db,List.getLastD_eq_getLast?,List.getLast?_eq_getElem?,List.getElem?_eq_getElem (show p.length-1<p.length by omega)];exact hm.2.2 _ (List.getElem_mem _)
   by_cases hl:db p=v
   ·simp only[hl,decide_true]at hQ;subst hQ;repeat' (first|((with_reducible show az _);first|exact True.intro|(simp only[vb,lb,e,e3,f2,f4,hli,hm0,hl];and_intros<;>first|omega|(simp<;>omega)))|((with_reducible show aB _);first|exact True.intro|((try dsimp only[go_sem]);first|(simp[vb,e,e3,f2,f4,hli,hm0,hl]<;>omega)|(simp only[vb,and_true,true_implies];(repeat' (first|(with_reducible assumption)|(with_reducible apply And.intro)|intro _|((fail_if_success (with_reducible show(_:Int)≤_));assumption)))<;>first|(simp only[ab,e,e3,f2,f4,hli,hm0,hl];done)|(simp[Nat.mul_one,e,e3,f2,f4,hli,hm0,hl]<;>omega))))|exact(rfl:some _=_)|((fail_if_success refine aK ?_);refine bw [ξ 55 (lv p),ξ 59 (lv p),ξ 63 (.int .i64 (db p:Nat)),ξ 66 (.bool true),ξ 70 (lv p)] ?_;(repeat1' dsimp only[c131,bC,go_sem]);first|refine aL ?_ ?_ rfl ?_|apply aM|apply aN|(refine aO (fun hc=>?_) fun hc=>?_<;>first|(cases hc;done)|(exfalso;(simp at hc<;>omega))|(try simp only[bn]at hc;try contradiction))|skip))
   simp only[hl,decide_false]at hQ;have hl':¬((db p:Nat):Int)=(v:Nat):=by omega
   have hwi:∀u:Nat,aq ctx 153 [lv p,.int .i64 u] (lv (p++[u])):=fun u=>by
    have:=Cs (p.map Int.ofNat) u (by simp;omega);simpa [au,lv]using this
   have hha:∀u:Nat,aq ctx 152 [lv p,.int .i64 u] (.bool (decide (u∈p))):=fun u=>by
    have:=Et (p.map Int.ofNat) u (by simp;omega);have hd:((u:Int)∈p.map Int.ofNat)↔u∈p:=⟨fun h=>by
     obtain⟨x,hx,e⟩:=List.mem_map.mp h;have:x=u:=Int.ofNat.inj e;subst this;exact hx,fun h=>List.mem_map.mpr ⟨u,h,rfl⟩⟩
    rw[decide_eq_decide.mpr hd]at this;simpa only[au,lv,List.length_map]using this
   have hnl:=nT n (bE n es) (ps.take i);rw[List.length_take]at hnl;have hn6:min i ps.length*n≤6 ^ 6*6:=Nat.mul_le_mul (by omega) h2;have hnn:gP n (bE n es) (ps.take (i+1))=gP n (bE n es) (ps.take i)++kS n n (bE n es) p:=by
    rw[hs,gP,List.flatMap_append];simp[gP,Dy,kS]
   rw[hnn];generalize gP n (bE n es) (ps.take i)=ns at *;repeat' (first|((with_reducible show az _);first|exact True.intro|(simp only[vb,lb,e,e3,f2,f4,hli,hm0,hl,hl'];and_intros<;>first|omega|(simp<;>omega)))|((with_reducible show aB _);first|exact True.intro|((try dsimp only[go_sem]);first|(simp[vb,e,e3,f2,f4,hli,hm0,hl,hl']<;>omega)|(simp only[vb,and_true,true_implies];(repeat' (first|(with_reducible assumption)|(with_reducible apply And.intro)|intro _|((fail_if_success (with_reducible show(_:Int)≤_));assumption)))<;>first|(simp only[ab,e,e3,f2,f4,hli,hm0,hl,hl'];done)|(simp[Nat.mul_one,e,e3,f2,f4,hli,hm0,hl,hl']<;>omega))))|exact(rfl:some _=_)|((fail_if_success refine aK ?_);refine bw [ξ 55 (lv p),ξ 59 (lv p),ξ 63 (.int .i64 (db p:Nat)),ξ 66 (.bool false)] ?_;(repeat1' dsimp only[c131,bC,go_sem]);first|refine aL ?_ ?_ rfl ?_|apply aM|apply aN|(refine aO (fun hc=>?_) fun hc=>?_<;>first|(cases hc;done)|(exfalso;(simp at hc<;>omega))|(try simp only[bn]at hc;try contradiction))|skip))
   refine a7 n (fun _=>True) (fun u=>[(0,.pv (.int .i64 n)),(1,.pv (bC es)),(3,.pv (.int .i64 v)),(9,.pv (AY ps)),(10,.pv (.int .i64 k)),(11,.ref 0 (ns++kS u n (bE n es) p).length 0 (ns++kS u n (bE n es) p).length),(12,.pv (.int .i64 i)),(13,.pv (.int .i64 (db p:Nat))),(14,.pv (.int .i64 u))]) (fun u=>[⟨((ns++kS u n (bE n es) p).flatMap wa).map .pv,(ns++kS u n (bE n es) p).length,1,49,false⟩]) trivial (by (repeat' (first|exact trivial|refine And.intro (by first|rfl|(simp[get,Nat.beq,kS]<;>omega)|(dsimp only[get];congr 1<;>first|rfl|omega|(simp<;>omega))) ?_))) ⟨[],by simp[kS]⟩ (fun _=>⟨Nat.zero_le _,rfl,by simp[aS,cZ]⟩) fun u hu _=>?_
   by_cases hlu:u<n
   ·have hgl:=uO u n (bE n es) p;have hsq:n*n≤36:=Nat.mul_le_mul h2 h2;have hlt2:db p*n+u<n*n:=by
     have:=Nat.mul_le_mul_right n (show db p+1≤n by omega);rw[Nat.add_mul]at this;omega
    have e5:=iP (g:=dP) (f:=PV.bool) (fun _=>rfl) es (db p*n+u) false default (by omega);have e7:((db p:Nat):Int)*(n:Int)=((db p*n:Nat):Int):=by simp
    have hgs:=zY u n (bE n es) p;rw[show bE n es (db p) u=es.getD (db p*n+u) false from rfl]at hgs;rw[hgs];clear hgs;have hw:=hwi u;have hh:=hha u;clear hwi hha hsp hm;generalize kS u n (bE n es) p=gs at *;generalize es.getD (db p*n+u) false=eb at *;generalize n*n=nn at *;generalize db p*n=ln at *;have e6:((ln:Nat):Int)+(u:Int)=((ln+u:Nat):Int):=by simp
    have f5:=tA (ns++gs);have hlt3:ln+u<es.length:=by omega
    cases eb with
    |false =>
     simp only[Bool.false_and,Bool.false_eq_true,if_false,List.append_nil];generalize hdp:decide (u∈p)=dp at hh;repeat' (first|((with_reducible show az _);first|exact True.intro|(simp only[vb,lb,e,e5,e7,f1,f2,hlu,hli,hlt3,hh];and_intros<;>first|omega|(simp<;>omega)))|((with_reducible show aB _);first|exact True.intro|((try dsimp only[go_sem]);(simp only[vb,and_true,true_implies];(repeat' (first|(with_reducible assumption)|(with_reducible apply And.intro)|intro _|((fail_if_success (with_reducible show(_:Int)≤_));assumption)))<;>first|omega|rfl|(simp only[ab,e,e5,e7,f1,f2,hlu,hli,hlt3,hh];done))))|exact(rfl:some _=_)|((fail_if_success refine aK ?_);refine aV [(152,fun _=>some (.bool dp))] [ξ 79 (.int .i64 (ln:Nat)),ξ 81 (.int .i64 (ln+u:Nat)),ξ 83 (.bool false),ξ 88 (lv p),ξ 92 (.bool false)] ?_;(repeat1' dsimp only[c131,bC,go_sem]);first|refine aL ?_ ?_ rfl ?_|apply aM|apply aN|(refine aO (fun hc=>?_) fun hc=>?_<;>first|(cases hc;done)|(exfalso;(simp at hc<;>omega))|(try simp only[bn]at hc;try contradiction))|skip))
     exact⟨hlu,trivial,by (repeat' (first|exact trivial|refine And.intro (by first|rfl|(simp[get,Nat.beq]<;>omega)|(dsimp only[get];congr 1<;>first|rfl|omega|(simp<;>omega))) ?_)),[],by simp⟩
    |true =>
     by_cases hup:u∈p
     ·simp only[hup,decide_true,Bool.not_true,Bool.and_false,Bool.false_eq_true,if_false,List.append_nil];simp only[hup,decide_true]at hh;repeat' (first|((with_reducible show az _);first|exact True.intro|(simp only[vb,lb,e,e5,e7,f1,f2,hlu,hli,hlt3,hh];and_intros<;>first|omega|(simp<;>omega)))|((with_reducible show aB _);first|exact True.intro|((try dsimp only[go_sem]);(simp only[vb,and_true,true_implies];(repeat' (first|(with_reducible assumption)|(with_reducible apply And.intro)|intro _|((fail_if_success (with_reducible show(_:Int)≤_));assumption)))<;>first|omega|rfl|(simp only[ab,e,e5,e7,f1,f2,hlu,hli,hlt3,hh];done))))|exact(rfl:some _=_)|((fail_if_success refine aK ?_);refine aV [(152,fun _=>some (.bool true))] [ξ 79 (.int .i64 (ln:Nat)),ξ 81 (.int .i64 (ln+u:Nat)),ξ 83 (.bool true),ξ 88 (lv p),ξ 92 (.bool false)] ?_;(repeat1' dsimp only[c131,bC,go_sem]);first|refine aL ?_ ?_ rfl ?_|apply aM|apply aN|(refine aO (fun hc=>?_) fun hc=>?_<;>first|(cases hc;done)|(exfalso;(simp at hc<;>omega))|(try simp only[bn]at hc;try contradiction))|skip))
      exact⟨hlu,trivial,by (repeat' (first|exact trivial|refine And.intro (by first|rfl|(simp[get,Nat.beq]<;>omega)|(dsimp only[get];congr 1<;>first|rfl|omega|(simp<;>omega))) ?_)),[],by simp⟩
     simp only[hup,decide_false,Bool.not_false,Bool.and_true,if_true];simp only[hup,decide_false]at hh;repeat' (first|((with_reducible show az _);first|exact True.intro|(simp only[vb,lb,e,e5,e7,f1,f2,f5,hlu,hli,hlt3,hh,hw];and_intros<;>first|omega|(simp<;>omega)))|((with_reducible show aB _);first|exact True.intro|((try dsimp only[go_sem]);(simp only[vb,and_true,true_implies];(repeat' (first|(with_reducible assumption)|(with_reducible apply And.intro)|intro _|((fail_if_success (with_reducible show(_:Int)≤_));assumption)))<;>first|omega|rfl|(simp only[ab,e,e5,e7,f1,f2,f5,hlu,hli,hlt3,hh,hw];done))))|exact(rfl:some _=_)|((fail_if_success refine aK ?_);refine aV [(152,fun _=>some (.bool false)),(153,fun _=>some (lv (p++[u])))] [ξ 79 (.int .i64 (ln:Nat)),ξ 81 (.int .i64 (ln+u:Nat)),ξ 83 (.bool true),ξ 88 (lv p),ξ 92 (.bool true),ξ 97 (lv p),(101,{mode:=1})] ?_;(repeat1' dsimp only[c131,bC,go_sem]);first|refine aL ?_ ?_ rfl ?_|apply aM|apply aN|(refine aO (fun hc=>?_) fun hc=>?_<;>first|(cases hc;done)|(exfalso;(simp at hc<;>omega))|(try simp only[bn]at hc;try contradiction))|skip))
     exact⟨hlu,trivial,by (rw[←List.append_assoc];(repeat' (first|exact trivial|refine And.intro (by first|rfl|(simp[get,Nat.beq]<;>omega)|(dsimp only[get];congr 1<;>first|rfl|omega|(simp<;>omega))) ?_)));all_goals omega,[],by simp[wa,Nat.add_assoc]⟩
   obtain rfl:u=n:=by omega
   repeat' (first|((with_reducible show az _);first|exact True.intro|(simp only[vb,lb,hlu];and_intros<;>first|omega|(simp<;>omega)))|((with_reducible show aB _);exact True.intro)|exact(rfl:some _=_)|((fail_if_success refine aK ?_);refine bG ?_;(repeat1' dsimp only[c131,bC,go_sem]);first|refine aL ?_ ?_ rfl ?_|apply aM|apply aN|(refine aO (fun hc=>?_) fun hc=>?_<;>first|(cases hc;done)|(exfalso;(simp at hc<;>omega))|(try simp only[bn]at hc;try contradiction))|skip))
   exact⟨hli,hQ,by (repeat' (first|exact trivial|refine And.intro (by first|rfl|(simp[get,Nat.beq]<;>omega)|(dsimp only[get];congr 1<;>first|rfl|omega|(simp<;>omega))) ?_)),[],rfl⟩
  obtain rfl:i=ps.length:=by omega
  rw[List.drop_length]at hQ;simp only[List.find?_nil]at hQ;have hnl:=nT n (bE n es) ps;have hn6:ps.length*n≤6 ^ 6*6:=Nat.mul_le_mul (Nat.le_trans hll h6) h2;have f3:=tA (gP n (bE n es) ps);simp only[List.take_length];generalize gP n (bE n es) ps=ns at *
  refine bq [(11,.ref 0 ns.length 0 ns.length),(0,.pv (.int .i64 n)),(1,.pv (bC es)),(3,.pv (.int .i64 v)),(9,.pv (AY ps)),(10,.pv (.int .i64 k)),(12,.pv (.int .i64 ps.length))] (by (repeat' (first|exact trivial|refine And.intro (by first|rfl|(simp[get,Nat.beq]<;>omega)|(dsimp only[get];congr 1<;>first|rfl|omega|(simp<;>omega))) ?_))) ?_;refine(lW (μ:=[]) (ps:=ns.flatMap wa) (n:=ns.length) (g:=ns.length) (t:=11) (sz:=1) rfl (Nat.zero_le _) (by omega) f3 (fun _=>rfl) rfl ?_);repeat' (first|((with_reducible show az _);first|exact True.intro|(simp only[vb,lb,hli,hlt];and_intros<;>first|omega|(simp<;>omega)))|((with_reducible show aB _);exact True.intro)|exact(rfl:some _=_)|((fail_if_success refine aK ?_);refine bG ?_;(repeat1' dsimp only[c131,bC,go_sem]);first|refine aL ?_ ?_ rfl ?_|apply aM|apply aN|(refine aO (fun hc=>?_) fun hc=>?_<;>first|(cases hc;done)|(exfalso;(simp at hc<;>omega))|(try simp only[bn]at hc;try contradiction))|skip))
  exact⟨hlt,by rw[show n-(k+1)=g by omega];exact hQ,by (repeat' (first|exact trivial|refine And.intro (by first|rfl|(simp[get,Nat.beq]<;>omega)|(dsimp only[get];congr 1<;>first|rfl|omega|(simp<;>omega))) ?_)),[],rfl⟩
 obtain rfl:k=n:=by omega
 rw[Nat.sub_self,jB]at hP;subst hP;repeat' (first|((with_reducible first|show az _|show aB _);simp[vb,hlt]<;>omega)|exact(rfl:some _=_)|((fail_if_success refine aK ?_);refine bG ?_;(repeat1' dsimp only[c131,bC,go_sem]);first|refine aL ?_ ?_ rfl ?_|apply aM|apply aN|(refine aO (fun hc=>?_) fun hc=>?_<;>first|(cases hc;done)|(exfalso;simp[hlt]at hc<;>omega)|(try simp only[bn]at hc;try contradiction))|skip))
end Pur
end
section
namespace Rf
theorem uP {n:Nat} {e:Nat→Nat→Bool} {v:Nat} {p:List Nat}:∀(f:Nat) (ps:List (List Nat)),(∀q∈ps,0<q.length)→jB n e v f ps=some p→0<p.length
 |0,_,_,h=>by simp[jB]at h
 |f+1,ps,hq,h=>by
  rw[jB]at h;split at h
  ·rename_i x hx;injection h with h
   subst h;exact hq _ (List.mem_of_find?_eq_some hx)
  refine uP f _ (fun q hm=>?_) h;rw[gP,List.mem_flatMap]at hm;obtain⟨r,-,hr⟩:=hm;obtain⟨u,-,-,-,rfl⟩:=sT.mp hr;simp
end Rf
namespace Pur
open Rf
def tB:av:=(⟨_,by conv=>(lhs;reduce;try simp only[G4,Int.cast_ofNat_Int,Int.reduceNegSucc,UInt8.reduceOfNat])⟩:{x // codeOf Tryz.prog 110 (fun _=>false)=some x}).1
theorem ym:bo Tryz.prog 110 (fun _=>false)=some (tB,[.cell 6 2 true],61,true):=by kernel_rfl
theorem Ev (b : List Rg) (g : Gr) (k : Nat) (hg : bj b.length g = true) (hbx : bp b = true) (hk : k < g.least.length) : aq ctx 110 [.agg [.int .i64 g.first, .int .i64 g.size, au g.least], aa b, .int .i64 k] (.agg [.int .i64 (l5 g b k).lo, .int .i64 (l5 g b k).hi]) := by
  have hb : b.length ≤ 128 := by
    simp only [bp, Bool.and_eq_true, decide_eq_true_eq] at hbx
    exact hbx.2
  have hpr := zW b g hg (by omega)
  simp only [bj, aC, Bool.and_eq_true, decide_eq_true_eq] at hg
  obtain ⟨⟨⟨⟨⟨g1, g2⟩, g3⟩, g4⟩, g5⟩, g6⟩ := hg
  have hsq := nz g1 g2
  obtain ⟨n, hn⟩ : ∃ n : Nat, g.size = n := ⟨g.size.toNat, by omega⟩
  obtain ⟨fi, hfi⟩ : ∃ fi : Nat, g.first = fi := ⟨g.first.toNat, by omega⟩
  have hlen : g.least.length = n * n := by rw [hn] at g5; have : (n : Int) * n = ((n * n : Nat) : Int) := by simp
                                           omega
  have hpl := mc g b
  have hn1 : 0 < n := by omega
  have hd1 : k % n < n := Nat.mod_lt _ hn1
  have hd2 : k / n < n := by rw [Nat.div_lt_iff_lt_mul hn1]; omega
  have hpa := Ct n (cC g b) (k % n) (k / n) (by omega) (by omega) (by omega) hd1 hd2
  have hcl : gp g b k = true ↔ (jB n (bE n (cC g b)) (k / n) n [[k % n]]).isSome = true := by
    unfold gp
    rw [hn, s6, qM hd1]
    rfl
  have hpos : ∀ p, jB n (bE n (cC g b)) (k / n) n [[k % n]] = some p → 0 < p.length := fun p => uP n _ (by simp)
  have hle : -4000000 ≤ g.least.getD k 0 ∧ g.least.getD k 0 ≤ 4000000 := by
    have := List.all_eq_true.mp g6 _ (aQ (d := 0) hk)
    simpa only [fv, aC, Bool.and_eq_true, decide_eq_true_eq] using this
  have hx := iQ (cQ hbx (fi + k))
  have hself : k / n = k % n → gp g b k = true := fun h => by
    rw [hcl, qM hd1, h]
    exact .here
  have hlt2 : fi + k < b.length := by omega
  have e := iR b ((fi + k : Nat) : Int) (by omega) (by omega)
  have e1 := iP (g := aI) (fun _ => rfl) g.least k 0 default hk
  rw [Int.toNat_natCast] at e
  unfold l5
  rw [show g.first.toNat = fi by omega]
  generalize hrs : jB n (bE n (cC g b)) (k / n) n [[k % n]] = res at *
  generalize gp g b k = q at *
  have f1 := cO g.least
  have f2 := bJ b
  obtain ⟨_, _, le⟩ := g
  simp only at *
  subst hn hfi
  generalize cC ⟨fi, n, le⟩ b = ps at *
  generalize b.getD (fi + k) zr = x at *
  generalize le.getD k 0 = lk at *
  have hz1 : ¬ n = 0 := by omega
  have e6 : ((k : Nat) : Int).tdiv (n : Nat) = ((k / n : Nat) : Int) := by simp [Int.tdiv_eq_ediv]
  have e7 : ((k : Nat) : Int).tmod (n : Nat) = ((k % n : Nat) : Int) := by simp [Int.tmod_eq_emod]
  have e8 : ((k : Nat) : Int) % ((n : Nat) : Int) = ((k % n : Nat) : Int) := by simp
  have e9 : ((k : Nat) : Int) / ((n : Nat) : Int) = ((k / n : Nat) : Int) := by simp
  unfold bC at hpr hpa
  generalize k / n = kd at *
  generalize k % n = km at *
  by_cases hlk : lk ≤ x.hi
  · by_cases hkk : kd = km
    · rw [hself hkk]
      simp only [if_true]
      cases res with
      | none =>
        unfold tz at hpa
        refine an (C := ctx) (Fn.of ym rfl) rfl ?_
        unfold tB
        repeat' (first
          | ((with_reducible show az _); first | exact True.intro | (simp only [vb, lb, e, e1, e6, e7, e8, e9, f1, f2, hz1, hlt2, hk, hpr, hpa, hlk, hkk]; and_intros <;> first | omega | (simp <;> omega)))
          | ((with_reducible show aB _); first | exact True.intro | ((try dsimp only [go_sem]); first | (simp [vb, e, e1, e6, e7, e8, e9, f1, f2, hz1, hlt2, hk, hpr, hpa, hlk, hkk] <;> omega) | (simp only [vb, and_true, true_implies]; (repeat' (first | (with_reducible assumption) | (with_reducible apply And.intro) | intro _ | ((fail_if_success (with_reducible show (_ : Int) ≤ _)); assumption))) <;> first | omega | rfl | (simp only [ab, e, e1, e6, e7, e8, e9, f1, f2, hz1, hlt2, hk, hpr, hpa, hlk, hkk]; done) | (simp [Nat.mul_one, e, e1, e6, e7, e8, e9, f1, f2, hz1, hlt2, hk, hpr, hpa, hlk, hkk] <;> omega) | (simp_all; done))))
          | exact (rfl : some _ = _)
          | (
            fail_if_success refine aK ?_
            refine aV [(132, fun _ => some (.sl ps.length (ps.flatMap dP))), (131, fun _ => some (.nilsl))] [ξ 14 (.int .i64 (fi + k : Nat)), ξ 16 (.agg [.int .i64 x.lo, .int .i64 x.hi]), ξ 20 (.int .i64 kd), ξ 24 (.int .i64 km), ξ 31 (.int .i64 lk), ξ 32 (.bool true), ξ 36 (.bool true), ξ 56 (.int .i64 lk), ξ 49 (.bool true)] ?_
            repeat1' dsimp only [tB, au, aa, go_sem]
            first
            | refine aL ?_ ?_ rfl ?_
            | apply aM
            | apply aN
            | (refine aO (fun hc => ?_) fun hc => ?_ <;> first | (cases hc; done) | (try simp only [bn] at hc; try contradiction))
            | skip))
        rw [jm]
      | some p =>
        unfold tz at hpa
        have hp0 := hpos p rfl
        refine an (C := ctx) (Fn.of ym rfl) rfl ?_
        unfold tB
        repeat' (first
          | ((with_reducible show az _); first | exact True.intro | (simp only [vb, lb, e, e1, e6, e7, e8, e9, f1, f2, hz1, hlt2, hk, hpr, hpa, hlk, hkk, hp0]; and_intros <;> first | omega | (simp <;> omega)))
          | ((with_reducible show aB _); first | exact True.intro | ((try dsimp only [go_sem]); first | (simp [vb, e, e1, e6, e7, e8, e9, f1, f2, hz1, hlt2, hk, hpr, hpa, hlk, hkk, hp0] <;> omega) | (simp only [vb, and_true, true_implies]; (repeat' (first | (with_reducible assumption) | (with_reducible apply And.intro) | intro _ | ((fail_if_success (with_reducible show (_ : Int) ≤ _)); assumption))) <;> first | omega | rfl | (simp only [ab, e, e1, e6, e7, e8, e9, f1, f2, hz1, hlt2, hk, hpr, hpa, hlk, hkk, hp0]; done) | (simp [Nat.mul_one, e, e1, e6, e7, e8, e9, f1, f2, hz1, hlt2, hk, hpr, hpa, hlk, hkk, hp0] <;> omega) | (simp_all; done))))
          | exact (rfl : some _ = _)
          | (
            fail_if_success refine aK ?_
            refine aV [(132, fun _ => some (.sl ps.length (ps.flatMap dP))), (131, fun _ => some (lv p))] [ξ 14 (.int .i64 (fi + k : Nat)), ξ 16 (.agg [.int .i64 x.lo, .int .i64 x.hi]), ξ 20 (.int .i64 kd), ξ 24 (.int .i64 km), ξ 31 (.int .i64 lk), ξ 32 (.bool true), ξ 36 (.bool true), ξ 56 (.int .i64 lk), ξ 49 (.bool true)] ?_
            repeat1' dsimp only [tB, au, aa, go_sem]
            first
            | refine aL ?_ ?_ rfl ?_
            | apply aM
            | apply aN
            | (refine aO (fun hc => ?_) fun hc => ?_ <;> first | (cases hc; done) | (try simp only [bn] at hc; try contradiction))
            | skip))
        rw [jm]
    have hkk' : ¬((kd : Nat) : Int) = ((km : Nat) : Int) := by omega
    cases res with
    | none =>
      obtain rfl : q = false := by rw [Bool.eq_false_iff]; intro h; rw [hcl] at h; simp at h
      simp only [Bool.false_eq_true, if_false]
      unfold tz at hpa
      refine an (C := ctx) (Fn.of ym rfl) rfl ?_
      unfold tB
      repeat' (first
        | ((with_reducible show az _); first | exact True.intro | (simp only [vb, lb, e, e1, e6, e7, e8, e9, f1, f2, hz1, hlt2, hk, hpr, hpa, hlk, hkk, hkk']; and_intros <;> first | omega | (simp <;> omega)))
        | ((with_reducible show aB _); first | exact True.intro | ((try dsimp only [go_sem]); first | (simp [vb, e, e1, e6, e7, e8, e9, f1, f2, hz1, hlt2, hk, hpr, hpa, hlk, hkk, hkk'] <;> omega) | (simp only [vb, and_true, true_implies]; (repeat' (first | (with_reducible assumption) | (with_reducible apply And.intro) | intro _ | ((fail_if_success (with_reducible show (_ : Int) ≤ _)); assumption))) <;> first | omega | rfl | (simp only [ab, e, e1, e6, e7, e8, e9, f1, f2, hz1, hlt2, hk, hpr, hpa, hlk, hkk, hkk']; done) | (simp [Nat.mul_one, e, e1, e6, e7, e8, e9, f1, f2, hz1, hlt2, hk, hpr, hpa, hlk, hkk, hkk'] <;> omega))))
        | exact (rfl : some _ = _)
        | (
          fail_if_success refine aK ?_
          refine aV [(132, fun _ => some (.sl ps.length (ps.flatMap dP))), (131, fun _ => some (.nilsl))] [ξ 14 (.int .i64 (fi + k : Nat)), ξ 16 (.agg [.int .i64 x.lo, .int .i64 x.hi]), ξ 20 (.int .i64 kd), ξ 24 (.int .i64 km), ξ 31 (.int .i64 lk), ξ 32 (.bool true), ξ 36 (.bool false), ξ 56 (.int .i64 lk), ξ 49 (.bool false)] ?_
          repeat1' dsimp only [tB, au, aa, go_sem]
          first
          | refine aL ?_ ?_ rfl ?_
          | apply aM
          | apply aN
          | (refine aO (fun hc => ?_) fun hc => ?_ <;> first | (cases hc; done) | (try simp only [bn] at hc; try contradiction))
          | skip))
    | some p =>
      obtain rfl : q = true := by rw [hcl]; rfl
      simp only [if_true]
      unfold tz at hpa
      have hp0 := hpos p rfl
      refine an (C := ctx) (Fn.of ym rfl) rfl ?_
      unfold tB
      repeat' (first
        | ((with_reducible show az _); first | exact True.intro | (simp only [vb, lb, e, e1, e6, e7, e8, e9, f1, f2, hz1, hlt2, hk, hpr, hpa, hlk, hkk, hkk', hp0]; and_intros <;> first | omega | (simp <;> omega)))
        | ((with_reducible show aB _); first | exact True.intro | ((try dsimp only [go_sem]); first | (simp [vb, e, e1, e6, e7, e8, e9, f1, f2, hz1, hlt2, hk, hpr, hpa, hlk, hkk, hkk', hp0] <;> omega) | (simp only [vb, and_true, true_implies]; (repeat' (first | (with_reducible assumption) | (with_reducible apply And.intro) | intro _ | ((fail_if_success (with_reducible show (_ : Int) ≤ _)); assumption))) <;> first | omega | rfl | (simp only [ab, e, e1, e6, e7, e8, e9, f1, f2, hz1, hlt2, hk, hpr, hpa, hlk, hkk, hkk', hp0]; done) | (simp [Nat.mul_one, e, e1, e6, e7, e8, e9, f1, f2, hz1, hlt2, hk, hpr, hpa, hlk, hkk, hkk', hp0] <;> omega))))
        | exact (rfl : some _ = _)
        | (
          fail_if_success refine aK ?_
          refine aV [(132, fun _ => some (.sl ps.length (ps.flatMap dP))), (131, fun _ => some (lv p))] [ξ 14 (.int .i64 (fi + k : Nat)), ξ 16 (.agg [.int .i64 x.lo, .int .i64 x.hi]), ξ 20 (.int .i64 kd), ξ 24 (.int .i64 km), ξ 31 (.int .i64 lk), ξ 32 (.bool true), ξ 36 (.bool false), ξ 56 (.int .i64 lk), ξ 49 (.bool true)] ?_
          repeat1' dsimp only [tB, au, aa, go_sem]
          first
          | refine aL ?_ ?_ rfl ?_
          | apply aM
          | apply aN
          | (refine aO (fun hc => ?_) fun hc => ?_ <;> first | (cases hc; done) | (try simp only [bn] at hc; try contradiction))
          | skip))
      rw [jm]
  have hxq : (if q = true then (⟨x.lo, min x.hi (lk - 1)⟩ : Rg) else x) = x := by
    split
    · rw [show min x.hi (lk - 1) = x.hi by omega]
    rfl
  rw [hxq]
  refine an (C := ctx) (Fn.of ym rfl) rfl ?_
  unfold tB
  repeat' (first
    | ((with_reducible show az _); first | exact True.intro | (simp only [vb, lb, e, e1, e6, e7, e8, e9, f1, f2, hz1, hlt2, hk, hpr, hpa, hlk]; and_intros <;> first | omega | (simp <;> omega)))
    | ((with_reducible show aB _); first | exact True.intro | ((try dsimp only [go_sem]); first | (simp [vb, e, e1, e6, e7, e8, e9, f1, f2, hz1, hlt2, hk, hpr, hpa, hlk] <;> omega) | (simp only [vb, and_true, true_implies]; (repeat' (first | (with_reducible assumption) | (with_reducible apply And.intro) | intro _ | ((fail_if_success (with_reducible show (_ : Int) ≤ _)); assumption))) <;> first | omega | rfl | (simp only [ab, e, e1, e6, e7, e8, e9, f1, f2, hz1, hlt2, hk, hpr, hpa, hlk]; done) | (simp [Nat.mul_one, e, e1, e6, e7, e8, e9, f1, f2, hz1, hlt2, hk, hpr, hpa, hlk] <;> omega) | (simp_all; done))))
    | exact (rfl : some _ = _)
    | (
      fail_if_success refine aK ?_
      refine aV [(132, fun _ => some (.sl ps.length (ps.flatMap dP))), (131, fun _ => some (.nilsl))] [ξ 14 (.int .i64 (fi + k : Nat)), ξ 16 (.agg [.int .i64 x.lo, .int .i64 x.hi]), ξ 20 (.int .i64 kd), ξ 24 (.int .i64 km), ξ 31 (.int .i64 lk), ξ 32 (.bool false), ξ 36 (.bool false), ξ 56 (.int .i64 lk), ξ 49 (.bool false)] ?_
      repeat1' dsimp only [tB, au, aa, go_sem]
      first
      | refine aL ?_ ?_ rfl ?_
      | apply aM
      | apply aN
      | (refine aO (fun hc => ?_) fun hc => ?_ <;> first | (cases hc; done) | (try simp only [bn] at hc; try contradiction))
      | skip))
end Pur
end
section
namespace Pur
section
open Rf
def jF:av:=(⟨_,by conv=>(lhs;cbv;try simp only[G4,Int.cast_ofNat_Int,Int.reduceNegSucc,UInt8.reduceOfNat])⟩:{x // codeOf Tryz.prog 123 (fun _=>false)=some x}).1
theorem GZ:bo Tryz.prog 123 (fun _=>false)=some (jF,[.cell 8 4 true],141,true):=by kernel_rfl
def AZ:av:=(⟨_,by conv=>(lhs;cbv;try simp only[G4,Int.cast_ofNat_Int,Int.reduceNegSucc,UInt8.reduceOfNat])⟩:{x // (codeOf Tryz.prog 123 (fun _=>false)).map (fun y=>y.sub [1,0,1,0,0,1,0,0,0])=some x}).1
def yn:av:=(⟨_,by conv=>(lhs;cbv;try simp only[G4,Int.cast_ofNat_Int,Int.reduceNegSucc,UInt8.reduceOfNat])⟩:{x // (codeOf Tryz.prog 123 (fun _=>false)).map (fun y=>y.sub [1,0,1,0,0,1,0,0,1,1,0,0,1,0,0])=some x}).1
def yp:av:=(⟨_,by conv=>(lhs;cbv;try simp only[G4,Int.cast_ofNat_Int,Int.reduceNegSucc,UInt8.reduceOfNat])⟩:{x // (codeOf Tryz.prog 123 (fun _=>false)).map (fun y=>y.sub [1,1,0,1,0,0,1,0,0,1,0,0,1,0,0])=some x}).1
def pH (y:Bx):AF:=match y.steps with
 |[]=>[(4,.ptr 0 0 0),(8,.ptr 1 0 0)]
 |_::_=>[(4,.ptr 1 0 0),(8,.ptr 2 0 0)]
def pI (y:Bx):AM:=stM y.steps++[IT 0 y,nH]
theorem gq (b:List Rg) (o f:Bool):pH ⟨[],b,o,f⟩=[(4,.ptr 0 0 0),(8,.ptr 1 0 0)]:=rfl
theorem eC (s:aJ) (l:List aJ) (b:List Rg) (o f:Bool):pH ⟨s::l,b,o,f⟩=[(4,.ptr 1 0 0),(8,.ptr 2 0 0)]:=rfl
theorem iU (b:List Rg) (o f:Bool):pI ⟨[],b,o,f⟩=[⟨[.pv .nilsl,.pv (aa b),.pv (.bool o),.pv (.bool f)],0,4,141,false⟩,nH]:=rfl
theorem gF (s:aJ) (l:List aJ) (b:List Rg) (o f:Bool):pI ⟨s::l,b,o,f⟩=[⟨(s::l).flatMap af |>.map .pv,l.length,3,66,false⟩,⟨[.ref 0 l.length 0 (l.length+1),.pv (aa b),.pv (.bool o),.pv (.bool f)],0,4,141,false⟩,nH]:=rfl
inductive Norm (m:Nat) (base:AF):Bx→AF→AM→Prop
 |std {y:Bx} {f:AF} {junk:AM}:Sub (base++pH y) f→Norm m base y f (pI y++junk)
 |new0 {s:aJ} {l:List aJ} {b:List Rg} {o fi:Bool} {f:AF}:m=0→Sub (base++[(4,.ptr 0 0 0),(8,.ptr 1 0 0)]) f→Norm m base ⟨s::l,b,o,fi⟩ f ([⟨[.ref 2 l.length 0 (l.length+1),.pv (aa b),.pv (.bool o),.pv (.bool fi)],0,4,141,false⟩,nH]++stM (s::l))
 |new1 {s:aJ} {l:List aJ} {b:List Rg} {o fi:Bool} {f:AF} {t:eN}:m=0→Sub (base++[(4,.ptr 0 0 0),(8,.ptr 1 0 0)]) f→Norm m base ⟨s::l,b,o,fi⟩ f ([⟨[.ref 3 l.length 0 (l.length+1),.pv (aa b),.pv (.bool o),.pv (.bool fi)],0,4,141,false⟩,nH,t]++stM (s::l))
theorem tC (y:Bx):aS (pI y) (pI y).length=true:=by
 obtain⟨st,b,o,f⟩:=y;cases st with
 |nil=>rfl
 |cons s l=>simp[pI,stM,Iw,Iv,aS,cZ,Nat.blt]
theorem wc {m:Nat} {base:AF} {y:Bx} {f:AF} {μ:AM} {x:av} {R:Exit→AF→AM→Prop} (h:Norm m base y f μ) (hb:∀p∈base,∃q,p.2= .pv q) (hm:m≤(pI y).length)
  (hk:Aw ctx (fun _=>false) 141 m x R (base++pH y) (pI y)):Aw ctx (fun _=>false) 141 m x R f μ:=by
 have hbp:∀k n,cu base n=true∧gu k base=base:=fun k n=>⟨by
  simp only[cu,List.all_eq_true];intro p hp;obtain⟨q,e⟩:=hb p hp;rw[e];rfl,by
  unfold gu;conv=>rhs;rw[←List.map_id base]
  refine List.map_congr_left fun p hp=>?_
  obtain⟨q,e⟩:=hb p hp;obtain⟨i,a⟩:=p;simp only at e;subst e;rfl⟩
 cases h with
 |std hs =>
  refine bq _ hs (rl hm ?_ (tC y) hk);have h1:=(hbp [] (pI y).length).1;simp only[cu,List.all_append,Bool.and_eq_true]at h1 ⊢;refine⟨h1,?_⟩;obtain⟨st,b,o,f⟩:=y;cases st<;>rfl
 |new0 h0 hs =>
  rename_i s l b o fi;subst h0;refine bq _ hs (iM [2,0,1] rfl ?_);have e1:gu [2,0,1] (base++[(4,.ptr 0 0 0),(8,.ptr 1 0 0)])=base++pH ⟨s::l,b,o,fi⟩:=by
   rw[gu,List.map_append];show gu [2,0,1] base++_=_;rw[(hbp [2,0,1] 0).2];rfl
  have e2:gW [2,0,1] ([⟨[.ref 2 l.length 0 (l.length+1),.pv (aa b),.pv (.bool o),.pv (.bool fi)],0,4,141,false⟩,nH]++stM (s::l))=pI ⟨s::l,b,o,fi⟩:=by
   show[⟨(((s::l).flatMap af).map AV.pv).map (dx [2,0,1] 3),l.length,3,66,false⟩,⟨[.ref 0 l.length 0 (l.length+1),.pv (aa b),.pv (.bool o),.pv (.bool fi)],0,4,141,false⟩,nH]=_;rw[l8];rfl
  rw[e1,e2];exact hk
 |new1 h0 hs =>
  rename_i s l b o fi t;subst h0;refine bq _ hs (iM [3,0,1] rfl ?_);have e1:gu [3,0,1] (base++[(4,.ptr 0 0 0),(8,.ptr 1 0 0)])=base++pH ⟨s::l,b,o,fi⟩:=by
   rw[gu,List.map_append];show gu [3,0,1] base++_=_;rw[(hbp [3,0,1] 0).2];rfl
  have e2:gW [3,0,1] ([⟨[.ref 3 l.length 0 (l.length+1),.pv (aa b),.pv (.bool o),.pv (.bool fi)],0,4,141,false⟩,nH,t]++stM (s::l))=pI ⟨s::l,b,o,fi⟩:=by
   show[⟨(((s::l).flatMap af).map AV.pv).map (dx [3,0,1] 3),l.length,3,66,false⟩,⟨[.ref 0 l.length 0 (l.length+1),.pv (aa b),.pv (.bool o),.pv (.bool fi)],0,4,141,false⟩,nH]=_;rw[l8];rfl
  rw[e1,e2];exact hk
theorem tD (l:List Rw) (i:Nat) (h:i<l.length):(l.flatMap cg)[i*2]?.getD default=ar (l.getD i zw).terms:=by
 have:=bK ib l i zw 0 h (by omega);rw[Nat.add_zero]at this;rw[this];rfl
theorem IE (l:List Rw) (i:Nat) (h:i<l.length):(l.flatMap cg)[i*2+1]?.getD default= .int .i64 (l.getD i zw).bound:=by
 rw[bK ib l i zw 1 h (by omega)];rfl
def kB (rows:List Rw) (gs:List Gr) (bud:Int):AF:=[(1,.pv (ae rows)),(2,.pv (ai gs)),(3,.pv (.int .i64 bud))]
theorem Ew {m:Nat} {R:Exit→AF→AM→Prop} (rows:List Rw) (gs:List Gr) (bud:Int) (i:Nat) (y:Bx) (hi:i<rows.length) (hr:rows.length≤1000000000) (ht:(rows.getD i zw).terms.length≤1000000000) (hb:y.box.length≤1000000000) (hl:y.steps.length≤1000000000) (hm:y.steps=[]→m=0) (hm2:m≤(pI y).length)
  (hk:∀f μ,Norm m (kB rows gs bud++[(9,.pv (.int .i64 i))]) (mf i (rows.getD i zw) bud y) f μ→R .normal f μ) :
  Aw ctx (fun _=>false) 141 m AZ R (kB rows gs bud++[(9,.pv (.int .i64 i))]++pH y) (pI y):=by
 have e1:=tD rows i hi;have e2:=IE rows i hi;have f1:=da rows;unfold mf at hk;generalize rows.getD i zw=q at *;obtain⟨ts,bd⟩:=q;obtain⟨st,b,o,fi⟩:=y;simp only at hb hl hm ht hk e1 e2;have f2:=fG ts;unfold kB at hk ⊢;by_cases h1:o=true∧ts=[]∧bd<0
 ·rw[if_pos h1]at hk;obtain⟨rfl,rfl,h3⟩:=h1;have e1:(rows.flatMap cg)[i*2]?.getD default=PV.sl 0 []:=e1;cases st with
  |nil =>
   obtain rfl:=hm rfl;have hn:=tu [⟨[.pv .nilsl,.pv (aa b),.pv (.bool true),.pv (.bool fi)],0,4,141,false⟩,nH] b true fi 0 i (-1) zr bud hb;generalize eM ⟨[],b,true,fi⟩ 0 i (-1) zr bud=z at *;obtain⟨zs',zb,zo,zf⟩:=z;simp only[gq,iU,List.cons_append,List.nil_append]at hk ⊢;unfold AZ;cases zs' with
   |nil =>
    simp only[j6,kR,List.append_nil]at hn;unfold aa at hn;repeat' (first|((with_reducible show az _);(simp only[vb,lb,e1,e2,f1,hi,h3,hn,ar];and_intros<;>first|omega|(simp<;>omega)))|((with_reducible show aB _);((try dsimp only[go_sem]);(simp only[vb,and_true,true_implies];(repeat' (first|(with_reducible assumption)|(with_reducible apply And.intro)|intro _|((fail_if_success (with_reducible show(_:Int)≤_));assumption)))<;>first|omega|(simp only[ab,e1,e2,f1,hi,h3,hn,ar];done))))|exact(rfl:some _=_)|((fail_if_success refine aK ?_);refine bw [ξ 30 (.sl 0 []),ξ 39 (.int .i64 bd),(46,{val:=some (.pv (.agg [.nilsl,.sl zb.length (zb.flatMap bS),.bool zo,.bool zf])),ro:=true})] ?_;(repeat1' dsimp only[jF,aa,ae,ai,go_sem]);first|refine aL ?_ ?_ rfl ?_|apply aM|apply aN|(refine aO (fun hc=>?_) fun hc=>?_<;>first|(cases hc;done)|(exfalso;(simp at hc<;>omega))|(try simp only[bn]at hc;try contradiction))|skip))
    refine hk _ _ (.std (junk:=[]) ?_);simp only[gq,List.cons_append,List.nil_append];exact(by (repeat' (first|exact trivial|refine And.intro (by first|rfl|(simp[get,Nat.beq]<;>omega)|(dsimp only[get];congr 1<;>first|rfl|omega|(simp<;>omega))) ?_)))
   |cons z0 zl =>
    simp only[dJ,dI]at hn;unfold aa at hn;repeat' (first|((with_reducible show az _);(simp only[vb,lb,e1,e2,f1,hi,h3,hn,ar];and_intros<;>first|omega|(simp<;>omega)))|((with_reducible show aB _);((try dsimp only[go_sem]);(simp only[vb,and_true,true_implies];(repeat' (first|(with_reducible assumption)|(with_reducible apply And.intro)|intro _|((fail_if_success (with_reducible show(_:Int)≤_));assumption)))<;>first|omega|(simp only[ab,e1,e2,f1,hi,h3,hn,ar];done))))|exact(rfl:some _=_)|((fail_if_success refine aK ?_);refine bw [ξ 30 (.sl 0 []),ξ 39 (.int .i64 bd),(46,{val:=some (.agg [.ref 2 zl.length 0 (zl.length+1),.pv (.sl zb.length (zb.flatMap bS)),.pv (.bool zo),.pv (.bool zf)]),mem:=some ([⟨[.pv .nilsl,.pv (.sl b.length (b.flatMap bS)),.pv (.bool true),.pv (.bool fi)],0,4,141,false⟩,nH]++[⟨(z0::zl).flatMap af |>.map .pv,zl.length,3,66,false⟩])})] ?_;(repeat1' dsimp only[jF,aa,ae,ai,go_sem]);first|refine aL ?_ ?_ rfl ?_|apply aM|apply aN|(refine aO (fun hc=>?_) fun hc=>?_<;>first|(cases hc;done)|(exfalso;(simp at hc<;>omega))|(try simp only[bn]at hc;try contradiction))|skip))
    refine hk _ _ (.new0 rfl ?_);exact(by (repeat' (first|exact trivial|refine And.intro (by first|rfl|(simp[get,Nat.beq]<;>omega)|(dsimp only[get];congr 1<;>first|rfl|omega|(simp<;>omega))) ?_)))
  |cons s0 l =>
   have hne:=(gE ⟨s0::l,b,true,fi⟩ 0 i (-1) zr bud).1;have hn:=tv s0 l [⟨[.ref 0 l.length 0 (l.length+1),.pv (aa b),.pv (.bool true),.pv (.bool fi)],0,4,141,false⟩,nH] b true fi 0 i (-1) zr bud hb (by simp at hl;omega);generalize eM ⟨s0::l,b,true,fi⟩ 0 i (-1) zr bud=z at *;obtain⟨zs',zb,zo,zf⟩:=z;simp only[eC,gF,List.cons_append,List.nil_append]at hk ⊢;unfold AZ;cases zs' with
   |nil=>simp at hne
   |cons z0 zl =>
    simp only[dJ,dI,List.cons_append,List.nil_append]at hn;unfold aa at hn;repeat' (first|((with_reducible show az _);(simp only[vb,lb,e1,e2,f1,hi,h3,hn,ar];and_intros<;>first|omega|(simp<;>omega)))|((with_reducible show aB _);((try dsimp only[go_sem]);(simp only[vb,and_true,true_implies];(repeat' (first|(with_reducible assumption)|(with_reducible apply And.intro)|intro _|((fail_if_success (with_reducible show(_:Int)≤_));assumption)))<;>first|omega|(simp only[ab,e1,e2,f1,hi,h3,hn,ar];done))))|exact(rfl:some _=_)|((fail_if_success refine aK ?_);refine bw [ξ 30 (.sl 0 []),ξ 39 (.int .i64 bd),(46,{val:=some (.agg [.ref 0 zl.length 0 (zl.length+1),.pv (.sl zb.length (zb.flatMap bS)),.pv (.bool zo),.pv (.bool zf)]),mem:=some [⟨(z0::zl).flatMap af |>.map .pv,zl.length,3,66,false⟩,⟨[.ref 0 l.length 0 (l.length+1),.pv (.sl b.length (b.flatMap bS)),.pv (.bool true),.pv (.bool fi)],0,4,141,false⟩,nH]})] ?_;(repeat1' dsimp only[jF,aa,ae,ai,go_sem]);first|refine aL ?_ ?_ rfl ?_|apply aM|apply aN|(refine aO (fun hc=>?_) fun hc=>?_<;>first|(cases hc;done)|(exfalso;(simp at hc<;>omega))|(try simp only[bn]at hc;try contradiction))|skip))
    refine hk _ _ (.std (junk:=[]) ?_);simp only[eC,List.cons_append,List.nil_append];exact(by (repeat' (first|exact trivial|refine And.intro (by first|rfl|(simp[get,Nat.beq]<;>omega)|(dsimp only[get];congr 1<;>first|rfl|omega|(simp<;>omega))) ?_)))
 rw[if_neg h1]at hk;have hk:∀(f:AF) (junk:AM),Sub (kB rows gs bud++[(9,.pv (.int .i64 i))]++pH ⟨st,b,o,fi⟩) f→R .normal f (pI ⟨st,b,o,fi⟩++junk):=fun f junk hs=>hk _ _ (.std hs)
 unfold kB at hk;unfold AZ;cases o with
 |false =>
  cases st;all_goals
   simp only[gq,iU,eC,gF,List.cons_append,List.nil_append]at hk ⊢;repeat' (first|((with_reducible show az _);(simp only[vb,lb,e1,e2,f1,hi,ar];and_intros<;>first|omega|(simp<;>omega)))|((with_reducible show aB _);((try dsimp only[go_sem]);(simp[vb,e1,e2,f1,hi,ar]<;>omega)))|exact(rfl:some _=_)|((fail_if_success refine aK ?_);refine bw [ξ 30 (.sl ts.length (ts.flatMap gZ)),ξ 39 (.int .i64 bd)] ?_;(repeat1' dsimp only[jF,aa,ae,ai,go_sem]);first|refine aL ?_ ?_ rfl ?_|apply aM|apply aN|(refine aO (fun hc=>?_) fun hc=>?_<;>first|(cases hc;done)|(try simp only[bn]at hc;try contradiction))|skip))
   refine hk _ [] ?_;exact(by (repeat' (first|exact trivial|refine And.intro (by first|rfl|(simp[get,Nat.beq]<;>omega)|(dsimp only[get];congr 1<;>first|rfl|omega|(simp<;>omega))) ?_)))
 |true =>
  by_cases h2:ts=[]
  ·subst h2;have h3:¬bd<0:=fun h=>h1 ⟨rfl,rfl,h⟩
   have e1:(rows.flatMap cg)[i*2]?.getD default=PV.sl 0 []:=e1;cases st;all_goals
    simp only[gq,iU,eC,gF,List.cons_append,List.nil_append]at hk ⊢;repeat' (first|((with_reducible show az _);(simp only[vb,lb,e1,e2,f1,hi,h3,ar];and_intros<;>first|omega|(simp<;>omega)))|((with_reducible show aB _);((try dsimp only[go_sem]);(simp only[vb,and_true,true_implies];(repeat' (first|(with_reducible assumption)|(with_reducible apply And.intro)|intro _|((fail_if_success (with_reducible show(_:Int)≤_));assumption)))<;>first|omega|(simp only[ab,e1,e2,f1,hi,h3,ar];done))))|exact(rfl:some _=_)|((fail_if_success refine aK ?_);refine bw [ξ 30 (.sl 0 []),ξ 39 (.int .i64 bd)] ?_;(repeat1' dsimp only[jF,aa,ae,ai,go_sem]);first|refine aL ?_ ?_ rfl ?_|apply aM|apply aN|(refine aO (fun hc=>?_) fun hc=>?_<;>first|(cases hc;done)|(exfalso;(simp at hc<;>omega))|(try simp only[bn]at hc;try contradiction))|skip))
    refine hk _ [] ?_;exact(by (repeat' (first|exact trivial|refine And.intro (by first|rfl|(simp[get,Nat.beq]<;>omega)|(dsimp only[get];congr 1<;>first|rfl|omega|(simp<;>omega))) ?_)))
  have h3:¬(ts.length:Int)=0:=by
   have:=List.length_pos_iff.mpr h2;omega
  cases st;all_goals
   simp only[gq,iU,eC,gF,List.cons_append,List.nil_append]at hk ⊢;repeat' (first|((with_reducible show az _);(simp only[vb,lb,e1,e2,f1,hi,h3,ar];and_intros<;>first|omega|(simp<;>omega)))|((with_reducible show aB _);((try dsimp only[go_sem]);(simp only[vb,and_true,true_implies];(repeat' (first|(with_reducible assumption)|(with_reducible apply And.intro)|intro _|((fail_if_success (with_reducible show(_:Int)≤_));assumption)))<;>first|omega|(simp only[ab,e1,e2,f1,hi,h3,ar];done)|(simp[Nat.mul_one,e1,e2,f1,hi,h3,ar]<;>omega))))|exact(rfl:some _=_)|((fail_if_success refine aK ?_);refine bw [ξ 30 (.sl ts.length (ts.flatMap gZ)),ξ 33 (.bool false),ξ 39 (.int .i64 bd)] ?_;(repeat1' dsimp only[jF,aa,ae,ai,go_sem]);first|refine aL ?_ ?_ rfl ?_|apply aM|apply aN|(refine aO (fun hc=>?_) fun hc=>?_<;>first|(cases hc;done)|(try simp only[bn]at hc;try contradiction))|skip))
   refine hk _ [] ?_;exact(by (repeat' (first|exact trivial|refine And.intro (by first|rfl|(simp[get,Nat.beq]<;>omega)|(dsimp only[get];congr 1<;>first|rfl|omega|(simp<;>omega))) ?_)))
end
section
open Rf
theorem Gc {m:Nat} {R:Exit→AF→AM→Prop} (rows:List Rw) (gs:List Gr) (bud:Int) (i k:Nat) (y:Bx) (hi:i<rows.length) (hkt:k<(rows.getD i zw).terms.length) (ht:(rows.getD i zw).terms.length≤1000000000) (hb:y.box.length≤1000000000) (hc0:0≤((rows.getD i zw).terms.getD k zm).cell) (hc1:((rows.getD i zw).terms.getD k zm).cell<y.box.length) (hl:y.steps.length≤1000000000) (hm:y.steps=[]→m=0)
  (hk:∀f μ,Norm m (kB rows gs bud++[(9,.pv (.int .i64 i)),(10,.pv (.int .i64 k))]) (qP i (rows.getD i zw) bud ((rows.getD i zw).terms.getD k zm) y) f μ→R .normal f μ) :
  Aw ctx (fun _=>false) 141 m yn R (kB rows gs bud++[(9,.pv (.int .i64 i)),(10,.pv (.int .i64 k))]++pH y) (pI y):=by
 have e0:=bQ ib rows i zw hi;have e1:=tD rows i hi;have f1:=da rows;have hti:=tU y.box (rows.getD i zw) ((rows.getD i zw).terms.getD k zm).cell hb ht;unfold qP at hk;generalize rows.getD i zw=rq at *;obtain⟨ts,bd⟩:=rq;obtain⟨st,b,o,fi⟩:=y;simp only at hb hl hm ht hk e0 e1 hkt hc0 hc1 hti;have f2:=fG ts;have e3:=Gb ts k hkt;generalize (ts.getD k zm).cell=c at *;obtain⟨cn,rfl⟩:∃cn:Nat,c=cn:=⟨c.toNat,by omega⟩
 have hcb:cn<b.length:=by omega
 have e4:=iR b (cn:Int) (by omega) hc1;rw[Int.toNat_natCast]at e4 hk;have f3:=bJ b;generalize b9 ⟨ts,bd⟩ b cn=r at *;generalize b.getD cn zr=cur at *;unfold ar aa at hti;unfold kB at hk ⊢;cases o with
 |false =>
  rw[if_neg (fun h=>by cases h.1)]at hk;have hk:∀(f:AF) (junk:AM),Sub (kB rows gs bud++[(9,.pv (.int .i64 i)),(10,.pv (.int .i64 k))]++pH ⟨st,b,false,fi⟩) f→R .normal f (pI ⟨st,b,false,fi⟩++junk):=fun f junk hs=>hk _ _ (.std hs)
  unfold kB at hk;unfold yn;cases st;all_goals
   simp only[gq,iU,eC,gF,List.cons_append,List.nil_append]at hk ⊢;repeat' (first|((with_reducible show az _);(simp only[vb,lb,e0,e1,e3,f1,f2,hi,hkt,cg,ar];and_intros<;>first|omega|(simp<;>omega)))|((with_reducible show aB _);first|exact True.intro|((try dsimp only[go_sem]);(simp only[vb,and_true,true_implies];(repeat' (first|(with_reducible assumption)|(with_reducible apply And.intro)|intro _|((fail_if_success (with_reducible show(_:Int)≤_));assumption)))<;>(simp only[ab,e0,e1,e3,f1,f2,hi,hkt,cg,ar];done))))|exact(rfl:some _=_)|((fail_if_success refine aK ?_);refine bw [ξ 61 (.sl ts.length (ts.flatMap gZ)),ξ 65 (.int .i64 cn)] ?_;(repeat1' dsimp only[jF,aa,ae,ai,ar,au,go_sem]);first|refine aL ?_ ?_ rfl ?_|apply aM|apply aN|(refine aO (fun hc=>?_) fun hc=>?_<;>first|(cases hc;done)|(try simp only[bn]at hc;try contradiction))|skip))
   refine hk _ [] ?_;exact(by (repeat' (first|exact trivial|refine And.intro (by first|rfl|(simp[get,Nat.beq]<;>omega)|(dsimp only[get];congr 1<;>first|rfl|omega|(simp<;>omega))) ?_)))
 |true =>
  by_cases hq:r=cur
  ·subst hq;rw[if_neg (fun h=>h.2 rfl)]at hk;have hk:∀(f:AF) (junk:AM),Sub (kB rows gs bud++[(9,.pv (.int .i64 i)),(10,.pv (.int .i64 k))]++pH ⟨st,b,true,fi⟩) f→R .normal f (pI ⟨st,b,true,fi⟩++junk):=fun f junk hs=>hk _ _ (.std hs)
   unfold kB at hk;unfold yn;cases st;all_goals
    simp only[gq,iU,eC,gF,List.cons_append,List.nil_append]at hk ⊢;repeat' (first|((with_reducible show az _);(simp only[vb,lb,e0,e1,e3,f1,f2,hi,hkt,cg,ar,e4,f3,hcb,hti];and_intros<;>first|omega|(simp<;>omega)))|((with_reducible show aB _);first|exact True.intro|((try dsimp only[go_sem]);first|(simp[vb,e0,e1,e3,f1,f2,hi,hkt,cg,ar,e4,f3,hcb,hti]<;>omega)|(simp only[vb,and_true,true_implies];(repeat' (first|(with_reducible assumption)|(with_reducible apply And.intro)|intro _|((fail_if_success (with_reducible show(_:Int)≤_));assumption)))<;>(simp only[ab,e0,e1,e3,f1,f2,hi,hkt,cg,ar,e4,f3,hcb,hti];done))))|exact(rfl:some _=_)|((fail_if_success refine aK ?_);refine aV [(109,fun _=>some (.agg [.int .i64 r.lo,.int .i64 r.hi]))] [ξ 61 (.sl ts.length (ts.flatMap gZ)),ξ 65 (.int .i64 cn),ξ 71 (.agg [.sl ts.length (ts.flatMap gZ),.int .i64 bd]),ξ 81 (.agg [.int .i64 r.lo,.int .i64 r.hi])] ?_;(repeat1' dsimp only[jF,aa,ae,ai,ar,au,go_sem]);first|refine aL ?_ ?_ rfl ?_|apply aM|apply aN|(refine aO (fun hc=>?_) fun hc=>?_<;>first|(cases hc;done)|(exfalso;(simp at hc<;>omega))|(try simp only[bn]at hc;try contradiction))|skip))
    refine hk _ [_] ?_;exact(by (repeat' (first|exact trivial|refine And.intro (by first|rfl|(simp[get,Nat.beq]<;>omega)|(dsimp only[get];congr 1<;>first|rfl|omega|(simp<;>omega))) ?_)))
  rw[if_pos ⟨rfl,hq⟩]at hk;obtain⟨p,q,hp,hqq,hpq⟩:∃p q:Bool,(r.lo==cur.lo)=p∧(r.hi==cur.hi)=q∧(p&&q)=false:=by
   refine⟨_,_,rfl,rfl,?_⟩;rw[Bool.eq_false_iff];intro h;simp only[Bool.and_eq_true,beq_iff_eq]at h;obtain⟨r1,r2⟩:=r;obtain⟨c1,c2⟩:=cur;simp only at h;exact hq (by rw[h.1,h.2])
  cases st with
  |nil =>
   obtain rfl:=hm rfl;have hn:=tu [⟨[.pv .nilsl,.pv (aa b),.pv (.bool true),.pv (.bool fi)],0,4,141,false⟩,nH,⟨[.pv (.int .i64 r.lo),.pv (.int .i64 r.hi)],0,2,57,false⟩] b true fi 0 i cn r bud hb;generalize eM ⟨[],b,true,fi⟩ 0 i cn r bud=z at *;obtain⟨zs',zb,zo,zf⟩:=z;simp only[gq,iU,List.cons_append,List.nil_append]at hk ⊢;unfold yn;cases zs' with
   |nil =>
    simp only[j6,kR,List.append_nil]at hn;unfold aa at hn;cases p<;>cases q<;>try (simp at hpq;done)
    all_goals
     repeat' (first|((with_reducible show az _);(simp only[vb,lb,e0,e1,e3,f1,f2,hi,hkt,cg,ar,e4,f3,hcb,hti,hp,hqq,hn];and_intros<;>first|omega|(simp<;>omega)))|((with_reducible show aB _);first|exact True.intro|((try dsimp only[go_sem]);first|(simp[vb,e0,e1,e3,f1,f2,hi,hkt,cg,ar,e4,f3,hcb,hti,hp,hqq,hn]<;>omega)|(simp only[vb,and_true,true_implies];(repeat' (first|(with_reducible assumption)|(with_reducible apply And.intro)|intro _|((fail_if_success (with_reducible show(_:Int)≤_));assumption)))<;>(simp only[ab,e0,e1,e3,f1,f2,hi,hkt,cg,ar,e4,f3,hcb,hti,hp,hqq,hn];done))))|exact(rfl:some _=_)|((fail_if_success refine aK ?_);refine aV [(109,fun _=>some (.agg [.int .i64 r.lo,.int .i64 r.hi]))] [ξ 61 (.sl ts.length (ts.flatMap gZ)),ξ 65 (.int .i64 cn),ξ 71 (.agg [.sl ts.length (ts.flatMap gZ),.int .i64 bd]),ξ 81 (.agg [.int .i64 cur.lo,.int .i64 cur.hi]),(88,{val:=some (.pv (.agg [.nilsl,.sl zb.length (zb.flatMap bS),.bool zo,.bool zf])),ro:=true})] ?_;(repeat1' dsimp only[jF,aa,ae,ai,ar,au,go_sem]);first|refine aL ?_ ?_ rfl ?_|apply aM|apply aN|(refine aO (fun hc=>?_) fun hc=>?_<;>first|(cases hc;done)|(exfalso;(simp[e0,e1,e3,f1,f2,hi,hkt,cg,ar,e4,f3,hcb,hti,hp,hqq,hn]at hc;done))|(try simp only[bn]at hc;try contradiction))|skip))
     refine hk _ _ (.std (junk:=[_]) ?_);simp only[gq,List.cons_append,List.nil_append];exact(by (repeat' (first|exact trivial|refine And.intro (by first|rfl|(simp[get,Nat.beq]<;>omega)|(dsimp only[get];congr 1<;>first|rfl|omega|(simp<;>omega))) ?_)))
   |cons z0 zl =>
    simp only[dJ,dI]at hn;unfold aa at hn;cases p<;>cases q<;>try (simp at hpq;done)
    all_goals
     repeat' (first|((with_reducible show az _);(simp only[vb,lb,e0,e1,e3,f1,f2,hi,hkt,cg,ar,e4,f3,hcb,hti,hp,hqq,hn];and_intros<;>first|omega|(simp<;>omega)))|((with_reducible show aB _);first|exact True.intro|((try dsimp only[go_sem]);first|(simp[vb,e0,e1,e3,f1,f2,hi,hkt,cg,ar,e4,f3,hcb,hti,hp,hqq,hn]<;>omega)|(simp only[vb,and_true,true_implies];(repeat' (first|(with_reducible assumption)|(with_reducible apply And.intro)|intro _|((fail_if_success (with_reducible show(_:Int)≤_));assumption)))<;>(simp only[ab,e0,e1,e3,f1,f2,hi,hkt,cg,ar,e4,f3,hcb,hti,hp,hqq,hn];done))))|exact(rfl:some _=_)|((fail_if_success refine aK ?_);refine aV [(109,fun _=>some (.agg [.int .i64 r.lo,.int .i64 r.hi]))] [ξ 61 (.sl ts.length (ts.flatMap gZ)),ξ 65 (.int .i64 cn),ξ 71 (.agg [.sl ts.length (ts.flatMap gZ),.int .i64 bd]),ξ 81 (.agg [.int .i64 cur.lo,.int .i64 cur.hi]),(88,{val:=some (.agg [.ref 3 zl.length 0 (zl.length+1),.pv (.sl zb.length (zb.flatMap bS)),.pv (.bool zo),.pv (.bool zf)]),mem:=some ([⟨[.pv .nilsl,.pv (.sl b.length (b.flatMap bS)),.pv (.bool true),.pv (.bool fi)],0,4,141,false⟩,nH,⟨[.pv (.int .i64 r.lo),.pv (.int .i64 r.hi)],0,2,57,false⟩]++[⟨(z0::zl).flatMap af |>.map .pv,zl.length,3,66,false⟩])})] ?_;(repeat1' dsimp only[jF,aa,ae,ai,ar,au,go_sem]);first|refine aL ?_ ?_ rfl ?_|apply aM|apply aN|(refine aO (fun hc=>?_) fun hc=>?_<;>first|(cases hc;done)|(exfalso;(simp[e0,e1,e3,f1,f2,hi,hkt,cg,ar,e4,f3,hcb,hti,hp,hqq,hn]at hc;done))|(try simp only[bn]at hc;try contradiction))|skip))
     refine hk _ _ (.new1 rfl ?_);exact(by (repeat' (first|exact trivial|refine And.intro (by first|rfl|(simp[get,Nat.beq]<;>omega)|(dsimp only[get];congr 1<;>first|rfl|omega|(simp<;>omega))) ?_)))
  |cons s0 l =>
   have hne:=(gE ⟨s0::l,b,true,fi⟩ 0 i cn r bud).1;have hn:=tv s0 l [⟨[.ref 0 l.length 0 (l.length+1),.pv (aa b),.pv (.bool true),.pv (.bool fi)],0,4,141,false⟩,nH,⟨[.pv (.int .i64 r.lo),.pv (.int .i64 r.hi)],0,2,57,false⟩] b true fi 0 i cn r bud hb (by simp at hl;omega);generalize eM ⟨s0::l,b,true,fi⟩ 0 i cn r bud=z at *;obtain⟨zs',zb,zo,zf⟩:=z;simp only[eC,gF,List.cons_append,List.nil_append]at hk ⊢;unfold yn;cases zs' with
   |nil=>simp at hne
   |cons z0 zl =>
    simp only[dJ,dI,List.cons_append,List.nil_append]at hn;unfold aa at hn;cases p<;>cases q<;>try (simp at hpq;done)
    all_goals
     repeat' (first|((with_reducible show az _);(simp only[vb,lb,e0,e1,e3,f1,f2,hi,hkt,cg,ar,e4,f3,hcb,hti,hp,hqq,hn];and_intros<;>first|omega|(simp<;>omega)))|((with_reducible show aB _);first|exact True.intro|((try dsimp only[go_sem]);first|(simp[vb,e0,e1,e3,f1,f2,hi,hkt,cg,ar,e4,f3,hcb,hti,hp,hqq,hn]<;>omega)|(simp only[vb,and_true,true_implies];(repeat' (first|(with_reducible assumption)|(with_reducible apply And.intro)|intro _|((fail_if_success (with_reducible show(_:Int)≤_));assumption)))<;>(simp only[ab,e0,e1,e3,f1,f2,hi,hkt,cg,ar,e4,f3,hcb,hti,hp,hqq,hn];done))))|exact(rfl:some _=_)|((fail_if_success refine aK ?_);refine aV [(109,fun _=>some (.agg [.int .i64 r.lo,.int .i64 r.hi]))] [ξ 61 (.sl ts.length (ts.flatMap gZ)),ξ 65 (.int .i64 cn),ξ 71 (.agg [.sl ts.length (ts.flatMap gZ),.int .i64 bd]),ξ 81 (.agg [.int .i64 cur.lo,.int .i64 cur.hi]),(88,{val:=some (.agg [.ref 0 zl.length 0 (zl.length+1),.pv (.sl zb.length (zb.flatMap bS)),.pv (.bool zo),.pv (.bool zf)]),mem:=some [⟨(z0::zl).flatMap af |>.map .pv,zl.length,3,66,false⟩,⟨[.ref 0 l.length 0 (l.length+1),.pv (.sl b.length (b.flatMap bS)),.pv (.bool true),.pv (.bool fi)],0,4,141,false⟩,nH,⟨[.pv (.int .i64 r.lo),.pv (.int .i64 r.hi)],0,2,57,false⟩]})] ?_;(repeat1' dsimp only[jF,aa,ae,ai,ar,au,go_sem]);first|refine aL ?_ ?_ rfl ?_|apply aM|apply aN|(refine aO (fun hc=>?_) fun hc=>?_<;>first|(cases hc;done)|(exfalso;(simp[e0,e1,e3,f1,f2,hi,hkt,cg,ar,e4,f3,hcb,hti,hp,hqq,hn]at hc;done))|(try simp only[bn]at hc;try contradiction))|skip))
     refine hk _ _ (.std (junk:=[_]) ?_);simp only[eC,List.cons_append,List.nil_append];exact(by (repeat' (first|exact trivial|refine And.intro (by first|rfl|(simp[get,Nat.beq]<;>omega)|(dsimp only[get];congr 1<;>first|rfl|omega|(simp<;>omega))) ?_)))
theorem Gd {m:Nat} {R:Exit→AF→AM→Prop} (rows:List Rw) (gs:List Gr) (bud:Int) (i k:Nat) (y:Bx) (hi:i<gs.length) (hkt:k<(gs.getD i zg).least.length) (hgo:bj y.box.length (gs.getD i zg)=true) (hbo:bp y.box=true) (hl:y.steps.length≤1000000000) (hm:y.steps=[]→m=0)
  (hk:∀f μ,Norm m (kB rows gs bud++[(13,.pv (.int .i64 i)),(14,.pv (.int .i64 k))]) (qQ i (gs.getD i zg) bud k y) f μ→R .normal f μ) :
  Aw ctx (fun _=>false) 141 m yp R (kB rows gs bud++[(13,.pv (.int .i64 i)),(14,.pv (.int .i64 k))]++pH y) (pI y):=by
 have e0:=bQ l6 gs i zg hi;have e1:(gs.flatMap jK)[i*3]?.getD default= .int .i64 (gs.getD i zg).first:=by
  have:=bK l6 gs i zg 0 hi (by omega);rw[Nat.add_zero]at this;rw[this];rfl
 have f1:=pj gs;have hti:=Ev y.box (gs.getD i zg) k hgo hbo hkt;have hb:y.box.length≤1000000000:=by
  simp only[bp,Bool.and_eq_true,decide_eq_true_eq]at hbo;omega
 unfold qQ at hk;generalize gs.getD i zg=g at *;simp only[bj,aC,Bool.and_eq_true,decide_eq_true_eq]at hgo;obtain⟨⟨⟨⟨⟨g1,g2⟩,g3⟩,g4⟩,g5⟩,g6⟩:=hgo;have hsq:=nz g1 g2;obtain⟨st,b,o,fi⟩:=y;simp only at hb hl hm hk hti g4;obtain⟨fs,hfs⟩:∃fs:Nat,g.first=fs:=⟨g.first.toNat,by omega⟩
 obtain⟨_,sz,le⟩:=g;simp only at *;subst hfs;rw[Int.toNat_natCast]at hk;have hcb:fs+k<b.length:=by omega
 have hcn:(fs:Int)+k=((fs+k:Nat):Int):=by simp
 have e4:=iR b ((fs+k:Nat):Int) (by omega) (by omega);rw[Int.toNat_natCast]at e4;have f3:=bJ b;rw[hcn]at hk;generalize l5 ⟨fs,sz,le⟩ b k=r at *;generalize b.getD (fs+k) zr=cur at *;unfold au aa at hti;unfold kB at hk ⊢;cases o with
 |false =>
  rw[if_neg (fun h=>by cases h.1)]at hk;have hk:∀(f:AF) (junk:AM),Sub (kB rows gs bud++[(13,.pv (.int .i64 i)),(14,.pv (.int .i64 k))]++pH ⟨st,b,false,fi⟩) f→R .normal f (pI ⟨st,b,false,fi⟩++junk):=fun f junk hs=>hk _ _ (.std hs)
  unfold kB at hk;unfold yp;cases st;all_goals
   simp only[gq,iU,eC,gF,List.cons_append,List.nil_append]at hk ⊢;repeat' (first|((with_reducible show az _);(simp only[vb,lb,e0,e1,f1,hi,jK,au];and_intros<;>first|omega|(simp<;>omega)))|((with_reducible show aB _);first|exact True.intro|((try dsimp only[go_sem]);(simp only[vb,and_true,true_implies];(repeat' (first|(with_reducible assumption)|(with_reducible apply And.intro)|intro _|((fail_if_success (with_reducible show(_:Int)≤_));assumption)))<;>first|rfl|(simp only[ab,e0,e1,f1,hi,jK,au];done))))|exact(rfl:some _=_)|((fail_if_success refine aK ?_);refine bw [ξ 114 (.int .i64 fs),ξ 116 (.int .i64 (fs+k:Nat))] ?_;(repeat1' dsimp only[jF,aa,ae,ai,ar,au,go_sem]);first|refine aL ?_ ?_ rfl ?_|apply aM|apply aN|(refine aO (fun hc=>?_) fun hc=>?_<;>first|(cases hc;done)|(try simp only[bn]at hc;try contradiction))|skip))
   refine hk _ [] ?_;exact(by (repeat' (first|exact trivial|refine And.intro (by first|rfl|(simp[get,Nat.beq]<;>omega)|(dsimp only[get];congr 1<;>first|rfl|omega|(simp<;>omega))) ?_)))
 |true =>
  by_cases hq:r=cur
  ·subst hq;rw[if_neg (fun h=>h.2 rfl)]at hk;have hk:∀(f:AF) (junk:AM),Sub (kB rows gs bud++[(13,.pv (.int .i64 i)),(14,.pv (.int .i64 k))]++pH ⟨st,b,true,fi⟩) f→R .normal f (pI ⟨st,b,true,fi⟩++junk):=fun f junk hs=>hk _ _ (.std hs)
   unfold kB at hk;unfold yp;cases st;all_goals
    simp only[gq,iU,eC,gF,List.cons_append,List.nil_append]at hk ⊢;repeat' (first|((with_reducible show az _);(simp only[vb,lb,e0,e1,f1,hi,jK,au,e4,f3,hcb,hti];and_intros<;>first|omega|(simp<;>omega)))|((with_reducible show aB _);first|exact True.intro|((try dsimp only[go_sem]);first|(simp[vb,e0,e1,f1,hi,jK,au,e4,f3,hcb,hti]<;>omega)|(simp only[vb,and_true,true_implies];(repeat' (first|(with_reducible assumption)|(with_reducible apply And.intro)|intro _|((fail_if_success (with_reducible show(_:Int)≤_));assumption)))<;>first|rfl|(simp only[ab,e0,e1,f1,hi,jK,au,e4,f3,hcb,hti];done))))|exact(rfl:some _=_)|((fail_if_success refine aK ?_);refine aV [(110,fun _=>some (.agg [.int .i64 r.lo,.int .i64 r.hi]))] [ξ 114 (.int .i64 fs),ξ 116 (.int .i64 (fs+k:Nat)),ξ 122 (.agg [.int .i64 fs,.int .i64 sz,.sl le.length (le.flatMap aI)]),ξ 132 (.agg [.int .i64 r.lo,.int .i64 r.hi])] ?_;(repeat1' dsimp only[jF,aa,ae,ai,ar,au,go_sem]);first|refine aL ?_ ?_ rfl ?_|apply aM|apply aN|(refine aO (fun hc=>?_) fun hc=>?_<;>first|(cases hc;done)|(exfalso;(simp at hc<;>omega))|(try simp only[bn]at hc;try contradiction))|skip))
    refine hk _ [_] ?_;exact(by (repeat' (first|exact trivial|refine And.intro (by first|rfl|(simp[get,Nat.beq]<;>omega)|(dsimp only[get];congr 1<;>first|rfl|omega|(simp<;>omega))) ?_)))
  rw[if_pos ⟨rfl,hq⟩]at hk;obtain⟨p,q,hp,hqq,hpq⟩:∃p q:Bool,(r.lo==cur.lo)=p∧(r.hi==cur.hi)=q∧(p&&q)=false:=by
   refine⟨_,_,rfl,rfl,?_⟩;rw[Bool.eq_false_iff];intro h;simp only[Bool.and_eq_true,beq_iff_eq]at h;obtain⟨r1,r2⟩:=r;obtain⟨c1,c2⟩:=cur;simp only at h;exact hq (by rw[h.1,h.2])
  cases st with
  |nil =>
   obtain rfl:=hm rfl;have hn:=tu [⟨[.pv .nilsl,.pv (aa b),.pv (.bool true),.pv (.bool fi)],0,4,141,false⟩,nH,⟨[.pv (.int .i64 r.lo),.pv (.int .i64 r.hi)],0,2,57,false⟩] b true fi 1 i (fs+k:Nat) r bud hb;generalize eM ⟨[],b,true,fi⟩ 1 i (fs+k:Nat) r bud=z at *;obtain⟨zs',zb,zo,zf⟩:=z;simp only[gq,iU,List.cons_append,List.nil_append]at hk ⊢;unfold yp;cases zs' with
   |nil =>
    simp only[j6,kR,List.append_nil]at hn;unfold aa at hn;cases p<;>cases q<;>try (simp at hpq;done)
    all_goals
     repeat' (first|((with_reducible show az _);(simp only[vb,lb,e0,e1,f1,hi,jK,au,e4,f3,hcb,hti,hp,hqq,hn];and_intros<;>first|omega|(simp<;>omega)))|((with_reducible show aB _);first|exact True.intro|((try dsimp only[go_sem]);first|(simp[vb,e0,e1,f1,hi,jK,au,e4,f3,hcb,hti,hp,hqq,hn]<;>omega)|(simp only[vb,and_true,true_implies];(repeat' (first|(with_reducible assumption)|(with_reducible apply And.intro)|intro _|((fail_if_success (with_reducible show(_:Int)≤_));assumption)))<;>first|rfl|(simp only[ab,e0,e1,f1,hi,jK,au,e4,f3,hcb,hti,hp,hqq,hn];done))))|exact(rfl:some _=_)|((fail_if_success refine aK ?_);refine aV [(110,fun _=>some (.agg [.int .i64 r.lo,.int .i64 r.hi]))] [ξ 114 (.int .i64 fs),ξ 116 (.int .i64 (fs+k:Nat)),ξ 122 (.agg [.int .i64 fs,.int .i64 sz,.sl le.length (le.flatMap aI)]),ξ 132 (.agg [.int .i64 cur.lo,.int .i64 cur.hi]),(139,{val:=some (.pv (.agg [.nilsl,.sl zb.length (zb.flatMap bS),.bool zo,.bool zf])),ro:=true})] ?_;(repeat1' dsimp only[jF,aa,ae,ai,ar,au,go_sem]);first|refine aL ?_ ?_ rfl ?_|apply aM|apply aN|(refine aO (fun hc=>?_) fun hc=>?_<;>first|(cases hc;done)|(exfalso;(simp[e0,e1,f1,hi,jK,au,e4,f3,hcb,hti,hp,hqq,hn]at hc;done))|(try simp only[bn]at hc;try contradiction))|skip))
     refine hk _ _ (.std (junk:=[_]) ?_);simp only[gq,List.cons_append,List.nil_append];exact(by (repeat' (first|exact trivial|refine And.intro (by first|rfl|(simp[get,Nat.beq]<;>omega)|(dsimp only[get];congr 1<;>first|rfl|omega|(simp<;>omega))) ?_)))
   |cons z0 zl =>
    simp only[dJ,dI]at hn;unfold aa at hn;cases p<;>cases q<;>try (simp at hpq;done)
    all_goals
     repeat' (first|((with_reducible show az _);(simp only[vb,lb,e0,e1,f1,hi,jK,au,e4,f3,hcb,hti,hp,hqq,hn];and_intros<;>first|omega|(simp<;>omega)))|((with_reducible show aB _);first|exact True.intro|((try dsimp only[go_sem]);first|(simp[vb,e0,e1,f1,hi,jK,au,e4,f3,hcb,hti,hp,hqq,hn]<;>omega)|(simp only[vb,and_true,true_implies];(repeat' (first|(with_reducible assumption)|(with_reducible apply And.intro)|intro _|((fail_if_success (with_reducible show(_:Int)≤_));assumption)))<;>first|rfl|(simp only[ab,e0,e1,f1,hi,jK,au,e4,f3,hcb,hti,hp,hqq,hn];done))))|exact(rfl:some _=_)|((fail_if_success refine aK ?_);refine aV [(110,fun _=>some (.agg [.int .i64 r.lo,.int .i64 r.hi]))] [ξ 114 (.int .i64 fs),ξ 116 (.int .i64 (fs+k:Nat)),ξ 122 (.agg [.int .i64 fs,.int .i64 sz,.sl le.length (le.flatMap aI)]),ξ 132 (.agg [.int .i64 cur.lo,.int .i64 cur.hi]),(139,{val:=some (.agg [.ref 3 zl.length 0 (zl.length+1),.pv (.sl zb.length (zb.flatMap bS)),.pv (.bool zo),.pv (.bool zf)]),mem:=some ([⟨[.pv .nilsl,.pv (.sl b.length (b.flatMap bS)),.pv (.bool true),.pv (.bool fi)],0,4,141,false⟩,nH,⟨[.pv (.int .i64 r.lo),.pv (.int .i64 r.hi)],0,2,57,false⟩]++[⟨(z0::zl).flatMap af |>.map .pv,zl.length,3,66,false⟩])})] ?_;(repeat1' dsimp only[jF,aa,ae,ai,ar,au,go_sem]);first|refine aL ?_ ?_ rfl ?_|apply aM|apply aN|(refine aO (fun hc=>?_) fun hc=>?_<;>first|(cases hc;done)|(exfalso;(simp[e0,e1,f1,hi,jK,au,e4,f3,hcb,hti,hp,hqq,hn]at hc;done))|(try simp only[bn]at hc;try contradiction))|skip))
     refine hk _ _ (.new1 rfl ?_);exact(by (repeat' (first|exact trivial|refine And.intro (by first|rfl|(simp[get,Nat.beq]<;>omega)|(dsimp only[get];congr 1<;>first|rfl|omega|(simp<;>omega))) ?_)))
  |cons s0 l =>
   have hne:=(gE ⟨s0::l,b,true,fi⟩ 1 i (fs+k:Nat) r bud).1;have hn:=tv s0 l [⟨[.ref 0 l.length 0 (l.length+1),.pv (aa b),.pv (.bool true),.pv (.bool fi)],0,4,141,false⟩,nH,⟨[.pv (.int .i64 r.lo),.pv (.int .i64 r.hi)],0,2,57,false⟩] b true fi 1 i (fs+k:Nat) r bud hb (by simp at hl;omega);generalize eM ⟨s0::l,b,true,fi⟩ 1 i (fs+k:Nat) r bud=z at *;obtain⟨zs',zb,zo,zf⟩:=z;simp only[eC,gF,List.cons_append,List.nil_append]at hk ⊢;unfold yp;cases zs' with
   |nil=>simp at hne
   |cons z0 zl =>
    simp only[dJ,dI,List.cons_append,List.nil_append]at hn;unfold aa at hn;cases p<;>cases q<;>try (simp at hpq;done)
    all_goals
     repeat' (first|((with_reducible show az _);(simp only[vb,lb,e0,e1,f1,hi,jK,au,e4,f3,hcb,hti,hp,hqq,hn];and_intros<;>first|omega|(simp<;>omega)))|((with_reducible show aB _);first|exact True.intro|((try dsimp only[go_sem]);first|(simp[vb,e0,e1,f1,hi,jK,au,e4,f3,hcb,hti,hp,hqq,hn]<;>omega)|(simp only[vb,and_true,true_implies];(repeat' (first|(with_reducible assumption)|(with_reducible apply And.intro)|intro _|((fail_if_success (with_reducible show(_:Int)≤_));assumption)))<;>first|rfl|(simp only[ab,e0,e1,f1,hi,jK,au,e4,f3,hcb,hti,hp,hqq,hn];done))))|exact(rfl:some _=_)|((fail_if_success refine aK ?_);refine aV [(110,fun _=>some (.agg [.int .i64 r.lo,.int .i64 r.hi]))] [ξ 114 (.int .i64 fs),ξ 116 (.int .i64 (fs+k:Nat)),ξ 122 (.agg [.int .i64 fs,.int .i64 sz,.sl le.length (le.flatMap aI)]),ξ 132 (.agg [.int .i64 cur.lo,.int .i64 cur.hi]),(139,{val:=some (.agg [.ref 0 zl.length 0 (zl.length+1),.pv (.sl zb.length (zb.flatMap bS)),.pv (.bool zo),.pv (.bool zf)]),mem:=some [⟨(z0::zl).flatMap af |>.map .pv,zl.length,3,66,false⟩,⟨[.ref 0 l.length 0 (l.length+1),.pv (.sl b.length (b.flatMap bS)),.pv (.bool true),.pv (.bool fi)],0,4,141,false⟩,nH,⟨[.pv (.int .i64 r.lo),.pv (.int .i64 r.hi)],0,2,57,false⟩]})] ?_;(repeat1' dsimp only[jF,aa,ae,ai,ar,au,go_sem]);first|refine aL ?_ ?_ rfl ?_|apply aM|apply aN|(refine aO (fun hc=>?_) fun hc=>?_<;>first|(cases hc;done)|(exfalso;(simp[e0,e1,f1,hi,jK,au,e4,f3,hcb,hti,hp,hqq,hn]at hc;done))|(try simp only[bn]at hc;try contradiction))|skip))
     refine hk _ _ (.std (junk:=[_]) ?_);simp only[eC,List.cons_append,List.nil_append];exact(by (repeat' (first|exact trivial|refine And.intro (by first|rfl|(simp[get,Nat.beq]<;>omega)|(dsimp only[get];congr 1<;>first|rfl|omega|(simp<;>omega))) ?_)))
end
section
open Rf
def G0:av:=(⟨_,by conv=>(lhs;cbv;try simp only[G4,Int.cast_ofNat_Int,Int.reduceNegSucc,UInt8.reduceOfNat])⟩:{x // (codeOf Tryz.prog 123 (fun _=>false)).map (fun y=>y.sub [1])=some x}).1
theorem kT (y:Bx):2≤(pI y).length:=by simp[pI]
theorem pJ {base:AF} (hb:∀p∈base,∃q,p.2= .pv q) (y:Bx):cu (base++pH y) (pI y).length=true:=by
 have h1:cu base (pI y).length=true:=by
  simp only[cu,List.all_eq_true];intro p hp;obtain⟨q,e⟩:=hb p hp;rw[e];rfl
 simp only[cu,List.all_append,Bool.and_eq_true]at h1 ⊢;refine⟨h1,?_⟩;obtain⟨st,b,o,f⟩:=y;cases st<;>rfl
structure tE (s:Sy) (rows:List Rw) (n:Nat) (bud:Int) (b0:List Rg) (x:Bx):Prop where
 r:fx s rows n
 x:ky s rows n bud b0 x
 b:bud≤65536
theorem Ex {n:Nat} {r:Rw} (h:cN n r=true) (hn:n≤128):r.terms.length≤128:=by
 simp only[cN,Bool.and_eq_true]at h;have:=(gD n r.terms (-1) (by omega) h.1).1;omega
theorem Ge {s:Sy} {rows:List Rw} {n:Nat} {bud:Int} {b0:List Rg} {x:Bx} (hp:tE s rows n bud b0 x) (m:Nat) (hm:x.steps=[]→m=0) (hm2:m≤1) :
  Aw ctx (fun _=>false) 141 m G0 (jO [.cell 8 4 true] (tj 0 (hU rows s.graphs bud x)) (stM (hU rows s.graphs bud x).steps)) (kB rows s.graphs bud++pH x) (pI x):=by
 have hlr:=hp.r.len;have hgl:=hp.r.gl;have hn1:=hp.r.n1;have hbd:=hp.b;have f1:=da rows;have f2:=pj s.graphs;have hR:=fun i h=>td hp.r hp.x i h
 have hst:=mh rows bud x;have hpv:∀q:AF,(∀p∈q,∃v,p.2=AV.pv v)→∀p∈kB rows s.graphs bud++q,∃v,p.2=AV.pv v:=fun q hq p h=>by
  rcases List.mem_append.mp h with h|h
  ·simp only[kB,List.mem_cons,List.not_mem_nil,or_false]at h;rcases h with rfl|rfl|rfl<;>exact⟨_,rfl⟩
  exact hq p h
 unfold G0;refine eE (eE ?_);unfold kB;simp only[List.cons_append,List.nil_append];refine bG ?_;dsimp only[go_sem];try dsimp only[go_sem]
 refine⟨(by exact True.intro),(by exact True.intro),?_⟩;refine kj ?_;refine a7 rows.length (fun _=>True) (fun i=>kB rows s.graphs bud++[(9,.pv (.int .i64 i))]++pH (jM rows bud x i)) (fun i=>pI (jM rows bud x i)) trivial ?_ ⟨[],by simp[jM]⟩ (fun i=>⟨Nat.le_trans hm2 (Nat.le_trans (by omega) (kT _)),pJ (hpv _ (by simp)) _,tC _⟩) fun i hi _=>?_
 ·show Sub (kB rows s.graphs bud++[(9,AV.pv (PV.int IntKind.i64 (0:Nat)))]++pH x) _;clear hp hR hst hm;obtain⟨st,b,o,f⟩:=x;cases st<;>(repeat' (first|exact trivial|refine And.intro rfl ?_))
 by_cases hlt:i<rows.length
 ·have hy:=hR i hi;have hys:=hst i;have hsu:jM rows bud x (i+1)=gL i (rows.getD i zw) bud (jM rows bud x i) (rows.getD i zw).terms.length:=rfl;rw[hsu];clear hsu hR hst;generalize jM rows bud x i=y at *;have hro:=hp.r.row _ (aQ (d:=zw) hlt);have htl:=Ex hro hn1;have hle:=hy.le;have hym:y.steps=[]→m=0:=fun h=>hm (List.length_eq_zero_iff.mp (by rw[h]at hys;simpa using hys))
  have hbw:=fun R=>Ew (m:=m) (R:=R) rows s.graphs bud i y hlt (by omega) (by omega) (by rw[hy.len];omega) (by omega) hym (Nat.le_trans hm2 (Nat.le_trans (by omega) (kT _)))
  have htw:=fun R k z=>Gc (m:=m) (R:=R) rows s.graphs bud i k z hlt
  have hT:=fun k h=>qA hp.r hy hlt k h
  have hTs:=kX i (rows.getD i zw) bud y;have e1:=tD rows i hlt;generalize rows.getD i zw=q at *;have f3:=fG q.terms;unfold kB;simp only[List.cons_append,List.nil_append];refine bG ?_;dsimp only[go_sem];try dsimp only[go_sem]
  refine⟨(by exact True.intro),(by exact True.intro),?_⟩;refine bG ?_;dsimp only[go_sem];refine⟨fun _=>?_,fun h=>by simp at h<;>omega⟩;refine bG ?_;dsimp only[go_sem];refine eE (kj (eE ?_));refine bq (kB rows s.graphs bud++[(9,.pv (.int .i64 i))]++pH y) (by obtain⟨st,b,o,f⟩:=y;cases st<;>(repeat' (first|exact trivial|refine And.intro rfl ?_))) ?_;refine hbw _ fun f' μ' hN=>?_
  show Aw _ _ _ _ _ _ _ _;refine wc hN (hpv _ (by simp)) (Nat.le_trans hm2 (Nat.le_trans (by omega) (kT _))) ?_;clear hN hbw;unfold kB;simp only[List.cons_append,List.nil_append];refine bG ?_;dsimp only[go_sem];try dsimp only[go_sem]
  refine⟨(by exact True.intro),(by exact True.intro),?_⟩;refine kj ?_;refine a7 q.terms.length (fun _=>True) (fun k=>kB rows s.graphs bud++[(9,.pv (.int .i64 i)),(10,.pv (.int .i64 k))]++pH (gL i q bud y k)) (fun k=>pI (gL i q bud y k)) trivial ?_ ⟨[],by simp[gL]⟩ (fun k=>⟨(Nat.le_trans hm2 (Nat.le_trans (by omega) (kT _))),pJ (hpv _ (by simp)) _,tC _⟩) fun k hk _=>?_
  ·show Sub (kB rows s.graphs bud++[(9,AV.pv (PV.int IntKind.i64 i)),(10,AV.pv (PV.int IntKind.i64 (0:Nat)))]++pH (mf i q bud y)) _;clear hT hTs hy hys hle hym htw;generalize mf i q bud y=y;exact(by obtain⟨st,b,o,f⟩:=y;cases st<;>(repeat' (first|exact trivial|refine And.intro rfl ?_)))
  by_cases hkt:k<q.terms.length
  ·have hz:=hT k hk;have hzs:=hTs k;have hsu:gL i q bud y (k+1)=qP i q bud (q.terms.getD k zm) (gL i q bud y k):=rfl;rw[hsu];clear hsu hT hTs;generalize gL i q bud y k=z at *;have hzm:z.steps=[]→m=0:=fun h=>hym (List.length_eq_zero_iff.mp (by rw[h]at hzs;simpa using hzs))
   have hzle:=hz.le;have hro2:=hro;simp only[cN,Bool.and_eq_true]at hro2;have hcm:=(gD n _ (-1) (by omega) hro2.1).2 _ (aQ (d:=zm) hkt);have hzl:=hz.len;have htw2:=fun R=>htw R k z hkt (by omega) (by omega) hcm.1 (by omega) (by omega) hzm
   clear htw;generalize q.terms.getD k zm=t at *;unfold kB;simp only[List.cons_append,List.nil_append];refine bw [ξ 52 (.sl q.terms.length (q.terms.flatMap gZ))] ?_;dsimp only[ae,go_sem];try dsimp only[ae,go_sem]
   refine⟨(by (simp only[vb,lb,e1,f1,hlt,hkt,ar];and_intros<;>first|omega|(simp<;>omega))),(by ((try dsimp only[go_sem]);(simp only[vb,and_true,true_implies];(repeat' (first|(with_reducible assumption)|(with_reducible apply And.intro)|intro _|((fail_if_success (with_reducible show(_:Int)≤_));assumption)))<;>(simp only[ab,e1,f1,hlt,hkt,ar];done)))),?_⟩;refine bw [ξ 52 (.sl q.terms.length (q.terms.flatMap gZ))] ?_;dsimp only[ae,go_sem];refine⟨fun _=>?_,fun h=>by simp at h<;>omega⟩;refine bw [ξ 52 (.sl q.terms.length (q.terms.flatMap gZ))] ?_
   dsimp only[ae,go_sem];refine eE (kj ?_);refine bq (kB rows s.graphs bud++[(9,.pv (.int .i64 i)),(10,.pv (.int .i64 k))]++pH z) (by obtain⟨st,b,o,f⟩:=z;cases st<;>(repeat' (first|exact trivial|refine And.intro rfl ?_))) ?_;refine htw2 _ fun f'' μ'' hN=>?_
   show Aw _ _ _ _ _ _ _ _;refine wc hN (hpv _ (by simp)) (Nat.le_trans hm2 (Nat.le_trans (by omega) (kT _))) ?_;clear hN htw2;generalize qP i q bud t z=y;unfold kB;simp only[List.cons_append,List.nil_append];repeat' (first|((with_reducible show az _);(simp[vb]<;>omega))|((with_reducible show aB _);exact True.intro)|exact(rfl:some _=_)|((fail_if_success refine aK ?_);refine bG ?_;(repeat1' dsimp only[jF,go_sem]);first|refine aL ?_ ?_ rfl ?_|apply aM|apply aN|(refine aO (fun hc=>?_) fun hc=>?_<;>first|(cases hc;done)|(try simp only[bn]at hc;try contradiction))|skip))
   exact⟨hkt,trivial,(by obtain⟨st,b,o,f⟩:=y;cases st<;>(repeat' (first|exact trivial|refine And.intro rfl ?_))),[],(List.append_nil _).symm⟩
  obtain rfl:k=q.terms.length:=by omega
  clear hT hTs htw;generalize gL i q bud y q.terms.length=z at *;unfold kB;simp only[List.cons_append,List.nil_append];repeat' (first|((with_reducible show az _);(simp only[vb,lb,e1,f1,hlt,hkt,ar];and_intros<;>first|omega|(simp<;>omega)))|((with_reducible show aB _);first|exact True.intro|((try dsimp only[go_sem]);(simp only[vb,and_true,true_implies];(repeat' (first|(with_reducible assumption)|(with_reducible apply And.intro)|intro _|((fail_if_success (with_reducible show(_:Int)≤_));assumption)))<;>(simp only[ab,e1,f1,hlt,hkt,ar];done))))|exact(rfl:some _=_)|((fail_if_success refine aK ?_);refine bw [ξ 52 (.sl q.terms.length (q.terms.flatMap gZ))] ?_;(repeat1' dsimp only[jF,ae,go_sem]);first|refine aL ?_ ?_ rfl ?_|apply aM|apply aN|(refine aO (fun hc=>?_) fun hc=>?_<;>first|(cases hc;done)|(exfalso;(simp at hc<;>omega))|(try simp only[bn]at hc;try contradiction))|skip))
  exact⟨hlt,trivial,(by obtain⟨st,b,o,f⟩:=z;cases st<;>(repeat' (first|exact trivial|refine And.intro rfl ?_))),[],(List.append_nil _).symm⟩
 obtain rfl:i=rows.length:=by omega
 have hy:=hR _ (Nat.le_refl _);have hys:=hst rows.length;have hpn:hU rows s.graphs bud x=fD s.graphs bud (jM rows bud x rows.length) s.graphs.length:=rfl;rw[hpn];clear hpn hR hst;generalize jM rows bud x rows.length=y at *;have hle:=hy.le;have hym:y.steps=[]→m=0:=fun h=>hm (List.length_eq_zero_iff.mp (by rw[h]at hys;simpa using hys))
 have hG:=fun k h=>oK hp.r hy k h
 have hGs:=kz s.graphs bud y;unfold kB;simp only[List.cons_append,List.nil_append];repeat' (first|((with_reducible show az _);exact True.intro)|((with_reducible show aB _);exact True.intro)|exact(rfl:some _=_)|((fail_if_success refine aK ?_);refine bG ?_;(repeat1' dsimp only[jF,ae,go_sem]);first|refine aL ?_ ?_ rfl ?_|apply aM|apply aN|(refine aO (fun hc=>?_) fun hc=>?_<;>first|(cases hc;done)|(exfalso;(simp at hc<;>omega))|(try simp only[bn]at hc;try contradiction))|skip))
 refine a7 s.graphs.length (fun _=>True) (fun i=>kB rows s.graphs bud++[(13,.pv (.int .i64 i))]++pH (fD s.graphs bud y i)) (fun i=>pI (fD s.graphs bud y i)) trivial ?_ ⟨[],by simp[fD]⟩ (fun i=>⟨(Nat.le_trans hm2 (Nat.le_trans (by omega) (kT _))),pJ (hpv _ (by simp)) _,tC _⟩) fun i hi _=>?_
 ·show Sub (kB rows s.graphs bud++[(13,AV.pv (PV.int IntKind.i64 (0:Nat)))]++pH y) _;clear hG hGs hy hys hle hym;exact(by obtain⟨st,b,o,f⟩:=y;cases st<;>(repeat' (first|exact trivial|refine And.intro rfl ?_)))
 by_cases hlg:i<s.graphs.length
 ·have hz:=hG i hi;have hzs:=hGs i;have hsu:fD s.graphs bud y (i+1)=gM i (s.graphs.getD i zg) bud (fD s.graphs bud y i) (s.graphs.getD i zg).least.length:=rfl;rw[hsu];clear hsu hG hGs;generalize fD s.graphs bud y i=z at *;have hzm:z.steps=[]→m=0:=fun h=>hym (List.length_eq_zero_iff.mp (by rw[h]at hzs;simpa using hzs))
  have hgo:=hp.r.g _ (aQ (d:=zg) hlg);have hew:=fun R k z=>Gd (m:=m) (R:=R) rows s.graphs bud i k z hlg
  have hE:=fun k h=>qB hp.r hz hlg k h
  have hEs:=kY i (s.graphs.getD i zg) bud z;have e1:(s.graphs.flatMap jK)[i*3+1]?.getD default= .int .i64 (s.graphs.getD i zg).size:=by rw[bK l6 s.graphs i zg 1 hlg (by omega)];rfl
  generalize s.graphs.getD i zg=g at *;have hgo2:=hgo;simp only[bj,aC,Bool.and_eq_true,decide_eq_true_eq]at hgo2;obtain⟨⟨⟨⟨⟨g1,g2⟩,g3⟩,g4⟩,g5⟩,g6⟩:=hgo2;have hsq:=nz g1 g2;unfold kB;simp only[List.cons_append,List.nil_append];repeat' (first|((with_reducible show az _);exact True.intro)|((with_reducible show aB _);exact True.intro)|exact(rfl:some _=_)|((fail_if_success refine aK ?_);refine bG ?_;(repeat1' dsimp only[jF,ai,go_sem]);first|refine aL ?_ ?_ rfl ?_|apply aM|apply aN|(refine aO (fun hc=>?_) fun hc=>?_<;>first|(cases hc;done)|(exfalso;(simp at hc<;>omega))|(try simp only[bn]at hc;try contradiction))|skip))
  refine a7 g.least.length (fun _=>True) (fun k=>kB rows s.graphs bud++[(13,.pv (.int .i64 i)),(14,.pv (.int .i64 k))]++pH (gM i g bud z k)) (fun k=>pI (gM i g bud z k)) trivial ?_ ⟨[],by simp[gM]⟩ (fun k=>⟨(Nat.le_trans hm2 (Nat.le_trans (by omega) (kT _))),pJ (hpv _ (by simp)) _,tC _⟩) fun k hk _=>?_
  ·show Sub (kB rows s.graphs bud++[(13,AV.pv (PV.int IntKind.i64 i)),(14,AV.pv (PV.int IntKind.i64 (0:Nat)))]++pH z) _;clear hE hEs hz hzs hzm hew;exact(by obtain⟨st,b,o,f⟩:=z;cases st<;>(repeat' (first|exact trivial|refine And.intro rfl ?_)))
  by_cases hkt:k<g.least.length
  ·have hw:=hE k hk;have hws:=hEs k;have hsu:gM i g bud z (k+1)=qQ i g bud k (gM i g bud z k):=rfl;rw[hsu];clear hsu hE hEs;generalize gM i g bud z k=w at *;have hwm:w.steps=[]→m=0:=fun h=>hzm (List.length_eq_zero_iff.mp (by rw[h]at hws;simpa using hws))
   have hwle:=hw.le;have hew2:=fun R=>hew R k w hkt (by rw[hw.len];exact hgo) hw.ok (by omega) hwm
   clear hew;unfold kB;simp only[List.cons_append,List.nil_append];refine bw [ξ 100 (.int .i64 g.size),ξ 105 (.int .i64 g.size),ξ 107 (.bool true)] ?_;dsimp only[ai,go_sem];try dsimp only[ai,go_sem]
   refine⟨(by (simp only[vb,lb,e1,f2,hlg,hkt,g5];and_intros<;>first|omega|(simp<;>omega))),(by ((try dsimp only[go_sem]);(simp[vb,e1,f2,hlg,hkt,g5]<;>omega))),?_⟩;refine bw [ξ 100 (.int .i64 g.size),ξ 105 (.int .i64 g.size),ξ 107 (.bool true)] ?_;dsimp only[ai,go_sem];refine⟨fun _=>?_,fun h=>by simp at h<;>omega⟩;refine bw [ξ 100 (.int .i64 g.size),ξ 105 (.int .i64 g.size),ξ 107 (.bool true)] ?_;dsimp only[ai,go_sem];refine eE (kj ?_)
   refine bq (kB rows s.graphs bud++[(13,.pv (.int .i64 i)),(14,.pv (.int .i64 k))]++pH w) (by obtain⟨st,b,o,f⟩:=w;cases st<;>(repeat' (first|exact trivial|refine And.intro rfl ?_))) ?_;refine hew2 _ fun f'' μ'' hN=>?_
   show Aw _ _ _ _ _ _ _ _;refine wc hN (hpv _ (by simp)) (Nat.le_trans hm2 (Nat.le_trans (by omega) (kT _))) ?_;clear hN hew2;generalize qQ i g bud k w=v;unfold kB;simp only[List.cons_append,List.nil_append];repeat' (first|((with_reducible show az _);(simp[vb]<;>omega))|((with_reducible show aB _);exact True.intro)|exact(rfl:some _=_)|((fail_if_success refine aK ?_);refine bG ?_;(repeat1' dsimp only[jF,go_sem]);first|refine aL ?_ ?_ rfl ?_|apply aM|apply aN|(refine aO (fun hc=>?_) fun hc=>?_<;>first|(cases hc;done)|(try simp only[bn]at hc;try contradiction))|skip))
   exact⟨hkt,trivial,(by obtain⟨st,b,o,f⟩:=v;cases st<;>(repeat' (first|exact trivial|refine And.intro rfl ?_))),[],(List.append_nil _).symm⟩
  obtain rfl:k=g.least.length:=by omega
  clear hE hEs hew;generalize gM i g bud z g.least.length=w at *;unfold kB;simp only[List.cons_append,List.nil_append];repeat' (first|((with_reducible show az _);(simp only[vb,lb,e1,f2,hlg,hkt,g5];and_intros<;>first|omega|(simp<;>omega)))|((with_reducible show aB _);first|exact True.intro|((try dsimp only[go_sem]);(simp[vb,e1,f2,hlg,hkt,g5]<;>omega)))|exact(rfl:some _=_)|((fail_if_success refine aK ?_);refine bw [ξ 100 (.int .i64 g.size),ξ 105 (.int .i64 g.size),ξ 107 (.bool false)] ?_;(repeat1' dsimp only[jF,ai,go_sem]);first|refine aL ?_ ?_ rfl ?_|apply aM|apply aN|(refine aO (fun hc=>?_) fun hc=>?_<;>first|(cases hc;done)|(try simp only[bn]at hc;try contradiction))|skip))
  exact⟨hlg,trivial,(by obtain⟨st,b,o,f⟩:=w;cases st<;>(repeat' (first|exact trivial|refine And.intro rfl ?_))),[],(List.append_nil _).symm⟩
 obtain rfl:i=s.graphs.length:=by omega
 clear hG hGs hy hys hle hym;generalize fD s.graphs bud y s.graphs.length=z;unfold kB;obtain⟨st,b,o,f⟩:=z;cases st;all_goals
  simp only[gq,eC,iU,gF,j6,dJ,kR,dI,List.cons_append,List.nil_append];repeat' (first|((with_reducible show az _);first|exact True.intro|(simp only[vb,lb,hlg];and_intros<;>first|omega|(simp<;>omega)))|((with_reducible show aB _);exact True.intro)|exact(rfl:some _=_)|((fail_if_success refine aK ?_);refine bG ?_;(repeat1' dsimp only[jF,ai,aa,go_sem]);first|refine aL ?_ ?_ rfl ?_|apply aM|apply aN|(refine aO (fun hc=>?_) fun hc=>?_<;>first|(cases hc;done)|(exfalso;(simp at hc<;>omega))|(try simp only[bn]at hc;try contradiction))|skip))
  exact⟨⟨(by first|exact True.intro|(simp only[vb,lb];omega)|(simp[vb]<;>omega)),rfl⟩,_,rfl⟩
end
section
open Rf
abbrev yC (s:Sy):PV:=.agg [aa s.box,ae s.rows,ai s.graphs,ah s.cases]
end
section
open Rf
abbrev oM (s:Sy):eN:=⟨[.pv (aa s.box),.pv (ae s.rows),.pv (ai s.graphs),.pv (ah s.cases)],0,4,36,false⟩
abbrev yq (t:Tree):PV:=.agg [.int .i64 t.kind,.sl t.steps.length (t.steps.flatMap af),.int .i64 t.cell,.int .i64 t.pos,.sl t.kids.length (t.kids.flatMap aD)]
end
section
open Rf
end
section
open Rf
noncomputable def uQ (s:Sy) (t:Tree):PV:=if iO s t=true then .tup [aE (pA s t),.int .i64 0] else .tup [aE zt,.int .i64 1]
def HL:av:=(⟨_,by conv=>(lhs;reduce;try simp only[G4,Int.cast_ofNat_Int,Int.reduceNegSucc,UInt8.reduceOfNat])⟩:{x // codeOf Tryz.prog 24 (fun _=>false)=some x}).1
theorem G1:bo Tryz.prog 24 (fun _=>false)=some (HL,[.cell 4 5 true,.t 5],38,true):=by kernel_rfl
theorem A0 (s:Sy) (hs:Ca s) (t:Tree) (hw:wt t≤1000000000):aq ctx 24 [yC s,aE t] (uQ s t):=by
 have hc:=nJ s hs t hw;try unfold yC at hc
 unfold aE aw aj aa ae ai ah at hc;unfold uQ;by_cases hck:iO s t=true
 ·rw[if_pos hck];rw[hck]at hc;have hsw:=jk t;have hwo:=th t hw (-1) (by omega) (by omega);rw[j4 t (-1) (.inl (by omega))]at hwo;unfold aE aw aj at hwo;refine an (C:=ctx) (Fn.of G1 rfl) rfl ?_;unfold HL;repeat' (first|((with_reducible show az _);first|exact True.intro|(simp only[vb,lb,hc,hwo];and_intros<;>first|omega|(simp<;>omega)))|((with_reducible show aB _);first|exact True.intro|((try dsimp only[go_sem]);(simp only[vb,and_true,true_implies];(repeat' (first|(with_reducible assumption)|(with_reducible apply And.intro)|intro _|((fail_if_success (with_reducible show(_:Int)≤_));assumption))))))|exact(rfl:some _=_)|((fail_if_success refine aK ?_);refine du [(22,fun _=>some (.bool true)),(49,fun _=>some (.tup [yq t,.int .i64 (aT t:Nat)]))] ?_;(repeat1' dsimp only[c24,aE,Tree.kind,Tree.steps,Tree.cell,Tree.pos,Tree.kids,aj,aw,aa,ae,ai,ah,go_sem]);first|refine aL ?_ ?_ rfl ?_|apply aM|apply aN|(refine aO (fun hc=>?_) fun hc=>?_<;>first|(cases hc;done)|(try simp only[bn]at hc;try contradiction))|skip))
  refine dD (σ:=Nat×Tree) (fun q=>mA s q.1 q.2=pA s t∧wt q.2≤1000000000∧q.1≤1000000000)
   (fun q=>[(2,.ptr 0 0 0),(3,.ptr 1 0 0),(4,.ptr 2 0 0),(6,.ptr 3 0 0),(8,.pv (.int .i64 (q.1-1:Int)))])
   (fun q=>[oM s,ax t,aY,ax q.2]) (fun q=>q.1) (aT t,t) ⟨rfl,hw,by show aT t≤_;omega⟩ (by (repeat' (first|exact trivial|refine And.intro (by first|rfl|(simp[get,Nat.beq]<;>omega)|(dsimp only[get];congr 1<;>first|rfl|omega|(simp<;>omega))) ?_))) ⟨[],rfl⟩ (fun _ _=>⟨Nat.zero_le _,rfl,by simp[aS,ax,aY,cZ]⟩) fun q hq=>?_
  obtain⟨i,out⟩:=q;obtain⟨q1,q2,q3⟩:=hq;simp only at q1 q2 q3 ⊢;clear hc hwo;cases i with
  |zero =>
   rw[mA]at q1;subst q1;repeat' (first|((with_reducible show az _);first|exact True.intro|(simp[vb]<;>omega))|((with_reducible show aB _);exact True.intro)|exact(rfl:some _=_)|((fail_if_success refine aK ?_);refine bG ?_;(repeat1' dsimp only[c24,ax,aY,Tree.kind,Tree.steps,Tree.cell,Tree.pos,Tree.kids,aj,aw,aa,ae,ai,ah,go_sem]);first|refine aL ?_ ?_ rfl ?_|apply aM|apply aN|(refine aO (fun hc=>?_) fun hc=>?_<;>first|(cases hc;done)|(try simp only[bn]at hc;try contradiction))|skip))
  |succ i =>
   rw[mA]at q1;have hso:=jk out;have hwo:=th out q2 i (by omega) (by omega);have hwc:=rz out i;have hc2:=nJ s hs (dG out i) (by omega);generalize dG out i=x at *;generalize iO s x=q at *;try unfold yC at hc2
   unfold aE aw aj aa ae ai ah at hc2;unfold aE aw aj at hwo;have hi1:((i+1:Nat):Int)-1=(i:Nat):=by omega
   rw[hi1];cases q with
   |true =>
    simp only[if_true]at q1;repeat' (first|((with_reducible show az _);first|exact True.intro|(simp only[vb,lb,hc2,hwo];and_intros<;>first|omega|(simp<;>omega)))|((with_reducible show aB _);first|exact True.intro|((try dsimp only[go_sem]);(simp only[vb,and_true,true_implies];(repeat' (first|(with_reducible assumption)|(with_reducible apply And.intro)|intro _|((fail_if_success (with_reducible show(_:Int)≤_));assumption))))))|exact(rfl:some _=_)|((fail_if_success refine aK ?_);refine du [(22,fun _=>some (.bool true)),(49,fun _=>some (.tup [yq x,.int .i64 (aT out:Nat)]))] ?_;(repeat1' dsimp only[c24,ax,aY,Tree.kind,Tree.steps,Tree.cell,Tree.pos,Tree.kids,aj,aw,aa,ae,ai,ah,go_sem]);first|refine aL ?_ ?_ rfl ?_|apply aM|apply aN|(refine aO (fun hc=>?_) fun hc=>?_<;>first|(cases hc;done)|(try simp only[bn]at hc;try contradiction))|skip))
    exact⟨(i,x),by show i<i+1;omega,⟨q1,by show wt x≤_;omega,by show i≤_;omega⟩,by (repeat' (first|exact trivial|refine And.intro (by first|rfl|(simp[get,Nat.beq]<;>omega)|(dsimp only[get];congr 1<;>first|rfl|omega|(simp<;>omega))) ?_)),_,rfl⟩
   |false =>
    simp only[Bool.false_eq_true,if_false]at q1;repeat' (first|((with_reducible show az _);first|exact True.intro|(simp only[vb,lb,hc2,hwo];and_intros<;>first|omega|(simp<;>omega)))|((with_reducible show aB _);first|exact True.intro|((try dsimp only[go_sem]);(simp only[vb,and_true,true_implies];(repeat' (first|(with_reducible assumption)|(with_reducible apply And.intro)|intro _|((fail_if_success (with_reducible show(_:Int)≤_));assumption))))))|exact(rfl:some _=_)|((fail_if_success refine aK ?_);refine du [(22,fun _=>some (.bool false)),(49,fun _=>some (.tup [yq x,.int .i64 (aT out:Nat)]))] ?_;(repeat1' dsimp only[c24,ax,aY,Tree.kind,Tree.steps,Tree.cell,Tree.pos,Tree.kids,aj,aw,aa,ae,ai,ah,go_sem]);first|refine aL ?_ ?_ rfl ?_|apply aM|apply aN|(refine aO (fun hc=>?_) fun hc=>?_<;>first|(cases hc;done)|(try simp only[bn]at hc;try contradiction))|skip))
    exact⟨(i,out),by show i<i+1;omega,⟨q1,q2,by show i≤_;omega⟩,by (repeat' (first|exact trivial|refine And.intro (by first|rfl|(simp[get,Nat.beq]<;>omega)|(dsimp only[get];congr 1<;>first|rfl|omega|(simp<;>omega))) ?_)),_,rfl⟩
 rw[if_neg hck];rw[Bool.eq_false_iff.mpr hck]at hc;refine aq.uw 3 (r:=.tup [.agg [.int .i64 0,.nilsl,.int .i64 0,.int .i64 0,.nilsl],.int .i64 1]) ?_;refine an (C:=ctx) (Fn.of G1 rfl) rfl ?_;unfold HL;repeat' (first|((with_reducible show az _);first|exact True.intro|(simp only[vb,lb,hc];and_intros<;>first|omega|(simp<;>omega)))|((with_reducible show aB _);first|exact True.intro|((try dsimp only[go_sem]);(simp only[vb,and_true,true_implies];(repeat' (first|(with_reducible assumption)|(with_reducible apply And.intro)|intro _|((fail_if_success (with_reducible show(_:Int)≤_));assumption))))))|exact(rfl:some _=_)|((fail_if_success refine aK ?_);refine du [(22,fun _=>some (.bool false))] ?_;(repeat1' dsimp only[c24,aE,zt,Tree.kind,Tree.steps,Tree.cell,Tree.pos,Tree.kids,aj,aw,aa,ae,ai,ah,go_sem]);first|refine aL ?_ ?_ rfl ?_|apply aM|apply aN|(refine aO (fun hc=>?_) fun hc=>?_<;>first|(cases hc;done)|(try simp only[bn]at hc;try contradiction))|skip))
end
end Pur
end
end Go.Proofs.YtaleoeblooeglaaGreatDoor
