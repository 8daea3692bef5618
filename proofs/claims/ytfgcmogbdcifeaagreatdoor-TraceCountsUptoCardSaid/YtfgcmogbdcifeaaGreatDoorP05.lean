/-
  Part of the proofs of TraceFigures and TraceCounts (TrM TrK TrO TrPF TrPG TrPH TrPI TrPJ TrW TrPL TrPM TrPN TrPO TrPP TrLA)
-/
import Derived.Test.YtfgcmogbdcifeaaGreatDoorP04
set_option maxRecDepth 10000
set_option maxHeartbeats 32000000
set_option linter.unusedSimpArgs false
set_option linter.unusedVariables false
namespace Go.Proofs.YtfgcmogbdcifeaaGreatDoor
open Go.RowKit
attribute [local go_sem] Pur.ξ Pur.cV Pur.ff Pur.cI Pur.bG Pur.cT Pur.jR List.map Pur.bF Pur.aN Pur.get Pur.put Pur.tmpsOf Pur.fi Pur.qu Pur.nz Pur.pK Pur.conds Pur.ev cond_true cond_false Nat.beq Nat.ble Nat.add Pur.quiet Pur.gN Pur.eb Pur.ec Pur.BD List.append_eq List.nil_append List.cons_append Pur.eD Pur.uc Pur.pJ Pur.jc Pur.jd Pur.je Pur.jf Pur.jg Pur.jh Pur.lr Pur.jK Pur.gg Pur.sR Pur.iN Pur.calm Pur.quiet.isCallK Pur.eJ List.getElem?_cons_zero List.getElem?_cons_succ Pur.cS Pur.er Pur.cellsOf List.all Pur.cH List.length_cons List.length_nil Pur.ia Pur.cG List.drop List.take List.getD Option.getD_some Pur.HR Pur.HS Pur.FV Pur.HT Pur.HU Pur.HV Pur.mV Pur.rb Pur.mW Pur.mX Pur.setAt List.set Nat.reduceAdd Nat.reduceMul Pur.dW Pur.cP Pur.refsOf Pur.cz Pur.dD Pur.scalar Pur.fu Pur.gI Pur.dw Pur.fq Pur.bI Pur.after Pur.freeze Pur.nW Pur.pO Pur.bM Pur.gw Pur.jI Pur.kQ Pur.iM Pur.kB Pur.kC Pur.iV Pur.kD Pur.kE Pur.kH Pur.kI Pur.kJ Pur.kK Pur.kL Pur.kM Pur.kN Pur.kO Pur.kP Pur.iW Pur.iX Pur.iY Pur.cY Pur.sS Pur.bytesOf Pur.cA Pur.fg Pur.aV Pur.dx Pur.fG Pur.cv Pur.dp Pur.eK Pur.still Pur.dT Pur.gH Pur.cj Pur.kh Pur.cZ Pur.jv List.isEmpty Pur.iZ Pur.ja Pur.jb Int.reduceToNat Nat.mul_one Nat.reduceSub Pur.ux Pur.gx Pur.fa Pur.eN Pur.fO Pur.look Pur.eO Pur.strip Pur.guarded Pur.nY Pur.pA Pur.ju Pur.bj Pur.iL Pur.eh Pur.mN Pur.kF Pur.kG Bool.or_false Bool.or_true Bool.and_true Bool.and_false Nat.blt Pur.rh Pur.mZ Pur.mY Pur.fF Pur.idxOf Pur.nX Pur.mG Pur.re Pur.fX Pur.uy
section
namespace Pur
open Go.RowKit
section
open Tr
def xp:af:=(⟨_,by conv=>(lhs;reduce;try simp only[bD,Int.cast_ofNat_Int,Int.reduceNegSucc,UInt8.reduceOfNat])⟩:{x // codeOf Tryz.prog 19 (fun _=>false)=some x}).1
theorem MU:aD Tryz.prog 19 (fun _=>false)=some (xp,[.cell 2 15 true,.t 3],85,true):=by kernel_rfl
def addN (l:List En) (k:Nat) (f:Fi):Fi :=
 let x:=l.getD k zx
 if x.kind=0 then ve l k f
 else if x.kind=2 then (if x.ev.rep=x.rep then {f with events:=f.events+1} else {f with deliveries:=f.deliveries+1})
 else if x.kind=3 then {f with reads:=f.reads+1}
 else if x.kind=4 then {f with waits:=f.waits+1}
 else if x.kind=9 then {f with busy:=f.busy+1}
 else if x.kind=5 then {f with crashes:=f.crashes+1}
 else if x.kind=6 then {f with restarts:=f.restarts+1}
 else if x.kind=8 then {f with full:=f.full+1}
 else f
def gT (l:List En):Nat→Fi
 |0=>zf
 |k+1=>addN l k (gT l k)
def BF (f:Fi) (k:Nat):Prop:=∀n∈aW f,0≤n∧n≤2000000*(k:Int)
theorem zO (l:List En) (k:Nat):∀(j:Nat) (s:Int×Int×Int),j≤l.length→(-1≤s.2.1∧s.2.1<l.length)→ -1≤(ic l k j s).2.1∧(ic l k j s).2.1<l.length
 |0,s,_,h=>h
 |j+1,s,hj,h=>by
  rw[ic];split
  ·exact h
  refine zO l k j _ (by omega) ?_;split
  ·split
   ·simp only;omega
   exact h
  exact h
theorem xc (l:List En) (k:Nat):∀(j:Nat) (s:Int×Int×Int),(s.2.1= -1∨(k:Int)≤s.2.1)→(ic l k j s).2.1= -1∨(k:Int)≤(ic l k j s).2.1
 |0,s,h=>h
 |j+1,s,h=>by
  rw[ic];split
  ·exact h
  refine xc l k j _ ?_;split
  ·split
   ·right;show(k:Int)≤(j:Int);omega
   exact h
  exact h
theorem fU {f:Fi} {P:Int→Prop}:(∀n∈aW f,P n)↔(P f.submitted∧P f.executed∧P f.refused∧P f.waited∧P f.opn∧P f.events∧P f.deliveries∧P f.reads∧P f.waits∧P f.busy∧P f.crashes∧P f.restarts∧P f.full∧P f.ticks∧P f.longest):=by
 simp[aW]
theorem J5 (l:List En) (k:Nat) (hk:k<l.length) (ht:∀x∈l,0≤x.tick∧x.tick≤1048576) (hs:∀j,k≤j→j<l.length→(l.getD k zx).tick≤(l.getD j zx).tick) (f:Fi) (m:Nat) (hf:BF f m):BF (ve l k f) (m+1):=by
 unfold BF at hf ⊢;rw[fU]at hf ⊢;have hb:=zO l k l.length (-1,-1,-1) (Nat.le_refl _) (by simp;omega);have hsc:=xc l k l.length (-1,-1,-1) (.inl rfl);unfold ve;generalize ic l k l.length (-1,-1,-1)=s at *;obtain⟨a,b,c⟩:=s;simp only at hb hsc ⊢;have h1:=ht _ (bX (d:=zx) hk);by_cases hb0:0≤b
 ·rw[if_pos hb0];have h2:=ht _ (bX (l:=l) (k:=b.toNat) (d:=zx) (by omega));have h3:=hs b.toNat (by omega) (by omega);simp only;split<;>omega
 rw[if_neg hb0];split
 ·simp only;split<;>omega
 simp only;split<;>omega
theorem J6 (l:List En) (k:Nat) (hk:k<l.length) (ht:∀x∈l,0≤x.tick∧x.tick≤1048576) (hs:∀j,k≤j→j<l.length→(l.getD k zx).tick≤(l.getD j zx).tick) (f:Fi) (m:Nat) (hf:BF f m):BF (addN l k f) (m+1):=by
 unfold addN;simp only;split
 ·exact J5 l k hk ht hs f m hf
 unfold BF at hf ⊢;rw[fU]at hf;(repeat' split)<;>(rw[fU];(try simp only);omega)
theorem qm (l:List En) (ht:∀x∈l,0≤x.tick∧x.tick≤1048576) (hs:∀i j,i≤j→j<l.length→(l.getD i zx).tick≤(l.getD j zx).tick):∀k,k≤l.length→BF (gT l k) k
 |0,_=>by unfold BF;rw[fU];simp[gT,zf]
 |k+1,h=>J6 l k (by omega) ht (hs k) _ k (qm l ht hs k (by omega))
theorem ll {h:Hi} (hv:bS h=true) (i:Nat) (hi:i<h.l.length):fT h i=true:=by
 simp only[bS,Bool.and_eq_true]at hv;exact List.all_eq_true.mp hv.2 i (List.mem_range.mpr hi)
theorem ln {h:Hi} (hv:bS h=true):∀x∈h.l,0≤x.tick∧x.tick≤1048576:=fun x hx=>by
 obtain⟨i,hi,rfl⟩:=List.getElem_of_mem hx;have hs:=ll hv i hi;simp only[bS,pB,Bool.and_eq_true,decide_eq_true_eq]at hv;have e:h.l.getD i zx=h.l[i]:=by rw[List.getD,List.getElem?_eq_getElem hi];rfl
 simp only[fT,e,Bool.and_eq_true,dF,decide_eq_true_eq]at hs;obtain⟨⟨⟨⟨⟨⟨⟨⟨⟨q1,q2⟩,-⟩,-⟩,-⟩,-⟩,-⟩,-⟩,-⟩,-⟩:=hs;obtain⟨⟨⟨⟨⟨⟨⟨-,-⟩,-⟩,q3⟩,-⟩,-⟩,-⟩,-⟩:=hv;omega
theorem jm {h : Hi} (hv : bS h = true) (i : Nat) : ∀ j, i ≤ j → j < h.l.length → (h.l.getD i zx).tick ≤ (h.l.getD j zx).tick
  | 0, h1, _ => by obtain rfl : i = 0 := by omega
                   exact Int.le_refl _
  | j + 1, h1, h2 => by
    by_cases hij : i = j + 1
    · subst hij; exact Int.le_refl _
    have h3 := jm hv i j (by omega) (by omega)
    have hs := ll hv (j + 1) h2
    simp only [fT, Bool.and_eq_true, Bool.or_eq_true, decide_eq_true_eq, Nat.add_sub_cancel] at hs
    rcases hs.2 with h4 | h4
    · omega
    omega
theorem tQ {h:Hi} (hv:bS h=true):h.l.length≤4096:=by
 simp only[bS,Bool.and_eq_true,decide_eq_true_eq]at hv;exact hv.1.2
theorem vg (h:Hi) (hw:∀x∈h.l,zK x) (hs:h.state.length≤1000000000) (hl:h.l.length≤1000000000):ah ctx 19 [eA h] (.tup [.agg (gU (if bS h=true then gT h.l h.l.length else zf)),.int .i64 (if bS h=true then 0 else 1)]):=by
 have f1:=aU h.state;have f2:=iw h.l;have hV:=sA h hw hs hl;cases hv:bS h with
 |false =>
  rw[hv]at hV;unfold eA gy aa bp at hV;rw[if_neg (by simp),if_neg (by simp)];refine aj (C:=ctx) (Fn.of MU rfl) rfl ?_;unfold xp;repeat' (first|((with_reducible show aI _);first|exact True.intro|(simp only[vb,lb];omega)|(simp only[vb,lb,f1,f2,hV];and_intros<;>first|omega|(simp<;>omega))|(simp[vb,f1,f2,hV]<;>omega))|((with_reducible show aP _);first|exact True.intro|((try dsimp only[go_sem]);first|(simp[vb,f1,f2,hV]<;>omega)|(simp only[vb,and_true,true_implies];(repeat' (first|(with_reducible assumption)|(with_reducible apply And.intro)|intro _|((fail_if_success (with_reducible show(_:Int)≤_));assumption)))<;>first|omega|rfl|(simp only[ab,f1,f2,hV];done)|(simp[Nat.mul_one,f1,f2,hV]<;>omega)|(simp_all;done))))|exact(rfl:some _=_)|((fail_if_success refine aZ ?_);refine lA [(22,fun _=>some (.bool false))] ?_;(repeat1' dsimp only[xp,eA,gy,aa,bp,gU,aW,zf,go_sem]);first|refine ba ?_ ?_ rfl ?_|apply bb|apply bf|(refine bg (fun hc=>?_) fun hc=>?_<;>first|(cases hc;done)|(exfalso;first|(simp at hc<;>omega)|(simp[f1,f2,hV]at hc;done))|(try simp only[bn]at hc;try contradiction))|skip))
 |true =>
  rw[hv]at hV;unfold eA gy aa bp at hV;rw[if_pos rfl,if_pos rfl];have ht:=ln hv;have hso:=jm hv;have hle:=tQ hv;have hfw:=qm h.l ht hso;clear hv;refine aj (C:=ctx) (Fn.of MU rfl) rfl ?_;unfold xp;repeat' (first|((with_reducible show aI _);first|exact True.intro|(simp only[vb,lb];omega)|(simp only[vb,lb,f1,f2,hV];and_intros<;>first|omega|(simp<;>omega))|(simp[vb,f1,f2,hV]<;>omega))|((with_reducible show aP _);first|exact True.intro|((try dsimp only[go_sem]);first|(simp[vb,f1,f2,hV]<;>omega)|(simp only[vb,and_true,true_implies];(repeat' (first|(with_reducible assumption)|(with_reducible apply And.intro)|intro _|((fail_if_success (with_reducible show(_:Int)≤_));assumption)))<;>first|omega|rfl|(simp only[ab,f1,f2,hV];done)|(simp[Nat.mul_one,f1,f2,hV]<;>omega)|(simp_all;done))))|exact(rfl:some _=_)|((fail_if_success refine aZ ?_);refine lA [(22,fun _=>some (.bool true))] ?_;(repeat1' dsimp only[xp,eA,gy,aa,bp,go_sem]);first|refine ba ?_ ?_ rfl ?_|apply bb|apply bf|(refine bg (fun hc=>?_) fun hc=>?_<;>first|(cases hc;done)|(exfalso;first|(simp at hc<;>omega)|(simp[f1,f2,hV]at hc;done))|(try simp only[bn]at hc;try contradiction))|skip))
  refine de h.l.length (fun _=>True) (fun k=>[(1,.ptr 0 0 0),(2,.ptr 1 0 0),(4,.ptr 2 0 0),(5,.pv (.int .i64 k))]) (fun k=>[cL h,pR zf,pR (gT h.l k)]) trivial (by (repeat' (first|exact trivial|refine And.intro (by first|rfl|(simp[get,Nat.beq]<;>omega)|(dsimp only[get];congr 1<;>first|rfl|omega|(simp<;>omega))) ?_))) ⟨[],rfl⟩ (fun _=>⟨Nat.zero_le _,rfl,rfl⟩) fun k hk _=>?_
  simp only[cL,pR];by_cases hlt:k<h.l.length
  ·have e1:=dV aR h.l k zx hlt;have hO:=Dw h k hlt hl ht (gT h.l k) (fun n hn=>by have:=hfw k (by omega) n hn;omega);have hW:=hfw k (by omega);have hS:gT h.l (k+1)=addN h.l k (gT h.l k):=rfl;rw[hS];unfold addN;unfold BF at hW;rw[fU]at hW;obtain⟨w1,w2,w3,w4,w5,w6,w7,w8,w9,w10,w11,w12,w13,w14,w15⟩:=hW;clear hfw hS;obtain⟨o,ho⟩:∃o,o=ve h.l k (gT h.l k):=⟨_,rfl⟩
   rw[←ho]at hO ⊢;clear ho;generalize gT h.l k=f at *;generalize h.l.getD k zx=x at *;simp only[aJ,br,ar,aG,aC,ai,aa,List.cons_append,List.nil_append]at e1;unfold eA gy aa bp gU aW at hO;simp only[List.map_cons,List.map_nil]at hO;simp only;by_cases k0:x.kind=0
   ·rw[if_pos k0];repeat' (first|((with_reducible show aI _);first|exact True.intro|(simp only[vb,lb];omega)|(simp only[vb,lb,e1,f2,hlt,hO,k0];and_intros<;>first|omega|(simp<;>omega))|(simp[vb,e1,f2,hlt,hO,k0]<;>omega))|((with_reducible show aP _);first|exact True.intro|((try dsimp only[go_sem]);first|(simp[vb,e1,f2,hlt,hO,k0]<;>omega)|(simp only[vb,and_true,true_implies];(repeat' (first|(with_reducible assumption)|(with_reducible apply And.intro)|intro _|((fail_if_success (with_reducible show(_:Int)≤_));assumption)))<;>first|omega|rfl|(simp only[ab,e1,f2,hlt,hO,k0];done)|(simp[Nat.mul_one,e1,f2,hlt,hO,k0]<;>omega)|(simp_all;done))))|exact(rfl:some _=_)|((fail_if_success refine aZ ?_);refine dS [(42,fun _=>some (.agg (gU o)))] [ξ 23 (bU x),ξ 27 (.bool true)] ?_;(repeat1' dsimp only[xp,aa,bp,bU,aJ,br,ar,aG,aC,ai,gU,aW,zf,go_sem]);first|refine ba ?_ ?_ rfl ?_|apply bb|apply bf|(refine bg (fun hc=>?_) fun hc=>?_<;>first|(cases hc;done)|(exfalso;first|(simp at hc<;>omega)|(simp[e1,f2,hlt,hO,k0]at hc;done))|(try simp only[bn]at hc;try contradiction))|skip))
    exact⟨hlt,trivial,by (repeat' (first|exact trivial|refine And.intro (by first|rfl|(simp[get,Nat.beq]<;>omega)|(dsimp only[get];congr 1<;>first|rfl|omega|(simp<;>omega))) ?_)),_,rfl⟩
   rw[if_neg k0];by_cases k2:x.kind=2
   ·rw[if_pos k2];by_cases k2e:x.ev.rep=x.rep
    ·rw[if_pos k2e];repeat' (first|((with_reducible show aI _);first|exact True.intro|(simp only[vb,lb];omega)|(simp only[vb,lb,e1,f2,hlt,k0,k2,k2e];and_intros<;>first|omega|(simp<;>omega))|(simp[vb,e1,f2,hlt,k0,k2,k2e]<;>omega))|((with_reducible show aP _);first|exact True.intro|((try dsimp only[go_sem]);first|(simp[vb,e1,f2,hlt,k0,k2,k2e]<;>omega)|(simp only[vb,and_true,true_implies];(repeat' (first|(with_reducible assumption)|(with_reducible apply And.intro)|intro _|((fail_if_success (with_reducible show(_:Int)≤_));assumption)))<;>first|omega|rfl|(simp only[ab,e1,f2,hlt,k0,k2,k2e];done)|(simp[Nat.mul_one,e1,f2,hlt,k0,k2,k2e]<;>omega)|(simp_all;done))))|exact(rfl:some _=_)|((fail_if_success refine aZ ?_);refine cu [ξ 23 (bU x),ξ 39 (.bool true)] ?_;(repeat1' dsimp only[xp,aa,bp,bU,aJ,br,ar,aG,aC,ai,gU,aW,zf,go_sem]);first|refine ba ?_ ?_ rfl ?_|apply bb|apply bf|(refine bg (fun hc=>?_) fun hc=>?_<;>first|(cases hc;done)|(exfalso;first|(simp at hc<;>omega)|(simp[e1,f2,hlt,k0,k2,k2e]at hc;done))|(try simp only[bn]at hc;try contradiction))|skip))
     exact⟨hlt,trivial,by (repeat' (first|exact trivial|refine And.intro (by first|rfl|(simp[get,Nat.beq]<;>omega)|(dsimp only[get];congr 1<;>first|rfl|omega|(simp<;>omega))) ?_)),_,rfl⟩
    rw[if_neg k2e];repeat' (first|((with_reducible show aI _);first|exact True.intro|(simp only[vb,lb];omega)|(simp only[vb,lb,e1,f2,hlt,k0,k2,k2e];and_intros<;>first|omega|(simp<;>omega))|(simp[vb,e1,f2,hlt,k0,k2,k2e]<;>omega))|((with_reducible show aP _);first|exact True.intro|((try dsimp only[go_sem]);first|(simp[vb,e1,f2,hlt,k0,k2,k2e]<;>omega)|(simp only[vb,and_true,true_implies];(repeat' (first|(with_reducible assumption)|(with_reducible apply And.intro)|intro _|((fail_if_success (with_reducible show(_:Int)≤_));assumption)))<;>first|omega|rfl|(simp only[ab,e1,f2,hlt,k0,k2,k2e];done)|(simp[Nat.mul_one,e1,f2,hlt,k0,k2,k2e]<;>omega)|(simp_all;done))))|exact(rfl:some _=_)|((fail_if_success refine aZ ?_);refine cu [ξ 23 (bU x),ξ 39 (.bool false)] ?_;(repeat1' dsimp only[xp,aa,bp,bU,aJ,br,ar,aG,aC,ai,gU,aW,zf,go_sem]);first|refine ba ?_ ?_ rfl ?_|apply bb|apply bf|(refine bg (fun hc=>?_) fun hc=>?_<;>first|(cases hc;done)|(exfalso;first|(simp at hc<;>omega)|(simp[e1,f2,hlt,k0,k2,k2e]at hc;done))|(try simp only[bn]at hc;try contradiction))|skip))
    exact⟨hlt,trivial,by (repeat' (first|exact trivial|refine And.intro (by first|rfl|(simp[get,Nat.beq]<;>omega)|(dsimp only[get];congr 1<;>first|rfl|omega|(simp<;>omega))) ?_)),_,rfl⟩
   rw[if_neg k2];by_cases k3:x.kind=3
   ·rw[if_pos k3];repeat' (first|((with_reducible show aI _);first|exact True.intro|(simp only[vb,lb];omega)|(simp only[vb,lb,e1,f2,hlt,k0,k2,k3];and_intros<;>first|omega|(simp<;>omega))|(simp[vb,e1,f2,hlt,k0,k2,k3]<;>omega))|((with_reducible show aP _);first|exact True.intro|((try dsimp only[go_sem]);first|(simp[vb,e1,f2,hlt,k0,k2,k3]<;>omega)|(simp only[vb,and_true,true_implies];(repeat' (first|(with_reducible assumption)|(with_reducible apply And.intro)|intro _|((fail_if_success (with_reducible show(_:Int)≤_));assumption)))<;>first|omega|rfl|(simp only[ab,e1,f2,hlt,k0,k2,k3];done)|(simp[Nat.mul_one,e1,f2,hlt,k0,k2,k3]<;>omega)|(simp_all;done))))|exact(rfl:some _=_)|((fail_if_success refine aZ ?_);refine cu [ξ 23 (bU x)] ?_;(repeat1' dsimp only[xp,aa,bp,bU,aJ,br,ar,aG,aC,ai,gU,aW,zf,go_sem]);first|refine ba ?_ ?_ rfl ?_|apply bb|apply bf|(refine bg (fun hc=>?_) fun hc=>?_<;>first|(cases hc;done)|(exfalso;first|(simp at hc<;>omega)|(simp[e1,f2,hlt,k0,k2,k3]at hc;done))|(try simp only[bn]at hc;try contradiction))|skip))
    exact⟨hlt,trivial,by (repeat' (first|exact trivial|refine And.intro (by first|rfl|(simp[get,Nat.beq]<;>omega)|(dsimp only[get];congr 1<;>first|rfl|omega|(simp<;>omega))) ?_)),_,rfl⟩
   rw[if_neg k3];by_cases k4:x.kind=4
   ·rw[if_pos k4];repeat' (first|((with_reducible show aI _);first|exact True.intro|(simp only[vb,lb];omega)|(simp only[vb,lb,e1,f2,hlt,k0,k2,k3,k4];and_intros<;>first|omega|(simp<;>omega))|(simp[vb,e1,f2,hlt,k0,k2,k3,k4]<;>omega))|((with_reducible show aP _);first|exact True.intro|((try dsimp only[go_sem]);first|(simp[vb,e1,f2,hlt,k0,k2,k3,k4]<;>omega)|(simp only[vb,and_true,true_implies];(repeat' (first|(with_reducible assumption)|(with_reducible apply And.intro)|intro _|((fail_if_success (with_reducible show(_:Int)≤_));assumption)))<;>first|omega|rfl|(simp only[ab,e1,f2,hlt,k0,k2,k3,k4];done)|(simp[Nat.mul_one,e1,f2,hlt,k0,k2,k3,k4]<;>omega)|(simp_all;done))))|exact(rfl:some _=_)|((fail_if_success refine aZ ?_);refine cu [ξ 23 (bU x)] ?_;(repeat1' dsimp only[xp,aa,bp,bU,aJ,br,ar,aG,aC,ai,gU,aW,zf,go_sem]);first|refine ba ?_ ?_ rfl ?_|apply bb|apply bf|(refine bg (fun hc=>?_) fun hc=>?_<;>first|(cases hc;done)|(exfalso;first|(simp at hc<;>omega)|(simp[e1,f2,hlt,k0,k2,k3,k4]at hc;done))|(try simp only[bn]at hc;try contradiction))|skip))
    exact⟨hlt,trivial,by (repeat' (first|exact trivial|refine And.intro (by first|rfl|(simp[get,Nat.beq]<;>omega)|(dsimp only[get];congr 1<;>first|rfl|omega|(simp<;>omega))) ?_)),_,rfl⟩
   rw[if_neg k4];by_cases k9:x.kind=9
   ·rw[if_pos k9];repeat' (first|((with_reducible show aI _);first|exact True.intro|(simp only[vb,lb];omega)|(simp only[vb,lb,e1,f2,hlt,k0,k2,k3,k4,k9];and_intros<;>first|omega|(simp<;>omega))|(simp[vb,e1,f2,hlt,k0,k2,k3,k4,k9]<;>omega))|((with_reducible show aP _);first|exact True.intro|((try dsimp only[go_sem]);first|(simp[vb,e1,f2,hlt,k0,k2,k3,k4,k9]<;>omega)|(simp only[vb,and_true,true_implies];(repeat' (first|(with_reducible assumption)|(with_reducible apply And.intro)|intro _|((fail_if_success (with_reducible show(_:Int)≤_));assumption)))<;>first|omega|rfl|(simp only[ab,e1,f2,hlt,k0,k2,k3,k4,k9];done)|(simp[Nat.mul_one,e1,f2,hlt,k0,k2,k3,k4,k9]<;>omega)|(simp_all;done))))|exact(rfl:some _=_)|((fail_if_success refine aZ ?_);refine cu [ξ 23 (bU x)] ?_;(repeat1' dsimp only[xp,aa,bp,bU,aJ,br,ar,aG,aC,ai,gU,aW,zf,go_sem]);first|refine ba ?_ ?_ rfl ?_|apply bb|apply bf|(refine bg (fun hc=>?_) fun hc=>?_<;>first|(cases hc;done)|(exfalso;first|(simp at hc<;>omega)|(simp[e1,f2,hlt,k0,k2,k3,k4,k9]at hc;done))|(try simp only[bn]at hc;try contradiction))|skip))
    exact⟨hlt,trivial,by (repeat' (first|exact trivial|refine And.intro (by first|rfl|(simp[get,Nat.beq]<;>omega)|(dsimp only[get];congr 1<;>first|rfl|omega|(simp<;>omega))) ?_)),_,rfl⟩
   rw[if_neg k9];by_cases k5:x.kind=5
   ·rw[if_pos k5];repeat' (first|((with_reducible show aI _);first|exact True.intro|(simp only[vb,lb];omega)|(simp only[vb,lb,e1,f2,hlt,k0,k2,k3,k4,k9,k5];and_intros<;>first|omega|(simp<;>omega))|(simp[vb,e1,f2,hlt,k0,k2,k3,k4,k9,k5]<;>omega))|((with_reducible show aP _);first|exact True.intro|((try dsimp only[go_sem]);first|(simp[vb,e1,f2,hlt,k0,k2,k3,k4,k9,k5]<;>omega)|(simp only[vb,and_true,true_implies];(repeat' (first|(with_reducible assumption)|(with_reducible apply And.intro)|intro _|((fail_if_success (with_reducible show(_:Int)≤_));assumption)))<;>first|omega|rfl|(simp only[ab,e1,f2,hlt,k0,k2,k3,k4,k9,k5];done)|(simp[Nat.mul_one,e1,f2,hlt,k0,k2,k3,k4,k9,k5]<;>omega)|(simp_all;done))))|exact(rfl:some _=_)|((fail_if_success refine aZ ?_);refine cu [ξ 23 (bU x)] ?_;(repeat1' dsimp only[xp,aa,bp,bU,aJ,br,ar,aG,aC,ai,gU,aW,zf,go_sem]);first|refine ba ?_ ?_ rfl ?_|apply bb|apply bf|(refine bg (fun hc=>?_) fun hc=>?_<;>first|(cases hc;done)|(exfalso;first|(simp at hc<;>omega)|(simp[e1,f2,hlt,k0,k2,k3,k4,k9,k5]at hc;done))|(try simp only[bn]at hc;try contradiction))|skip))
    exact⟨hlt,trivial,by (repeat' (first|exact trivial|refine And.intro (by first|rfl|(simp[get,Nat.beq]<;>omega)|(dsimp only[get];congr 1<;>first|rfl|omega|(simp<;>omega))) ?_)),_,rfl⟩
   rw[if_neg k5];by_cases k6:x.kind=6
   ·rw[if_pos k6];repeat' (first|((with_reducible show aI _);first|exact True.intro|(simp only[vb,lb];omega)|(simp only[vb,lb,e1,f2,hlt,k0,k2,k3,k4,k9,k5,k6];and_intros<;>first|omega|(simp<;>omega))|(simp[vb,e1,f2,hlt,k0,k2,k3,k4,k9,k5,k6]<;>omega))|((with_reducible show aP _);first|exact True.intro|((try dsimp only[go_sem]);first|(simp[vb,e1,f2,hlt,k0,k2,k3,k4,k9,k5,k6]<;>omega)|(simp only[vb,and_true,true_implies];(repeat' (first|(with_reducible assumption)|(with_reducible apply And.intro)|intro _|((fail_if_success (with_reducible show(_:Int)≤_));assumption)))<;>first|omega|rfl|(simp only[ab,e1,f2,hlt,k0,k2,k3,k4,k9,k5,k6];done)|(simp[Nat.mul_one,e1,f2,hlt,k0,k2,k3,k4,k9,k5,k6]<;>omega)|(simp_all;done))))|exact(rfl:some _=_)|((fail_if_success refine aZ ?_);refine cu [ξ 23 (bU x)] ?_;(repeat1' dsimp only[xp,aa,bp,bU,aJ,br,ar,aG,aC,ai,gU,aW,zf,go_sem]);first|refine ba ?_ ?_ rfl ?_|apply bb|apply bf|(refine bg (fun hc=>?_) fun hc=>?_<;>first|(cases hc;done)|(exfalso;first|(simp at hc<;>omega)|(simp[e1,f2,hlt,k0,k2,k3,k4,k9,k5,k6]at hc;done))|(try simp only[bn]at hc;try contradiction))|skip))
    exact⟨hlt,trivial,by (repeat' (first|exact trivial|refine And.intro (by first|rfl|(simp[get,Nat.beq]<;>omega)|(dsimp only[get];congr 1<;>first|rfl|omega|(simp<;>omega))) ?_)),_,rfl⟩
   rw[if_neg k6];by_cases k8:x.kind=8
   ·rw[if_pos k8];repeat' (first|((with_reducible show aI _);first|exact True.intro|(simp only[vb,lb];omega)|(simp only[vb,lb,e1,f2,hlt,k0,k2,k3,k4,k9,k5,k6,k8];and_intros<;>first|omega|(simp<;>omega))|(simp[vb,e1,f2,hlt,k0,k2,k3,k4,k9,k5,k6,k8]<;>omega))|((with_reducible show aP _);first|exact True.intro|((try dsimp only[go_sem]);first|(simp[vb,e1,f2,hlt,k0,k2,k3,k4,k9,k5,k6,k8]<;>omega)|(simp only[vb,and_true,true_implies];(repeat' (first|(with_reducible assumption)|(with_reducible apply And.intro)|intro _|((fail_if_success (with_reducible show(_:Int)≤_));assumption)))<;>first|omega|rfl|(simp only[ab,e1,f2,hlt,k0,k2,k3,k4,k9,k5,k6,k8];done)|(simp[Nat.mul_one,e1,f2,hlt,k0,k2,k3,k4,k9,k5,k6,k8]<;>omega)|(simp_all;done))))|exact(rfl:some _=_)|((fail_if_success refine aZ ?_);refine cu [ξ 23 (bU x)] ?_;(repeat1' dsimp only[xp,aa,bp,bU,aJ,br,ar,aG,aC,ai,gU,aW,zf,go_sem]);first|refine ba ?_ ?_ rfl ?_|apply bb|apply bf|(refine bg (fun hc=>?_) fun hc=>?_<;>first|(cases hc;done)|(exfalso;first|(simp at hc<;>omega)|(simp[e1,f2,hlt,k0,k2,k3,k4,k9,k5,k6,k8]at hc;done))|(try simp only[bn]at hc;try contradiction))|skip))
    exact⟨hlt,trivial,by (repeat' (first|exact trivial|refine And.intro (by first|rfl|(simp[get,Nat.beq]<;>omega)|(dsimp only[get];congr 1<;>first|rfl|omega|(simp<;>omega))) ?_)),_,rfl⟩
   rw[if_neg k8];repeat' (first|((with_reducible show aI _);first|exact True.intro|(simp only[vb,lb];omega)|(simp only[vb,lb,e1,f2,hlt,k0,k2,k3,k4,k9,k5,k6,k8];and_intros<;>first|omega|(simp<;>omega))|(simp[vb,e1,f2,hlt,k0,k2,k3,k4,k9,k5,k6,k8]<;>omega))|((with_reducible show aP _);first|exact True.intro|((try dsimp only[go_sem]);first|(simp[vb,e1,f2,hlt,k0,k2,k3,k4,k9,k5,k6,k8]<;>omega)|(simp only[vb,and_true,true_implies];(repeat' (first|(with_reducible assumption)|(with_reducible apply And.intro)|intro _|((fail_if_success (with_reducible show(_:Int)≤_));assumption)))<;>first|omega|rfl|(simp only[ab,e1,f2,hlt,k0,k2,k3,k4,k9,k5,k6,k8];done)|(simp[Nat.mul_one,e1,f2,hlt,k0,k2,k3,k4,k9,k5,k6,k8]<;>omega)|(simp_all;done))))|exact(rfl:some _=_)|((fail_if_success refine aZ ?_);refine cu [ξ 23 (bU x)] ?_;(repeat1' dsimp only[xp,aa,bp,bU,aJ,br,ar,aG,aC,ai,gU,aW,zf,go_sem]);first|refine ba ?_ ?_ rfl ?_|apply bb|apply bf|(refine bg (fun hc=>?_) fun hc=>?_<;>first|(cases hc;done)|(exfalso;first|(simp at hc<;>omega)|(simp[e1,f2,hlt,k0,k2,k3,k4,k9,k5,k6,k8]at hc;done))|(try simp only[bn]at hc;try contradiction))|skip))
   exact⟨hlt,trivial,by (repeat' (first|exact trivial|refine And.intro (by first|rfl|(simp[get,Nat.beq]<;>omega)|(dsimp only[get];congr 1<;>first|rfl|omega|(simp<;>omega))) ?_)),_,rfl⟩
  obtain rfl:k=h.l.length:=by omega
  repeat' (first|((with_reducible show aI _);first|exact True.intro|(simp only[vb,lb];omega)|(simp only[vb,lb,hlt,f2];and_intros<;>first|omega|(simp<;>omega))|(simp[vb,hlt,f2]<;>omega))|((with_reducible show aP _);first|exact True.intro|((try dsimp only[go_sem]);first|(simp[vb,hlt,f2]<;>omega)|(simp only[vb,and_true,true_implies];(repeat' (first|(with_reducible assumption)|(with_reducible apply And.intro)|intro _|((fail_if_success (with_reducible show(_:Int)≤_));assumption)))<;>first|omega|rfl|(simp only[ab,hlt,f2];done)|(simp[Nat.mul_one,hlt,f2]<;>omega)|(simp_all;done))))|exact(rfl:some _=_)|((fail_if_success refine aZ ?_);refine bJ ?_;(repeat1' dsimp only[xp,aa,bp,bU,aJ,br,ar,aG,aC,ai,gU,aW,zf,go_sem]);first|refine ba ?_ ?_ rfl ?_|apply bb|apply bf|(refine bg (fun hc=>?_) fun hc=>?_<;>first|(cases hc;done)|(exfalso;first|(simp at hc<;>omega)|(simp[hlt,f2]at hc;done))|(try simp only[bn]at hc;try contradiction))|skip))
end
section
open Tr
def MV:af:=(⟨_,by conv=>(lhs;reduce;try simp only[bD,Int.cast_ofNat_Int,Int.reduceNegSucc,UInt8.reduceOfNat])⟩:{x // codeOf Tryz.prog 17 (fun _=>false)=some x}).1
theorem Oy:aD Tryz.prog 17 (fun _=>false)=some (MV,[.t 4],32,true):=by kernel_rfl
def Oz:af:=(⟨_,by conv=>(lhs;reduce;try simp only[bD,Int.cast_ofNat_Int,Int.reduceNegSucc,UInt8.reduceOfNat])⟩:{x // codeOf Tryz.prog 23 (fun _=>false)=some x}).1
theorem OA:aD Tryz.prog 23 (fun _=>false)=some (Oz,[.cell 4 4 true],16,true):=by kernel_rfl
theorem sC (h:Hi) (most:Int) (hw:∀x∈h.l,zK x) (hl:h.l.length≤1000000000):ah ctx 17 [eA h,.int .i64 most] (.bool (kU h most)):=by
 have f1:=aU h.state;have f2:=iw h.l;obtain⟨r,hr⟩:∃r,r=kU h most:=⟨_,rfl⟩
 rw[←hr];unfold kU Cu at hr;refine aj (C:=ctx) (Fn.of Oy rfl) rfl ?_;unfold MV;repeat' (first|((with_reducible show aI _);first|exact True.intro|(simp only[vb,lb];omega)|(simp only[vb,lb,f1,f2];and_intros<;>first|omega|(simp<;>omega))|(simp[vb,f1,f2]<;>omega))|((with_reducible show aP _);first|exact True.intro|((try dsimp only[go_sem]);first|(simp[vb,f1,f2]<;>omega)|(simp only[vb,and_true,true_implies];(repeat' (first|(with_reducible assumption)|(with_reducible apply And.intro)|intro _|((fail_if_success (with_reducible show(_:Int)≤_));assumption)))<;>first|omega|rfl|(simp only[ab,f1,f2];done)|(simp[Nat.mul_one,f1,f2]<;>omega)|(simp_all;done))))|exact(rfl:some _=_)|((fail_if_success refine aZ ?_);refine bJ ?_;(repeat1' dsimp only[MV,eA,gy,aa,bp,go_sem]);first|refine ba ?_ ?_ rfl ?_|apply bb|apply bf|(refine bg (fun hc=>?_) fun hc=>?_<;>first|(cases hc;done)|(exfalso;first|(simp at hc<;>omega)|(simp[f1,f2]at hc;done))|(try simp only[bn]at hc;try contradiction))|skip))
 refine de h.l.length (fun k=>(h.l.take k).all (fun x=>decide ((bV x).length≤200))=true) (fun k=>[(1,.pv (.int .i64 most)),(2,.ptr 0 0 0),(5,.pv (.int .i64 k))]) (fun _=>[cL h]) rfl (by (repeat' (first|exact trivial|refine And.intro (by first|rfl|(simp[get,Nat.beq]<;>omega)|(dsimp only[get];congr 1<;>first|rfl|omega|(simp<;>omega))) ?_))) ⟨[],rfl⟩ (fun _=>⟨Nat.zero_le _,rfl,rfl⟩) fun k hk hP=>?_
 simp only[cL];by_cases hlt:k<h.l.length
 ·have e1:=dV aR h.l k zx hlt;have i1:=mb (fun x=>decide ((bV x).length≤200)) h.l k zx hlt;have i2:=uL (fun x=>decide ((bV x).length≤200)) h.l k zx hlt;have hx:=rU (h.l.getD k zx) (hw _ (bX hlt));rw[hP,Bool.true_and]at i1;generalize h.l.getD k zx=x at *;unfold aa bU at hx;repeat' (first|((with_reducible show aI _);first|exact True.intro|(simp only[vb,lb];omega)|(simp only[vb,lb,e1,f2,hlt,hx];and_intros<;>first|omega|(simp<;>omega))|(simp[vb,e1,f2,hlt,hx]<;>omega))|((with_reducible show aP _);first|exact True.intro|((try dsimp only[go_sem]);first|(simp[vb,e1,f2,hlt,hx]<;>omega)|(simp only[vb,and_true,true_implies];(repeat' (first|(with_reducible assumption)|(with_reducible apply And.intro)|intro _|((fail_if_success (with_reducible show(_:Int)≤_));assumption)))<;>first|omega|rfl|(simp only[ab,e1,f2,hlt,hx];done)|(simp[Nat.mul_one,e1,f2,hlt,hx]<;>omega)|(simp_all;done))))|exact(rfl:some _=_)|((fail_if_success refine aZ ?_);refine dS [(40,fun _=>some (aa (bV x)))] [ξ 17 (.agg (aJ x))] ?_;(repeat1' dsimp only[MV,aa,bp,go_sem]);first|refine ba ?_ ?_ rfl ?_|apply bb|apply bf|(refine bg (fun hc=>?_) fun hc=>?_<;>first|(cases hc;done)|(exfalso;first|(simp at hc<;>omega)|(simp[e1,f2,hlt,hx]at hc;done))|(try simp only[bn]at hc;try contradiction))|skip))
  ·rw[hr,i2 (by simp;omega)];rfl
  exact⟨hlt,by rw[i1];simp;omega,by (repeat' (first|exact trivial|refine And.intro (by first|rfl|(simp[get,Nat.beq]<;>omega)|(dsimp only[get];congr 1<;>first|rfl|omega|(simp<;>omega))) ?_)),_,rfl⟩
 obtain rfl:k=h.l.length:=by omega
 rw[List.take_length]at hP;rw[hP,Bool.true_and]at hr;repeat' (first|((with_reducible show aI _);first|exact True.intro|(simp only[vb,lb];omega)|(simp only[vb,lb,hlt,f2];and_intros<;>first|omega|(simp<;>omega))|(simp[vb,hlt,f2]<;>omega))|((with_reducible show aP _);first|exact True.intro|((try dsimp only[go_sem]);first|(simp[vb,hlt,f2]<;>omega)|(simp only[vb,and_true,true_implies];(repeat' (first|(with_reducible assumption)|(with_reducible apply And.intro)|intro _|((fail_if_success (with_reducible show(_:Int)≤_));assumption)))<;>first|omega|rfl|(simp only[ab,hlt,f2];done)|(simp[Nat.mul_one,hlt,f2]<;>omega)|(simp_all;done))))|exact(rfl:some _=_)|((fail_if_success refine aZ ?_);refine bJ ?_;(repeat1' dsimp only[MV,aa,bp,go_sem]);first|refine ba ?_ ?_ rfl ?_|apply bb|apply bf|(refine bg (fun hc=>?_) fun hc=>?_<;>first|(cases hc;done)|(exfalso;first|(simp at hc<;>omega)|(simp[hlt,f2]at hc;done))|(try simp only[bn]at hc;try contradiction))|skip))
 rw[hr,ca];refine congrArg (fun b=>some (PV.bool (_&&b))) ?_;rw[Bool.eq_iff_iff];simp only[decide_eq_true_eq];omega
theorem po {α:Type} {g:α→List PV} {m:Nat} (hg:∀x,(g x).length=m):∀(l:List α) (n:Nat),(l.flatMap g).take (n*m)=(l.take n).flatMap g
 |[],n=>by simp
 |x::r,0=>by simp
 |x::r,n+1=>by
  rw[List.flatMap_cons,List.take_append,hg,List.take_of_length_le (by rw[hg,Nat.succ_mul];omega),show(n+1)*m-m=n*m by rw[Nat.succ_mul];omega,po hg r n,List.take_succ_cons,List.flatMap_cons]
theorem Bk (h:Hi) (n:Nat) (hn:n≤h.l.length):ah ctx 23 [eA h,.int .i64 n] (eA {h with l:=h.l.take n}):=by
 have f1:=aU h.state;have f2:=iw h.l;have e1:=po aR h.l n;have hl:(h.l.take n).length=n:=by rw[List.length_take];omega
 refine aj (C:=ctx) (Fn.of OA rfl) rfl ?_;unfold Oz;repeat' (first|((with_reducible show aI _);first|exact True.intro|(simp only[vb,lb];omega)|(simp only[vb,lb,e1,f1,f2,hn,hl];and_intros<;>first|omega|(simp<;>omega))|(simp[vb,e1,f1,f2,hn,hl]<;>omega))|((with_reducible show aP _);first|exact True.intro|((try dsimp only[go_sem]);first|(simp[vb,e1,f1,f2,hn,hl]<;>omega)|(simp only[vb,and_true,true_implies];(repeat' (first|(with_reducible assumption)|(with_reducible apply And.intro)|intro _|((fail_if_success (with_reducible show(_:Int)≤_));assumption)))<;>first|omega|rfl|(simp only[ab,e1,f1,f2,hn,hl];done)|(simp[Nat.mul_one,e1,f1,f2,hn,hl]<;>omega)|(simp_all;done))))|exact(rfl:some _=_)|((fail_if_success refine aZ ?_);refine cu [ξ 8 (.int .i64 n),ξ 12 (.int .i64 n)] ?_;(repeat1' dsimp only[Oz,eA,gy,aa,bp,go_sem]);first|refine ba ?_ ?_ rfl ?_|apply bb|apply bf|(refine bg (fun hc=>?_) fun hc=>?_<;>first|(cases hc;done)|(exfalso;first|(simp at hc<;>omega)|(simp[e1,f1,f2,hn,hl]at hc;done))|(try simp only[bn]at hc;try contradiction))|skip))
 rw[show((n:Int)-0).toNat=n by omega,e1,hl]
end
section
open Tr
def MX:af:=(⟨_,by conv=>(lhs;reduce;try simp only[bD,Int.cast_ofNat_Int,Int.reduceNegSucc,UInt8.reduceOfNat])⟩:{x // codeOf Tryz.prog 43 (fun _=>false)=some x}).1
theorem OB:aD Tryz.prog 43 (fun _=>false)=some (MX,[.t 4],19,true):=by kernel_rfl
def OC:af:=(⟨_,by conv=>(lhs;reduce;try simp only[bD,Int.cast_ofNat_Int,Int.reduceNegSucc,UInt8.reduceOfNat])⟩:{x // codeOf Tryz.prog 20 (fun _=>false)=some x}).1
theorem OD:aD Tryz.prog 20 (fun _=>false)=some (OC,[.t 2],50,true):=by kernel_rfl
theorem mn (w:List UInt8) (l:List Int) (hw:w.length≤100000) (hl:l.length≤100) (hb:∀n∈l,-9223372036854775808≤n∧n≤9223372036854775807):ah ctx 43 [.str w,aa l] (.str (ke w l)):=by
 have f1:(l.map (PV.int .i64)).length=l.length:=List.length_map ..;obtain⟨r,hr⟩:∃r,r=ke w l:=⟨_,rfl⟩
 rw[←hr];refine aj (C:=ctx) (Fn.of OB rfl) rfl ?_;unfold MX;repeat' (first|((with_reducible show aI _);first|exact True.intro|(simp only[vb,lb];omega)|(simp only[vb,lb,f1];and_intros<;>first|omega|(simp<;>omega))|(simp[vb,f1]<;>omega))|((with_reducible show aP _);first|exact True.intro|((try dsimp only[go_sem]);first|(simp[vb,f1]<;>omega)|(simp only[vb,and_true,true_implies];(repeat' (first|(with_reducible assumption)|(with_reducible apply And.intro)|intro _|((fail_if_success (with_reducible show(_:Int)≤_));assumption)))<;>first|omega|rfl|(simp only[ab,f1];done)|(simp[Nat.mul_one,f1]<;>omega)|(simp_all;done))))|exact(rfl:some _=_)|((fail_if_success refine aZ ?_);refine bJ ?_;(repeat1' dsimp only[MX,aa,go_sem]);first|refine ba ?_ ?_ rfl ?_|apply bb|apply bf|(refine bg (fun hc=>?_) fun hc=>?_<;>first|(cases hc;done)|(exfalso;first|(simp at hc<;>omega)|(simp[f1]at hc;done))|(try simp only[bn]at hc;try contradiction))|skip))
 refine lU (σ:=Nat×List UInt8) (fun s=>s.1≤l.length∧r=ke s.2 (l.drop s.1)∧s.2.length≤w.length+21*s.1) (fun s=>[(0,.pv (.str s.2)),(7,.pv (aa l)),(8,.pv (.int .i64 l.length)),(9,.pv (.int .i64 s.1))]) (fun _=>[]) (fun s=>l.length-s.1) (0,w) ⟨Nat.zero_le _,hr,by simp⟩ (by (repeat' (first|exact trivial|refine And.intro (by first|rfl|(simp[get,Nat.beq]<;>omega)|(dsimp only[get];congr 1<;>first|rfl|omega|(simp<;>omega))) ?_))) ⟨[],rfl⟩ (fun _ _=>⟨Nat.zero_le _,rfl,rfl⟩) fun s hP=>?_
 obtain⟨k,u⟩:=s;obtain⟨p1,p2,p3⟩:=hP;simp only at p1 p2 p3;by_cases hlt:k<l.length
 ·have e1:(l.map (PV.int .i64))[k]?.getD default= .int .i64 (l.getD k 0):=by rw[List.getElem?_map,List.getD,List.getElem?_eq_getElem hlt];rfl
  have hn:=hb _ (bX (d:=0) hlt);rw[AO l k 0 hlt,ke]at p2;generalize l.getD k 0=n at *;have hI:=zy n hn.1 hn.2;have hL:=dk n hn.1 hn.2;have hR:=yv u (Lib.itoa n) (by omega) (by omega) (fun e=>zM n (by rw[e];simp));have hrl:=wR u (Lib.itoa n);generalize pe u (Lib.itoa n)=v at *;generalize Lib.itoa n=t at *;repeat' (first|((with_reducible show aI _);first|exact True.intro|(simp only[vb,lb];omega)|(simp only[vb,lb,e1,f1,hlt,hI,hR];and_intros<;>first|omega|(simp<;>omega))|(simp[vb,e1,f1,hlt,hI,hR]<;>omega))|((with_reducible show aP _);first|exact True.intro|((try dsimp only[go_sem]);first|(simp[vb,e1,f1,hlt,hI,hR]<;>omega)|(simp only[vb,and_true,true_implies];(repeat' (first|(with_reducible assumption)|(with_reducible apply And.intro)|intro _|((fail_if_success (with_reducible show(_:Int)≤_));assumption)))<;>first|omega|rfl|(simp only[ab,e1,f1,hlt,hI,hR];done)|(simp[Nat.mul_one,e1,f1,hlt,hI,hR]<;>omega)|(simp_all;done))))|exact(rfl:some _=_)|((fail_if_success refine aZ ?_);refine dS [(45,fun _=>some (.str t)),(44,fun _=>some (.str v))] [ξ 12 (.int .i64 n)] ?_;(repeat1' dsimp only[MX,aa,go_sem]);first|refine ba ?_ ?_ rfl ?_|apply bb|apply bf|(refine bg (fun hc=>?_) fun hc=>?_<;>first|(cases hc;done)|(exfalso;first|(simp at hc<;>omega)|(simp[e1,f1,hlt,hI,hR]at hc;done))|(try simp only[bn]at hc;try contradiction))|skip))
  exact⟨(k+1,v),by show l.length-(k+1)<l.length-k;omega,⟨by show k+1≤_;omega,p2,by show v.length≤w.length+21*(k+1);omega⟩,by (repeat' (first|exact trivial|refine And.intro (by first|rfl|(simp[get,Nat.beq]<;>omega)|(dsimp only[get];congr 1<;>first|rfl|omega|(simp<;>omega))) ?_)),_,rfl⟩
 obtain rfl:k=l.length:=by omega
 rw[List.drop_length,ke]at p2;rw[p2];repeat' (first|((with_reducible show aI _);first|exact True.intro|(simp only[vb,lb];omega)|(simp only[vb,lb,hlt];and_intros<;>first|omega|(simp<;>omega))|(simp[vb,hlt]<;>omega))|((with_reducible show aP _);first|exact True.intro|((try dsimp only[go_sem]);first|(simp[vb,hlt]<;>omega)|(simp only[vb,and_true,true_implies];(repeat' (first|(with_reducible assumption)|(with_reducible apply And.intro)|intro _|((fail_if_success (with_reducible show(_:Int)≤_));assumption)))<;>first|omega|rfl|(simp only[ab,hlt];done)|(simp[Nat.mul_one,hlt]<;>omega)|(simp_all;done))))|exact(rfl:some _=_)|((fail_if_success refine aZ ?_);refine bJ ?_;(repeat1' dsimp only[MX,aa,go_sem]);first|refine ba ?_ ?_ rfl ?_|apply bb|apply bf|(refine bg (fun hc=>?_) fun hc=>?_<;>first|(cases hc;done)|(exfalso;first|(simp at hc<;>omega)|(simp[hlt]at hc;done))|(try simp only[bn]at hc;try contradiction))|skip))
theorem pt (f:Fi) (hf:pI f):ah ctx 20 [.agg (gU f)] (gS (eC f)):=by
 have x0:=mn [115,117,98,109,105,116,116,101,100,32,78,44,32,101,120,101,99,117,116,101,100,32,78,44,32,114,101,102,117,115,101,100,32,78,44,32,119,97,105,116,101,100,32,78,44,32,111,112,101,110,32,78] [f.submitted,f.executed,f.refused,f.waited,f.opn] (by simp) (by simp) (fun n hn=>⟨hf.1 n (by simp[aW]at hn ⊢;rcases hn with hn|hn|hn|hn|hn<;>simp[hn]),hf.2 n (by simp[aW]at hn ⊢;rcases hn with hn|hn|hn|hn|hn<;>simp[hn])⟩)
 have x1:=mn [101,118,101,110,116,115,32,78,44,32,100,101,108,105,118,101,114,105,101,115,32,78] [f.events,f.deliveries] (by simp) (by simp) (fun n hn=>⟨hf.1 n (by simp[aW]at hn ⊢;rcases hn with hn|hn<;>simp[hn]),hf.2 n (by simp[aW]at hn ⊢;rcases hn with hn|hn<;>simp[hn])⟩);have x2:=mn [114,101,97,100,115,32,78,44,32,119,97,105,116,115,32,78,44,32,98,117,115,121,32,78] [f.reads,f.waits,f.busy] (by simp) (by simp) (fun n hn=>⟨hf.1 n (by simp[aW]at hn ⊢;rcases hn with hn|hn|hn<;>simp[hn]),hf.2 n (by simp[aW]at hn ⊢;rcases hn with hn|hn|hn<;>simp[hn])⟩)
 have x3:=mn [99,114,97,115,104,101,115,32,78,44,32,114,101,115,116,97,114,116,115,32,78,44,32,102,117,108,108,32,78] [f.crashes,f.restarts,f.full] (by simp) (by simp) (fun n hn=>⟨hf.1 n (by simp[aW]at hn ⊢;rcases hn with hn|hn|hn<;>simp[hn]),hf.2 n (by simp[aW]at hn ⊢;rcases hn with hn|hn|hn<;>simp[hn])⟩);have x4:=mn [116,105,99,107,115,32,78,44,32,108,111,110,103,101,115,116,32,78] [f.ticks,f.longest] (by simp) (by simp) (fun n hn=>⟨hf.1 n (by simp[aW]at hn ⊢;rcases hn with hn|hn<;>simp[hn]),hf.2 n (by simp[aW]at hn ⊢;rcases hn with hn|hn<;>simp[hn])⟩)
 have hR:eC f=[ke [115,117,98,109,105,116,116,101,100,32,78,44,32,101,120,101,99,117,116,101,100,32,78,44,32,114,101,102,117,115,101,100,32,78,44,32,119,97,105,116,101,100,32,78,44,32,111,112,101,110,32,78] [f.submitted,f.executed,f.refused,f.waited,f.opn],ke [101,118,101,110,116,115,32,78,44,32,100,101,108,105,118,101,114,105,101,115,32,78] [f.events,f.deliveries],ke [114,101,97,100,115,32,78,44,32,119,97,105,116,115,32,78,44,32,98,117,115,121,32,78] [f.reads,f.waits,f.busy],ke [99,114,97,115,104,101,115,32,78,44,32,114,101,115,116,97,114,116,115,32,78,44,32,102,117,108,108,32,78] [f.crashes,f.restarts,f.full],ke [116,105,99,107,115,32,78,44,32,108,111,110,103,101,115,116,32,78] [f.ticks,f.longest]]:=by
  simp only[eC,C7,List.map_cons,List.map_nil];have key:∀l:List (List UInt8×Int),(∀x∈l,78 ∉ x.1)→yu l=ke (wQ l) (l.map (·.2)):=fun l h=>by
   have:=wS l [] (by simp) h;simpa using this.symm
  rw[key _ (by simp),key _ (by simp),key _ (by simp),key _ (by simp),key _ (by simp)];rfl
 rw[hR];clear hR;obtain⟨s0,h0⟩:∃s,s=ke [115,117,98,109,105,116,116,101,100,32,78,44,32,101,120,101,99,117,116,101,100,32,78,44,32,114,101,102,117,115,101,100,32,78,44,32,119,97,105,116,101,100,32,78,44,32,111,112,101,110,32,78] [f.submitted,f.executed,f.refused,f.waited,f.opn]:=⟨_,rfl⟩
 rw[←h0]at x0;obtain⟨s1,h1⟩:∃s,s=ke [101,118,101,110,116,115,32,78,44,32,100,101,108,105,118,101,114,105,101,115,32,78] [f.events,f.deliveries]:=⟨_,rfl⟩
 rw[←h1]at x1;obtain⟨s2,h2⟩:∃s,s=ke [114,101,97,100,115,32,78,44,32,119,97,105,116,115,32,78,44,32,98,117,115,121,32,78] [f.reads,f.waits,f.busy]:=⟨_,rfl⟩
 rw[←h2]at x2;obtain⟨s3,h3⟩:∃s,s=ke [99,114,97,115,104,101,115,32,78,44,32,114,101,115,116,97,114,116,115,32,78,44,32,102,117,108,108,32,78] [f.crashes,f.restarts,f.full]:=⟨_,rfl⟩
 rw[←h3]at x3;obtain⟨s4,h4⟩:∃s,s=ke [116,105,99,107,115,32,78,44,32,108,111,110,103,101,115,116,32,78] [f.ticks,f.longest]:=⟨_,rfl⟩
 rw[←h4]at x4;simp only[←h0,←h1,←h2,←h3,←h4];clear h0 h1 h2 h3 h4;unfold aa at x0 x1 x2 x3 x4;simp only[List.map_cons,List.map_nil,List.length_cons,List.length_nil]at x0 x1 x2 x3 x4;refine aj (C:=ctx) (Fn.of OD rfl) rfl ?_;unfold OC;repeat' (first|((with_reducible show aI _);first|exact True.intro|(simp only[vb,lb];omega)|(simp only[vb,lb,x0,x1,x2,x3,x4];and_intros<;>first|omega|(simp<;>omega))|(simp[vb,x0,x1,x2,x3,x4]<;>omega))|((with_reducible show aP _);first|exact True.intro|((try dsimp only[go_sem]);first|(simp[vb,x0,x1,x2,x3,x4]<;>omega)|(simp only[vb,and_true,true_implies];(repeat' (first|(with_reducible assumption)|(with_reducible apply And.intro)|intro _|((fail_if_success (with_reducible show(_:Int)≤_));assumption)))<;>first|omega|rfl|(simp only[ab,x0,x1,x2,x3,x4];done)|(simp[Nat.mul_one,x0,x1,x2,x3,x4]<;>omega)|(simp_all;done))))|exact(rfl:some _=_)|((fail_if_success refine aZ ?_);refine cu [ξ 16 (.str s0),ξ 23 (.str s1),ξ 32 (.str s2),ξ 41 (.str s3),ξ 48 (.str s4)] ?_;(repeat1' dsimp only[OC,gU,aW,gS,go_sem]);first|refine ba ?_ ?_ rfl ?_|apply bb|apply bf|(refine bg (fun hc=>?_) fun hc=>?_<;>first|(cases hc;done)|(exfalso;first|(simp at hc<;>omega)|(simp[x0,x1,x2,x3,x4]at hc;done))|(try simp only[bn]at hc;try contradiction))|skip))
end
end Pur
end
section
namespace Pur
open Go.RowKit
section
open Tr
theorem yK {α:Type} (f:α→List Int) (d:α) (l:List α):(List.range l.length).flatMap (fun i=>f (l.getD i d))=l.flatMap f:=by
 have:∀k,k≤l.length→(List.range k).flatMap (fun i=>f (l.getD i d))=(l.take k).flatMap f:=fun k=>by
  induction k with
  |zero=>intro _;rfl
  |succ k ih =>
   intro hk;rw[List.range_succ,List.flatMap_append,ih (by omega),List.take_add_one,List.flatMap_append,List.getElem?_eq_getElem (by omega)];simp[List.getD,List.getElem?_eq_getElem (show k<l.length by omega)]
 rw[this _ (Nat.le_refl _),List.take_length]
theorem iK {α:Type} (f:α→List Int) (d:α) (l:List α):aT (fun i=>f (l.getD i d)) l.length l.length=(l.length:Int)::l.flatMap f:=by
 unfold aT;rw[yK]
theorem J7 (l:List Nd) (i:Nat) (hi:i<l.length):(l.flatMap cX).getD (i*4+0) default= .int .i64 (l.getD i zn).k∧(l.flatMap cX).getD (i*4+1) default= .int .i64 (l.getD i zn).i∧(l.flatMap cX).getD (i*4+2) default= .int .i64 (l.getD i zn).e∧(l.flatMap cX).getD (i*4+3) default= .int .i64 (l.getD i zn).a:=by
 refine⟨?_,?_,?_,?_⟩<;>rw[List.getD,db iv l i zn _ hi (by omega)]<;>rfl
theorem J8 (l:List Qu) (i:Nat) (hi:i<l.length):(l.flatMap ei).getD (i*2+0) default= .int .i64 (l.getD i zq).k∧(l.flatMap ei).getD (i*2+1) default= .int .i64 (l.getD i zq).c:=by
 refine⟨?_,?_⟩<;>rw[List.getD,db gG l i zq _ hi (by omega)]<;>rfl
def Eo:List PV:=[.int .i64 0,.int .i64 0,.int .i64 0,.int .i64 0]
def Ep:List PV:=[.int .i64 0,.int .i64 0]
def kf {α:Type} (f:α→List PV) (z:List PV) (xs:List α) (i:Nat):List PV:=(xs.take i).flatMap f++cj z (xs.length-i)
theorem oF {α:Type} {f:α→List PV} {z:List PV} {m:Nat} (hf:∀x,(f x).length=m) (hz:z.length=m) (xs:List α) (i:Nat) (hi:i≤xs.length):(kf f z xs i).length=xs.length*m:=by
 have hz2:∀n,(cj z n).length=n*m:=fun n=>by
  induction n with
  |zero=>simp[cj]
  |succ n ih=>rw[cj,List.length_append,ih,hz,Nat.succ_mul];omega
 unfold kf;rw[List.length_append,bW hf,hz2,List.length_take,←Nat.add_mul];congr 1;omega
theorem xd {α:Type} (f:α→List PV) (z:List PV) (xs:List α):kf f z xs xs.length=xs.flatMap f:=by simp[kf,cj]
theorem sD {α:Type} {f:α→List PV} {z:List PV} {m:Nat} (hf:∀x,(f x).length=m) (d:α) (xs:List α) (i:Nat) (hi:i<xs.length) :
  ∃A B,A.length=i*m∧kf f z xs i=A++z++B∧kf f z xs (i+1)=A++f (xs.getD i d)++B:=by
 refine⟨(xs.take i).flatMap f,cj z (xs.length-(i+1)),?_,?_,?_⟩
 ·rw[bW hf,List.length_take,Nat.min_eq_left (by omega)]
 ·unfold kf;rw[show xs.length-i=(xs.length-(i+1))+1 by omega,cj,List.append_assoc]
 unfold kf;rw[List.take_add_one,List.flatMap_append,List.getElem?_eq_getElem hi];simp[List.getD,List.getElem?_eq_getElem hi]
theorem set_mid {A B:List PV} (o:Nat) (x y:PV) (h:A.length=o):(A++x::B).set o y=A++y::B:=by
 subst h;rw[List.set_append_right _ _ (Nat.le_refl _),Nat.sub_self,List.set_cons_zero]
theorem J9 (l:List Int) (g:Nat) (off:Nat) (cs:List PV) (gB sB:Nat) (eB:TypeId) (xs:List Nd) (ho:off<cs.length) (hv:cs.getD off default=aG xs) (hl:l.length+((xs.length:Int)::xs.flatMap bu).length≤1000000000) (hx:xs.length≤1000000) :
  aA ctx 412 [.ptr 0 0 0,.ptr 2 gB off,.bm 413 [.ptr 0 0 0]] [az true (.ref 1 (g) 0 (l).length),nB (l) (g),tB cs gB sB eB] (.pv (.tup [])) [az true (.ref 1 (g+((xs.length:Int)::xs.flatMap bu).length) 0 (l++((xs.length:Int)::xs.flatMap bu)).length),nB (l++((xs.length:Int)::xs.flatMap bu)) (g+((xs.length:Int)::xs.flatMap bu).length),tB cs gB sB eB]:=by
 have hacc:=iK bu zn xs;have h:=AU l g off cs gB sB eB xs.length (xs.flatMap cX) (fun i=>bu (xs.getD i zn)) ho hv (ox xs) (by rw[hacc];exact hl) (by omega) fun i hi l g hb=>by
  obtain⟨h0,h1,h2,h3⟩:=J7 xs i hi;exact JB l g (xs.flatMap cX) (i*4) _ _ _ _ cs gB sB eB (by rw[ox];omega) h0 h1 h2 h3 (by simpa [bu]using hb)
 rw[hacc]at h;exact h
theorem Ka (r:List Int) (off:Nat) (cs:List PV) (gB sB:Nat) (eB:TypeId) (xs:List Nd) (ho:off<cs.length) (hv:cs.getD off default= .nilsl) (hl:((xs.length:Int)::xs.flatMap bu).length+r.length≤1000000000) (hx:xs.length≤1000000) :
  aA ctx 412 [.ptr 0 0 0,.ptr 1 gB off,.bm 413 [.ptr 0 0 0]] [az false (.pv (aa (((xs.length:Int)::xs.flatMap bu)++r))),tB cs gB sB eB] (.pv (.tup [])) [az false (.pv (aa (r))),tB (cs.set off (aG xs)) gB sB eB]:=by
 have hacc:=iK bu zn xs;have hz:(kf cX Eo xs xs.length)=xs.flatMap cX:=xd _ _ _;have h:=CP r off cs gB sB eB xs.length (kf cX Eo xs) (fun i=>bu (xs.getD i zn)) ho hv (by simp[kf,Eo]) (by rw[oF iv rfl xs _ (Nat.le_refl _)]) (fun _ _=>by simp[bu]) (by rw[hacc];exact hl) hx fun i hi r hb=>by
  obtain⟨A,B,hA,e1,e2⟩:=sD (z:=Eo) iv zn xs i hi;have h1:=Hu r (0+i*4) (xs.getD i zn).k (xs.getD i zn).i (xs.getD i zn).e (xs.getD i zn).a (kf cX Eo xs i) 0 3 65 (by rw[oF iv rfl xs _ (by omega)];omega) (by simp[bu]at hb;omega);have h2:gQ (kf cX Eo xs i) [0+i*4+0,0+i*4+1,0+i*4+2,0+i*4+3] [(xs.getD i zn).k,(xs.getD i zn).i,(xs.getD i zn).e,(xs.getD i zn).a]=kf cX Eo xs (i+1):=by
   rw[e1,e2];generalize xs.getD i zn=x;show((((A++Eo++B).set (0+i*4+0) (.int .i64 x.k)).set (0+i*4+1) (.int .i64 x.i)).set (0+i*4+2) (.int .i64 x.e)).set (0+i*4+3) (.int .i64 x.a)=_;simp only[Eo,Ep,List.append_assoc,List.cons_append,List.nil_append];rw[set_mid _ _ _ (by omega)];have q1:∀y:PV,A++y::.int .i64 0::.int .i64 0::.int .i64 0::B=(A++[y])++.int .i64 0::.int .i64 0::.int .i64 0::B:=fun y=>by simp
   rw[q1,set_mid _ _ _ (by simp;omega)];have q2:∀y:PV,(A++[.int .i64 x.k])++y::.int .i64 0::.int .i64 0::B=(A++[.int .i64 x.k,y])++.int .i64 0::.int .i64 0::B:=fun y=>by simp
   rw[q2,set_mid _ _ _ (by simp;omega)];have q3:∀y:PV,(A++[.int .i64 x.k,.int .i64 x.i])++y::.int .i64 0::B=(A++[.int .i64 x.k,.int .i64 x.i,y])++.int .i64 0::B:=fun y=>by simp
   rw[q3,set_mid _ _ _ (by simp;omega)];simp[cX]
  rw[h2]at h1;exact h1
 rw[hz]at h;rw[hacc]at h;exact h
theorem OE (l:List Int) (g:Nat) (off:Nat) (cs:List PV) (gB sB:Nat) (eB:TypeId) (xs:List Qu) (ho:off<cs.length) (hv:cs.getD off default=aC xs) (hl:l.length+((xs.length:Int)::xs.flatMap pP).length≤1000000000) (hx:xs.length≤1000000) :
  aA ctx 371 [.ptr 0 0 0,.ptr 2 gB off,.bm 372 [.ptr 0 0 0]] [az true (.ref 1 (g) 0 (l).length),nB (l) (g),tB cs gB sB eB] (.pv (.tup [])) [az true (.ref 1 (g+((xs.length:Int)::xs.flatMap pP).length) 0 (l++((xs.length:Int)::xs.flatMap pP)).length),nB (l++((xs.length:Int)::xs.flatMap pP)) (g+((xs.length:Int)::xs.flatMap pP).length),tB cs gB sB eB]:=by
 have hacc:=iK pP zq xs;have h:=AX l g off cs gB sB eB xs.length (xs.flatMap ei) (fun i=>pP (xs.getD i zq)) ho hv (oz xs) (by rw[hacc];exact hl) (by omega) fun i hi l g hb=>by
  obtain⟨h0,h1⟩:=J8 xs i hi;exact Fk l g (xs.flatMap ei) (i*2) _ _ cs gB sB eB (by rw[oz];omega) h0 h1 (by simpa [pP]using hb)
 rw[hacc]at h;exact h
theorem OF (r:List Int) (off:Nat) (cs:List PV) (gB sB:Nat) (eB:TypeId) (xs:List Qu) (ho:off<cs.length) (hv:cs.getD off default= .nilsl) (hl:((xs.length:Int)::xs.flatMap pP).length+r.length≤1000000000) (hx:xs.length≤1000000) :
  aA ctx 371 [.ptr 0 0 0,.ptr 1 gB off,.bm 372 [.ptr 0 0 0]] [az false (.pv (aa (((xs.length:Int)::xs.flatMap pP)++r))),tB cs gB sB eB] (.pv (.tup [])) [az false (.pv (aa (r))),tB (cs.set off (aC xs)) gB sB eB]:=by
 have hacc:=iK pP zq xs;have hz:(kf ei Ep xs xs.length)=xs.flatMap ei:=xd _ _ _;have h:=CQ r off cs gB sB eB xs.length (kf ei Ep xs) (fun i=>pP (xs.getD i zq)) ho hv (by simp[kf,Ep]) (by rw[oF gG rfl xs _ (Nat.le_refl _)]) (fun _ _=>by simp[pP]) (by rw[hacc];exact hl) hx fun i hi r hb=>by
  obtain⟨A,B,hA,e1,e2⟩:=sD (z:=Ep) gG zq xs i hi;have h1:=JD r (0+i*2) (xs.getD i zq).k (xs.getD i zq).c (kf ei Ep xs i) 0 1 196 (by rw[oF gG rfl xs _ (by omega)];omega) (by simp[pP]at hb;omega);have h2:gQ (kf ei Ep xs i) [0+i*2+0,0+i*2+1] [(xs.getD i zq).k,(xs.getD i zq).c]=kf ei Ep xs (i+1):=by
   rw[e1,e2];generalize xs.getD i zq=x;show((A++Ep++B).set (0+i*2+0) (.int .i64 x.k)).set (0+i*2+1) (.int .i64 x.c)=_;simp only[Eo,Ep,List.append_assoc,List.cons_append,List.nil_append];rw[set_mid _ _ _ (by omega)];have q1:∀y:PV,A++y::.int .i64 0::B=(A++[y])++.int .i64 0::B:=fun y=>by simp
   rw[q1,set_mid _ _ _ (by simp;omega)];simp[ei]
  rw[h2]at h1;exact h1
 rw[hz]at h;rw[hacc]at h;exact h
def pS (xs:List (List Int)) (i:Nat):List PV:=(xs.take i).map aa++cj [.nilsl] (xs.length-i)
theorem Dx (xs:List (List Int)) (i:Nat) (h:i<xs.length):(pS xs i).set i (aa (xs.getD i []))=pS xs (i+1):=by
 have h1:((xs.take i).map aa).length=i:=by simp;omega
 unfold pS;rw[List.set_append_right _ _ (by omega),h1,Nat.sub_self,mi,mi,show xs.length-i=(xs.length-(i+1))+1 by omega,List.replicate_succ,List.set_cons_zero,List.take_add_one,List.map_append,List.append_assoc,List.getElem?_eq_getElem h];simp[List.getD,List.getElem?_eq_getElem h]
theorem MY (l:List Int) (g:Nat) (off:Nat) (cs:List PV) (gB sB:Nat) (eB:TypeId) (xs:List (List Int)) (ho:off<cs.length) (hv:cs.getD off default=ai xs) (hl:l.length+((xs.length:Int)::xs.flatMap an).length≤1000000000) (hx:xs.length≤1000000) :
  aA ctx 373 [.ptr 0 0 0,.ptr 2 gB off,.bm 374 [.ptr 0 0 0]] [az true (.ref 1 (g) 0 (l).length),nB (l) (g),tB cs gB sB eB] (.pv (.tup [])) [az true (.ref 1 (g+((xs.length:Int)::xs.flatMap an).length) 0 (l++((xs.length:Int)::xs.flatMap an)).length),nB (l++((xs.length:Int)::xs.flatMap an)) (g+((xs.length:Int)::xs.flatMap an).length),tB cs gB sB eB]:=by
 have hacc:=iK an [] xs;have h:=AY l g off cs gB sB eB xs.length (xs.map aa) (fun i=>an (xs.getD i [])) ho hv (by simp) (by rw[hacc];exact hl) (by omega) fun i hi l g hb=>by
  have h0:(xs.map aa).getD (i*1) default=aa (xs.getD i []):=by rw[Nat.mul_one,List.getD];exact qd xs i hi
  exact JE l g (xs.map aa) (i*1) cs gB sB eB (xs.getD i []) (by simp;omega) h0 hb
 rw[hacc]at h;exact h
theorem MZ (r:List Int) (off:Nat) (cs:List PV) (gB sB:Nat) (eB:TypeId) (xs:List (List Int)) (ho:off<cs.length) (hv:cs.getD off default= .nilsl) (hl:((xs.length:Int)::xs.flatMap an).length+r.length≤1000000000) (hx:xs.length≤1000000) (hxs:∀x∈xs,x.length≤1000000) :
  aA ctx 373 [.ptr 0 0 0,.ptr 1 gB off,.bm 374 [.ptr 0 0 0]] [az false (.pv (aa (((xs.length:Int)::xs.flatMap an)++r))),tB cs gB sB eB] (.pv (.tup [])) [az false (.pv (aa (r))),tB (cs.set off (ai xs)) gB sB eB]:=by
 have hacc:=iK an [] xs;have hz:pS xs xs.length=xs.map aa:=by simp[pS,cj]
 have h:=CR r off cs gB sB eB xs.length (pS xs) (fun i=>an (xs.getD i [])) ho hv (by simp[pS]) (by rw[hz];simp) (fun _ _=>by simp[an]) (by rw[hacc];exact hl) hx fun i hi r hb=>by
  have h1:=zG r (0+i*1) (pS xs i) 0 0 22 (xs.getD i []) (by simp[pS,mi];omega) (by
   rw[Nat.zero_add,Nat.mul_one,pS,List.getD,List.getElem?_append_right (by simp;omega),mi,List.getElem?_replicate,if_pos (by simp;omega)];rfl) hb (hxs _ (bX hi))
  have h2:(pS xs i).set (0+i*1) (aa (xs.getD i []))=pS xs (i+1):=by
   rw[Nat.mul_one,Nat.zero_add];exact Dx xs i hi
  rw[h2]at h1;exact h1
 rw[hz]at h;rw[hacc]at h;exact h
end
end Pur
end
section
namespace Pur
open Go.RowKit
section
open Tr
def oB (cs:List PV):dI:=tB cs 0 27 71
def zC (t k r:Int):List PV:=[.int .i64 t,.int .i64 k,.int .i64 r,.int .i64 0,.int .i64 0,.int .i64 0,.int .i64 0,.int .i64 0,.int .i64 0,.int .i64 0,.int .i64 0,.nilsl,.int .i64 0,.int .i64 0,.int .i64 0,.nilsl,.int .i64 0,.int .i64 0,.int .i64 0,.int .i64 0,.int .i64 0,.int .i64 0,.int .i64 0,.int .i64 0,.int .i64 0,.nilsl,.nilsl,.nilsl]
def aX:List PV:=[.int .i64 0,.int .i64 0,.int .i64 0,.int .i64 0,.int .i64 0,.nilsl]
def du:List PV:=[.int .i64 0,.int .i64 0,.int .i64 0,.nilsl,.int .i64 0,.int .i64 0,.int .i64 0,.int .i64 0,.int .i64 0,.int .i64 0,.int .i64 0,.int .i64 0,.int .i64 0]
def z3 (t k r:Int):List PV:=[.int .i64 t,.int .i64 k,.int .i64 r,.int .i64 0,.int .i64 0,.int .i64 0]
def Dy:af:=(⟨_,by conv=>(lhs;reduce;try simp only[bD,Int.cast_ofNat_Int,Int.reduceNegSucc,UInt8.reduceOfNat])⟩:{x // codeOf Tryz.prog 367 (fun d=>Nat.beq d 22)=some x}).1
theorem Hz:aD Tryz.prog 367 (fun d=>Nat.beq d 22)=some (Dy,[],31,true):=by kernel_rfl
def Kb:af:=(⟨_,by conv=>(lhs;reduce;try simp only[bD,Int.cast_ofNat_Int,Int.reduceNegSucc,UInt8.reduceOfNat])⟩:{x // codeOf Tryz.prog 369 (fun d=>Nat.beq d 14||Nat.beq d 28||Nat.beq d 45)=some x}).1
theorem HA:aD Tryz.prog 369 (fun d=>Nat.beq d 14||Nat.beq d 28||Nat.beq d 45)=some (Kb,[],47,true):=by kernel_rfl
theorem Dz (l:List Int) (g:Nat) (x:En) (hl:l.length+(bT x.out).length≤1000000000) (hx:x.out.needs.length≤1000000) :
  aA ctx 367 [.ptr 0 0 0,.ptr 2 0 6] [az true (.ref 1 (g) 0 (l).length),nB (l) (g),oB (aJ x)] (.pv (.tup [])) [az true (.ref 1 (g+(bT x.out).length) 0 (l++bT x.out).length),nB (l++bT x.out) (g+(bT x.out).length),oB (aJ x)]:=by
 have h1:=mg (l) (g) [.ptr 2 0 6,.ptr 2 0 7,.ptr 2 0 8,.ptr 2 0 9,.ptr 2 0 10] [x.out.ser,x.out.kind,x.out.num,x.out.rk,x.out.ri] ((aJ x).map .pv) 0 27 71 ⟨qe (by rw[aR];omega) rfl,qe (by rw[aR];omega) rfl,qe (by rw[aR];omega) rfl,qe (by rw[aR];omega) rfl,qe (by rw[aR];omega) rfl,trivial⟩ (by simp only[List.length_append,List.length_cons,List.length_nil,an,bT,eQ,bu]at hl ⊢;omega) (aM _ _) (by rfl)
 have h2:=J9 (l++[x.out.ser,x.out.kind,x.out.num,x.out.rk,x.out.ri]) (g+5) 11 (aJ x) 0 27 71 x.out.needs (by rw[aR];omega) rfl (by simp only[List.length_append,List.length_cons,List.length_nil,an,bT,eQ,bu]at hl ⊢;omega) hx;have h2:=dh (E:=[oB (aJ x)]) h2 [2] [oB (aJ x),aK [.ptr 2 0 6,.ptr 2 0 7,.ptr 2 0 8,.ptr 2 0 9,.ptr 2 0 10]] (by decide) (by simp) (fun _ _=>⟨by rw[oB,dH];rfl,trivial⟩) (by simp only[List.all_cons,List.all_nil,oB,tB,aM];rfl) (by simp[cC,Nat.blt]) rfl
 have e1:(l++[x.out.ser,x.out.kind,x.out.num,x.out.rk,x.out.ri])++((x.out.needs.length:Int)::x.out.needs.flatMap bu)=l++bT x.out:=by simp[bT]
 have e2:g+5+((x.out.needs.length:Int)::x.out.needs.flatMap bu).length=g+(bT x.out).length:=by simp only[bT,List.length_append,List.length_cons,List.length_nil];omega
 rw[e1,e2]at h2;have hno:=eo (l++bT x.out) 3;have hcc:=aM (aJ x) 3;refine aH (C:=ctx) (Fn.of Hz rfl) rfl (by simp) rfl (by simp only[aY,az,nB,oB,tB,List.all_cons,List.all_nil,List.length_cons,List.length_nil,Nat.zero_add,Nat.reduceAdd,hcc,hno];rfl) ?_;unfold Dy
 refine cK (cw (T:=[]) (H:=[(23,{val:=some (.pv (.tup [])),mem:=some ([az true (.ref 1 (g+5) 0 (l++[x.out.ser,x.out.kind,x.out.num,x.out.rk,x.out.ri]).length),nB (l++[x.out.ser,x.out.kind,x.out.num,x.out.rk,x.out.ri]) (g+5),oB (aJ x),aK [.ptr 2 0 6,.ptr 2 0 7,.ptr 2 0 8,.ptr 2 0 9,.ptr 2 0 10]])})]) (by rfl) ?_);dsimp only[bk,az,nB,aK,oB,tB,go_sem];try dsimp only[az,nB,aK,oB,tB,go_sem]
 refine⟨(by simp[vb]<;>omega),?_,?_⟩
 ·exact⟨h1,trivial⟩
 repeat' (first|((with_reducible first|show aI _|show aP _);simp[vb]<;>omega)|exact(rfl:some _=_)|((fail_if_success refine aZ ?_);refine cu [(30,{val:=some (.pv (.tup [])),mem:=some ([az true (.ref 1 (g+(bT x.out).length) 0 (l++bT x.out).length),nB (l++bT x.out) (g+(bT x.out).length),oB (aJ x),aK [.ptr 2 0 6,.ptr 2 0 7,.ptr 2 0 8,.ptr 2 0 9,.ptr 2 0 10]])})] ?_;(repeat1' dsimp only[Dy,az,nB,aK,oB,tB,go_sem]);first|refine ba ?_ ?_ rfl ?_|apply bb|apply bf|(refine bg (fun hc=>?_) fun hc=>?_<;>first|(cases hc;done)|(exfalso;simp at hc<;>omega)|(try simp only[bn]at hc;try contradiction))|skip))
 all_goals first|exact⟨h2,trivial⟩|exact⟨⟨trivial,rfl⟩,_,rfl⟩
theorem DA (s:List Int) (t k r:Int) (o:Oc) (hl:(bT o).length+s.length≤1000000000) (hx:o.needs.length≤1000000) :
  aA ctx 367 [.ptr 0 0 0,.ptr 1 0 6] [az false (.pv (aa (bT o++s))),oB (zC t k r)] (.pv (.tup [])) [az false (.pv (aa (s))),oB (z3 t k r++br o++du++[.nilsl,.nilsl,.nilsl])]:=by
 have e1:bT o++s=[o.ser,o.kind,o.num,o.rk,o.ri]++(((o.needs.length:Int)::o.needs.flatMap bu)++s):=by simp[bT]
 rw[e1];have h1:=jZ (((o.needs.length:Int)::o.needs.flatMap bu)++s) [o.ser,o.kind,o.num,o.rk,o.ri] [6,7,8,9,10] (List.map AV.pv (zC t k r:List PV)) 0 27 71 rfl (by simp[zC,z3,aX,du,br,ar]) (by simp only[List.length_append,List.length_cons,List.length_nil,an,bT,eQ,bu]at hl ⊢;omega) (aM _ _);rw[ef]at h1;rw[show gQ (zC t k r) [6,7,8,9,10] [o.ser,o.kind,o.num,o.rk,o.ri]=(z3 t k r++[.int .i64 o.ser,.int .i64 o.kind,.int .i64 o.num,.int .i64 o.rk,.int .i64 o.ri,.nilsl]++du++[.nilsl,.nilsl,.nilsl]:List PV) from rfl]at h1
 have h2:=Ka s 11 (z3 t k r++[.int .i64 o.ser,.int .i64 o.kind,.int .i64 o.num,.int .i64 o.rk,.int .i64 o.ri,.nilsl]++du++[.nilsl,.nilsl,.nilsl]) 0 27 71 o.needs (by simp[z3,du]) rfl (by simp only[List.length_append,List.length_cons,List.length_nil,an,bT,eQ,bu]at hl ⊢;omega) hx;rw[show List.set (z3 t k r++[.int .i64 o.ser,.int .i64 o.kind,.int .i64 o.num,.int .i64 o.rk,.int .i64 o.ri,.nilsl]++du++[.nilsl,.nilsl,.nilsl]:List PV) 11 (aG o.needs)=(z3 t k r++br o++du++[.nilsl,.nilsl,.nilsl]:List PV) from rfl]at h2
 have h2:=cW (E:=[]) (cs:=z3 t k r++[.int .i64 o.ser,.int .i64 o.kind,.int .i64 o.num,.int .i64 o.rk,.int .i64 o.ri,.nilsl]++du++[.nilsl,.nilsl,.nilsl]) (cs':=z3 t k r++br o++du++[.nilsl,.nilsl,.nilsl]) h2 0 [] [oB (z3 t k r++[.int .i64 o.ser,.int .i64 o.kind,.int .i64 o.num,.int .i64 o.rk,.int .i64 o.ri,.nilsl]++du++[.nilsl,.nilsl,.nilsl]),aK [.ptr 1 0 6,.ptr 1 0 7,.ptr 1 0 8,.ptr 1 0 9,.ptr 1 0 10]] (by decide) rfl (by simp) (fun _ _=>trivial) (by rfl) (by simp[cC,Nat.blt]) rfl;have hcc:=aM (z3 t k r++br o++du++[.nilsl,.nilsl,.nilsl]) 2
 refine aH (C:=ctx) (Fn.of Hz rfl) rfl (by simp) rfl (by simp only[aY,az,oB,tB,List.all_cons,List.all_nil,List.length_cons,List.length_nil,Nat.zero_add,Nat.reduceAdd,hcc];rfl) ?_;unfold Dy;refine cK (cw (T:=[]) (H:=[(23,{val:=some (.pv (.tup [])),mem:=some ([az false (.pv (aa (((o.needs.length:Int)::o.needs.flatMap bu)++s))),oB (z3 t k r++[.int .i64 o.ser,.int .i64 o.kind,.int .i64 o.num,.int .i64 o.rk,.int .i64 o.ri,.nilsl]++du++[.nilsl,.nilsl,.nilsl]),aK [.ptr 1 0 6,.ptr 1 0 7,.ptr 1 0 8,.ptr 1 0 9,.ptr 1 0 10]])})]) (by rfl) ?_)
 dsimp only[bk,az,nB,aK,oB,tB,go_sem];try dsimp only[az,nB,aK,oB,tB,go_sem]
 refine⟨(by simp[vb]<;>omega),?_,?_⟩
 ·exact⟨h1,trivial⟩
 repeat' (first|((with_reducible first|show aI _|show aP _);simp[vb]<;>omega)|exact(rfl:some _=_)|((fail_if_success refine aZ ?_);refine cu [(30,{val:=some (.pv (.tup [])),mem:=some ([az false (.pv (aa (s))),oB (z3 t k r++br o++du++[.nilsl,.nilsl,.nilsl]),aK [.ptr 1 0 6,.ptr 1 0 7,.ptr 1 0 8,.ptr 1 0 9,.ptr 1 0 10]])})] ?_;(repeat1' dsimp only[Dy,az,nB,aK,oB,tB,go_sem]);first|refine ba ?_ ?_ rfl ?_|apply bb|apply bf|(refine bg (fun hc=>?_) fun hc=>?_<;>first|(cases hc;done)|(exfalso;simp at hc<;>omega)|(try simp only[bn]at hc;try contradiction))|skip))
 all_goals first|exact⟨h2,trivial⟩|exact⟨⟨trivial,rfl⟩,_,rfl⟩
theorem Kc (l:List Int) (g:Nat) (x:En) (hl:l.length+(eQ x.ev).length≤1000000000) (hx:x.ev.past.length≤1000000) :
  aA ctx 369 [.ptr 0 0 0,.ptr 2 0 12] [az true (.ref 1 (g) 0 (l).length),nB (l) (g),oB (aJ x)] (.pv (.tup [])) [az true (.ref 1 (g+(eQ x.ev).length) 0 (l++eQ x.ev).length),nB (l++eQ x.ev) (g+(eQ x.ev).length),oB (aJ x)]:=by
 have h1:=mg (l) (g) [.ptr 2 0 12,.ptr 2 0 13,.ptr 2 0 14] [x.ev.rep,x.ev.num,x.ev.time] ((aJ x).map .pv) 0 27 71 ⟨qe (by rw[aR];omega) rfl,qe (by rw[aR];omega) rfl,qe (by rw[aR];omega) rfl,trivial⟩ (by simp only[List.length_append,List.length_cons,List.length_nil,an,bT,eQ,bu]at hl ⊢;omega) (aM _ _) (by rfl);have h2:=yq ((l)++[x.ev.rep,x.ev.num,x.ev.time]) (g+3) 15 (aJ x) 0 27 71 x.ev.past (by rw[aR];omega) rfl (by simp only[List.length_append,List.length_cons,List.length_nil,an,bT,eQ,bu]at hl ⊢;omega)
 have h2:=dh (E:=[oB (aJ x)]) h2 [2] [oB (aJ x),aK [.ptr 2 0 12,.ptr 2 0 13,.ptr 2 0 14]] (by decide) (by simp) (fun _ _=>⟨by rw[oB,dH];rfl,trivial⟩) (by simp only[List.all_cons,List.all_nil,oB,tB,aM];rfl) (by simp[cC,Nat.blt]) rfl
 have h3:=mg (((l)++[x.ev.rep,x.ev.num,x.ev.time])++an x.ev.past) (g+3+(an x.ev.past).length) [.ptr 2 0 16,.ptr 2 0 17] [x.ev.kind,x.ev.act] ((aJ x).map .pv) 0 27 71 ⟨qe (by rw[aR];omega) rfl,qe (by rw[aR];omega) rfl,trivial⟩ (by simp only[List.length_append,List.length_cons,List.length_nil,an,bT,eQ,bu]at hl ⊢;omega) (aM _ _) (by rfl)
 have h3:=dh (E:=[oB (aJ x),aK [.ptr 2 0 16,.ptr 2 0 17]]) h3 [2,4] [oB (aJ x),aK [.ptr 2 0 12,.ptr 2 0 13,.ptr 2 0 14],aK [.ptr 2 0 16,.ptr 2 0 17]] (by decide) (by simp) (fun _ _=>⟨by rw[oB,dH];rfl,rfl,trivial⟩) (by simp only[List.all_cons,List.all_nil,oB,tB,aM];rfl) (by simp[cC,Nat.blt]) rfl
 have h4:=JC ((((l)++[x.ev.rep,x.ev.num,x.ev.time])++an x.ev.past)++[x.ev.kind,x.ev.act]) (g+3+(an x.ev.past).length+2) 18 x.ev.give.k x.ev.give.i x.ev.give.e x.ev.give.a (aJ x) 0 27 71 (by rw[aR];omega) rfl rfl rfl rfl (by simp only[List.length_append,List.length_cons,List.length_nil,an,bT,eQ,bu]at hl ⊢;omega)
 have h4:=dh (E:=[oB (aJ x)]) h4 [2] [oB (aJ x),aK [.ptr 2 0 12,.ptr 2 0 13,.ptr 2 0 14],aK [.ptr 2 0 16,.ptr 2 0 17]] (by decide) (by simp) (fun _ _=>⟨by rw[oB,dH];rfl,trivial⟩) (by simp only[List.all_cons,List.all_nil,oB,tB,aM];rfl) (by simp[cC,Nat.blt]) rfl
 have h5:=mg (((((l)++[x.ev.rep,x.ev.num,x.ev.time])++an x.ev.past)++[x.ev.kind,x.ev.act])++[x.ev.give.k,x.ev.give.i,x.ev.give.e,x.ev.give.a]) (g+3+(an x.ev.past).length+2+4) [.ptr 2 0 22,.ptr 2 0 23,.ptr 2 0 24] [x.ev.tgt,x.ev.place,x.ev.ser] ((aJ x).map .pv) 0 27 71 ⟨qe (by rw[aR];omega) rfl,qe (by rw[aR];omega) rfl,qe (by rw[aR];omega) rfl,trivial⟩ (by simp only[List.length_append,List.length_cons,List.length_nil,an,bT,eQ,bu]at hl ⊢;omega) (aM _ _) (by rfl)
 have h5:=dh (E:=[oB (aJ x),aK [.ptr 2 0 22,.ptr 2 0 23,.ptr 2 0 24]]) h5 [2,5] [oB (aJ x),aK [.ptr 2 0 12,.ptr 2 0 13,.ptr 2 0 14],aK [.ptr 2 0 16,.ptr 2 0 17],aK [.ptr 2 0 22,.ptr 2 0 23,.ptr 2 0 24]] (by decide) (by simp) (fun _ _=>⟨by rw[oB,dH];rfl,rfl,trivial⟩) (by simp only[List.all_cons,List.all_nil,oB,tB,aM];rfl) (by simp[cC,Nat.blt]) rfl;have e1:(((((l)++[x.ev.rep,x.ev.num,x.ev.time])++an x.ev.past)++[x.ev.kind,x.ev.act])++[x.ev.give.k,x.ev.give.i,x.ev.give.e,x.ev.give.a])++[x.ev.tgt,x.ev.place,x.ev.ser]=l++eQ x.ev:=by simp[eQ,bu]
 have e2:g+3+(an x.ev.past).length+2+4+3=g+(eQ x.ev).length:=by simp only[eQ,bu,List.length_append,List.length_cons,List.length_nil];omega
 have hno:=eo (l++eQ x.ev) 3;have hcc:=aM (aJ x) 3;rw[←e1,←e2]at *;refine aH (C:=ctx) (Fn.of HA rfl) rfl (by simp) rfl (by simp only[aY,az,nB,oB,tB,List.all_cons,List.all_nil,List.length_cons,List.length_nil,Nat.zero_add,Nat.reduceAdd,hcc,hno];rfl) ?_;unfold Kb;refine cK (cw (T:=[]) (H:=[(15,{val:=some (.pv (.tup [])),mem:=some ([az true (.ref 1 (g+3) 0 ((l)++[x.ev.rep,x.ev.num,x.ev.time]).length),nB ((l)++[x.ev.rep,x.ev.num,x.ev.time]) (g+3),oB (aJ x),aK [.ptr 2 0 12,.ptr 2 0 13,.ptr 2 0 14]])})]) (by rfl) ?_);dsimp only[bk,az,nB,aK,oB,tB,go_sem]
 try dsimp only[az,nB,aK,oB,tB,go_sem]
 refine⟨(by simp[vb]<;>omega),?_,?_⟩
 ·exact⟨h1,trivial⟩
 refine cu [(20,{val:=some (.pv (.tup [])),mem:=some ([az true (.ref 1 (g+3+(an x.ev.past).length) 0 (((l)++[x.ev.rep,x.ev.num,x.ev.time])++an x.ev.past).length),nB (((l)++[x.ev.rep,x.ev.num,x.ev.time])++an x.ev.past) (g+3+(an x.ev.past).length),oB (aJ x),aK [.ptr 2 0 12,.ptr 2 0 13,.ptr 2 0 14]])})] ?_;dsimp only[az,nB,aK,oB,tB,go_sem];try dsimp only[az,nB,aK,oB,tB,go_sem]
 refine⟨(by simp[vb]<;>omega),?_,?_⟩
 ·exact⟨h2,trivial⟩
 refine cK (cw (T:=[]) (H:=[(29,{val:=some (.pv (.tup [])),mem:=some ([az true (.ref 1 (g+3+(an x.ev.past).length+2) 0 ((((l)++[x.ev.rep,x.ev.num,x.ev.time])++an x.ev.past)++[x.ev.kind,x.ev.act]).length),nB ((((l)++[x.ev.rep,x.ev.num,x.ev.time])++an x.ev.past)++[x.ev.kind,x.ev.act]) (g+3+(an x.ev.past).length+2),oB (aJ x),aK [.ptr 2 0 12,.ptr 2 0 13,.ptr 2 0 14],aK [.ptr 2 0 16,.ptr 2 0 17]])})]) (by rfl) ?_);dsimp only[bk,az,nB,aK,oB,tB,go_sem];try dsimp only[az,nB,aK,oB,tB,go_sem]
 refine⟨(by simp[vb]<;>omega),?_,?_⟩
 ·exact⟨h3,trivial⟩
 refine cu [(34,{val:=some (.pv (.tup [])),mem:=some ([az true (.ref 1 (g+3+(an x.ev.past).length+2+4) 0 (((((l)++[x.ev.rep,x.ev.num,x.ev.time])++an x.ev.past)++[x.ev.kind,x.ev.act])++[x.ev.give.k,x.ev.give.i,x.ev.give.e,x.ev.give.a]).length),nB (((((l)++[x.ev.rep,x.ev.num,x.ev.time])++an x.ev.past)++[x.ev.kind,x.ev.act])++[x.ev.give.k,x.ev.give.i,x.ev.give.e,x.ev.give.a]) (g+3+(an x.ev.past).length+2+4),oB (aJ x),aK [.ptr 2 0 12,.ptr 2 0 13,.ptr 2 0 14],aK [.ptr 2 0 16,.ptr 2 0 17]])})] ?_;dsimp only[az,nB,aK,oB,tB,go_sem];try dsimp only[az,nB,aK,oB,tB,go_sem]
 refine⟨(by simp[vb]<;>omega),?_,?_⟩
 ·exact⟨h4,trivial⟩
 refine cw (T:=[]) (H:=[(46,{val:=some (.pv (.tup [])),mem:=some ([az true (.ref 1 (g+3+(an x.ev.past).length+2+4+3) 0 ((((((l)++[x.ev.rep,x.ev.num,x.ev.time])++an x.ev.past)++[x.ev.kind,x.ev.act])++[x.ev.give.k,x.ev.give.i,x.ev.give.e,x.ev.give.a])++[x.ev.tgt,x.ev.place,x.ev.ser]).length),nB ((((((l)++[x.ev.rep,x.ev.num,x.ev.time])++an x.ev.past)++[x.ev.kind,x.ev.act])++[x.ev.give.k,x.ev.give.i,x.ev.give.e,x.ev.give.a])++[x.ev.tgt,x.ev.place,x.ev.ser]) (g+3+(an x.ev.past).length+2+4+3),oB (aJ x),aK [.ptr 2 0 12,.ptr 2 0 13,.ptr 2 0 14],aK [.ptr 2 0 16,.ptr 2 0 17],aK [.ptr 2 0 22,.ptr 2 0 23,.ptr 2 0 24]])})]) (by rfl) ?_
 dsimp only[bk,az,nB,aK,oB,tB,go_sem];try dsimp only[az,nB,aK,oB,tB,go_sem]
 refine⟨(by simp[vb]<;>omega),?_,?_⟩
 ·exact⟨h5,trivial⟩
 exact⟨⟨trivial,rfl⟩,_,rfl⟩
theorem Kd (s:List Int) (t k r:Int) (e:Ev) (hl:(eQ e).length+s.length≤1000000000) (hx:e.past.length≤1000000) :
  aA ctx 369 [.ptr 0 0 0,.ptr 1 0 12] [az false (.pv (aa (eQ e++s))),oB (zC t k r)] (.pv (.tup [])) [az false (.pv (aa (s))),oB (z3 t k r++aX++ar e++[.nilsl,.nilsl,.nilsl])]:=by
 have e1:eQ e++s=[e.rep,e.num,e.time]++(an e.past++([e.kind,e.act]++([e.give.k,e.give.i,e.give.e,e.give.a]++([e.tgt,e.place,e.ser]++s)))):=by simp[eQ,bu]
 rw[e1];have h1:=jZ (an e.past++([e.kind,e.act]++([e.give.k,e.give.i,e.give.e,e.give.a]++([e.tgt,e.place,e.ser]++s)))) [e.rep,e.num,e.time] [12,13,14] (List.map AV.pv (zC t k r:List PV)) 0 27 71 rfl (by simp[zC,z3,aX,du,br,ar]) (by simp only[List.length_append,List.length_cons,List.length_nil,an,bT,eQ,bu]at hl ⊢;omega) (aM _ _);rw[ef]at h1
 rw[show gQ (zC t k r) [12,13,14] [e.rep,e.num,e.time]=(z3 t k r++aX++[.int .i64 e.rep,.int .i64 e.num,.int .i64 e.time,.nilsl,.int .i64 0,.int .i64 0,.int .i64 0,.int .i64 0,.int .i64 0,.int .i64 0,.int .i64 0,.int .i64 0,.int .i64 0]++[.nilsl,.nilsl,.nilsl]:List PV) from rfl]at h1
 have h2:=zG ([e.kind,e.act]++([e.give.k,e.give.i,e.give.e,e.give.a]++([e.tgt,e.place,e.ser]++s))) 15 (z3 t k r++aX++[.int .i64 e.rep,.int .i64 e.num,.int .i64 e.time,.nilsl,.int .i64 0,.int .i64 0,.int .i64 0,.int .i64 0,.int .i64 0,.int .i64 0,.int .i64 0,.int .i64 0,.int .i64 0]++[.nilsl,.nilsl,.nilsl]) 0 27 71 e.past (by simp[z3,aX]) rfl (by simp only[List.length_append,List.length_cons,List.length_nil,an,bT,eQ,bu]at hl ⊢;omega) hx
 rw[show List.set (z3 t k r++aX++[.int .i64 e.rep,.int .i64 e.num,.int .i64 e.time,.nilsl,.int .i64 0,.int .i64 0,.int .i64 0,.int .i64 0,.int .i64 0,.int .i64 0,.int .i64 0,.int .i64 0,.int .i64 0]++[.nilsl,.nilsl,.nilsl]:List PV) 15 (aa e.past)=(z3 t k r++aX++[.int .i64 e.rep,.int .i64 e.num,.int .i64 e.time,aa e.past,.int .i64 0,.int .i64 0,.int .i64 0,.int .i64 0,.int .i64 0,.int .i64 0,.int .i64 0,.int .i64 0,.int .i64 0]++[.nilsl,.nilsl,.nilsl]:List PV) from rfl]at h2
 have h2:=cW (E:=[]) (cs:=z3 t k r++aX++[.int .i64 e.rep,.int .i64 e.num,.int .i64 e.time,.nilsl,.int .i64 0,.int .i64 0,.int .i64 0,.int .i64 0,.int .i64 0,.int .i64 0,.int .i64 0,.int .i64 0,.int .i64 0]++[.nilsl,.nilsl,.nilsl]) (cs':=z3 t k r++aX++[.int .i64 e.rep,.int .i64 e.num,.int .i64 e.time,aa e.past,.int .i64 0,.int .i64 0,.int .i64 0,.int .i64 0,.int .i64 0,.int .i64 0,.int .i64 0,.int .i64 0,.int .i64 0]++[.nilsl,.nilsl,.nilsl]) h2 0 [] [oB (z3 t k r++aX++[.int .i64 e.rep,.int .i64 e.num,.int .i64 e.time,.nilsl,.int .i64 0,.int .i64 0,.int .i64 0,.int .i64 0,.int .i64 0,.int .i64 0,.int .i64 0,.int .i64 0,.int .i64 0]++[.nilsl,.nilsl,.nilsl]),aK [.ptr 1 0 12,.ptr 1 0 13,.ptr 1 0 14]] (by decide) rfl (by simp) (fun _ _=>trivial) (by rfl) (by simp[cC,Nat.blt]) rfl
 have h3:=jZ ([e.give.k,e.give.i,e.give.e,e.give.a]++([e.tgt,e.place,e.ser]++s)) [e.kind,e.act] [16,17] (List.map AV.pv (z3 t k r++aX++[.int .i64 e.rep,.int .i64 e.num,.int .i64 e.time,aa e.past,.int .i64 0,.int .i64 0,.int .i64 0,.int .i64 0,.int .i64 0,.int .i64 0,.int .i64 0,.int .i64 0,.int .i64 0]++[.nilsl,.nilsl,.nilsl]:List PV)) 0 27 71 rfl (by simp[zC,z3,aX,du,br,ar]) (by simp only[List.length_append,List.length_cons,List.length_nil,an,bT,eQ,bu]at hl ⊢;omega) (aM _ _);rw[ef]at h3
 rw[show gQ (z3 t k r++aX++[.int .i64 e.rep,.int .i64 e.num,.int .i64 e.time,aa e.past,.int .i64 0,.int .i64 0,.int .i64 0,.int .i64 0,.int .i64 0,.int .i64 0,.int .i64 0,.int .i64 0,.int .i64 0]++[.nilsl,.nilsl,.nilsl]) [16,17] [e.kind,e.act]=(z3 t k r++aX++[.int .i64 e.rep,.int .i64 e.num,.int .i64 e.time,aa e.past,.int .i64 e.kind,.int .i64 e.act,.int .i64 0,.int .i64 0,.int .i64 0,.int .i64 0,.int .i64 0,.int .i64 0,.int .i64 0]++[.nilsl,.nilsl,.nilsl]:List PV) from rfl]at h3
 have h3:=cW (E:=[aK [.ptr 1 0 16,.ptr 1 0 17]]) (cs:=z3 t k r++aX++[.int .i64 e.rep,.int .i64 e.num,.int .i64 e.time,aa e.past,.int .i64 0,.int .i64 0,.int .i64 0,.int .i64 0,.int .i64 0,.int .i64 0,.int .i64 0,.int .i64 0,.int .i64 0]++[.nilsl,.nilsl,.nilsl]) (cs':=z3 t k r++aX++[.int .i64 e.rep,.int .i64 e.num,.int .i64 e.time,aa e.past,.int .i64 e.kind,.int .i64 e.act,.int .i64 0,.int .i64 0,.int .i64 0,.int .i64 0,.int .i64 0,.int .i64 0,.int .i64 0]++[.nilsl,.nilsl,.nilsl]) h3 0 [3] [oB (z3 t k r++aX++[.int .i64 e.rep,.int .i64 e.num,.int .i64 e.time,aa e.past,.int .i64 0,.int .i64 0,.int .i64 0,.int .i64 0,.int .i64 0,.int .i64 0,.int .i64 0,.int .i64 0,.int .i64 0]++[.nilsl,.nilsl,.nilsl]),aK [.ptr 1 0 12,.ptr 1 0 13,.ptr 1 0 14],aK [.ptr 1 0 16,.ptr 1 0 17]] (by decide) rfl (by simp) (fun _ _=>⟨rfl,trivial⟩) (by rfl) (by simp[cC,Nat.blt]) rfl
 have h4:=Hu ([e.tgt,e.place,e.ser]++s) 18 e.give.k e.give.i e.give.e e.give.a (z3 t k r++aX++[.int .i64 e.rep,.int .i64 e.num,.int .i64 e.time,aa e.past,.int .i64 e.kind,.int .i64 e.act,.int .i64 0,.int .i64 0,.int .i64 0,.int .i64 0,.int .i64 0,.int .i64 0,.int .i64 0]++[.nilsl,.nilsl,.nilsl]) 0 27 71 (by simp[z3,aX]) (by simp only[List.length_append,List.length_cons,List.length_nil,an,bT,eQ,bu]at hl ⊢;omega)
 rw[show gQ (z3 t k r++aX++[.int .i64 e.rep,.int .i64 e.num,.int .i64 e.time,aa e.past,.int .i64 e.kind,.int .i64 e.act,.int .i64 0,.int .i64 0,.int .i64 0,.int .i64 0,.int .i64 0,.int .i64 0,.int .i64 0]++[.nilsl,.nilsl,.nilsl]) [18+0,18+1,18+2,18+3] [e.give.k,e.give.i,e.give.e,e.give.a]=(z3 t k r++aX++[.int .i64 e.rep,.int .i64 e.num,.int .i64 e.time,aa e.past,.int .i64 e.kind,.int .i64 e.act,.int .i64 e.give.k,.int .i64 e.give.i,.int .i64 e.give.e,.int .i64 e.give.a,.int .i64 0,.int .i64 0,.int .i64 0]++[.nilsl,.nilsl,.nilsl]:List PV) from rfl]at h4
 have h4:=cW (E:=[]) (cs:=z3 t k r++aX++[.int .i64 e.rep,.int .i64 e.num,.int .i64 e.time,aa e.past,.int .i64 e.kind,.int .i64 e.act,.int .i64 0,.int .i64 0,.int .i64 0,.int .i64 0,.int .i64 0,.int .i64 0,.int .i64 0]++[.nilsl,.nilsl,.nilsl]) (cs':=z3 t k r++aX++[.int .i64 e.rep,.int .i64 e.num,.int .i64 e.time,aa e.past,.int .i64 e.kind,.int .i64 e.act,.int .i64 e.give.k,.int .i64 e.give.i,.int .i64 e.give.e,.int .i64 e.give.a,.int .i64 0,.int .i64 0,.int .i64 0]++[.nilsl,.nilsl,.nilsl]) h4 0 [] [oB (z3 t k r++aX++[.int .i64 e.rep,.int .i64 e.num,.int .i64 e.time,aa e.past,.int .i64 e.kind,.int .i64 e.act,.int .i64 0,.int .i64 0,.int .i64 0,.int .i64 0,.int .i64 0,.int .i64 0,.int .i64 0]++[.nilsl,.nilsl,.nilsl]),aK [.ptr 1 0 12,.ptr 1 0 13,.ptr 1 0 14],aK [.ptr 1 0 16,.ptr 1 0 17]] (by decide) rfl (by simp) (fun _ _=>trivial) (by rfl) (by simp[cC,Nat.blt]) rfl
 have h5:=jZ (s) [e.tgt,e.place,e.ser] [22,23,24] (List.map AV.pv (z3 t k r++aX++[.int .i64 e.rep,.int .i64 e.num,.int .i64 e.time,aa e.past,.int .i64 e.kind,.int .i64 e.act,.int .i64 e.give.k,.int .i64 e.give.i,.int .i64 e.give.e,.int .i64 e.give.a,.int .i64 0,.int .i64 0,.int .i64 0]++[.nilsl,.nilsl,.nilsl]:List PV)) 0 27 71 rfl (by simp[zC,z3,aX,du,br,ar]) (by simp only[List.length_append,List.length_cons,List.length_nil,an,bT,eQ,bu]at hl ⊢;omega) (aM _ _);rw[ef]at h5
 rw[show gQ (z3 t k r++aX++[.int .i64 e.rep,.int .i64 e.num,.int .i64 e.time,aa e.past,.int .i64 e.kind,.int .i64 e.act,.int .i64 e.give.k,.int .i64 e.give.i,.int .i64 e.give.e,.int .i64 e.give.a,.int .i64 0,.int .i64 0,.int .i64 0]++[.nilsl,.nilsl,.nilsl]) [22,23,24] [e.tgt,e.place,e.ser]=(z3 t k r++aX++ar e++[.nilsl,.nilsl,.nilsl]:List PV) from rfl]at h5
 have h5:=cW (E:=[aK [.ptr 1 0 22,.ptr 1 0 23,.ptr 1 0 24]]) (cs:=z3 t k r++aX++[.int .i64 e.rep,.int .i64 e.num,.int .i64 e.time,aa e.past,.int .i64 e.kind,.int .i64 e.act,.int .i64 e.give.k,.int .i64 e.give.i,.int .i64 e.give.e,.int .i64 e.give.a,.int .i64 0,.int .i64 0,.int .i64 0]++[.nilsl,.nilsl,.nilsl]) (cs':=z3 t k r++aX++ar e++[.nilsl,.nilsl,.nilsl]) h5 0 [4] [oB (z3 t k r++aX++[.int .i64 e.rep,.int .i64 e.num,.int .i64 e.time,aa e.past,.int .i64 e.kind,.int .i64 e.act,.int .i64 e.give.k,.int .i64 e.give.i,.int .i64 e.give.e,.int .i64 e.give.a,.int .i64 0,.int .i64 0,.int .i64 0]++[.nilsl,.nilsl,.nilsl]),aK [.ptr 1 0 12,.ptr 1 0 13,.ptr 1 0 14],aK [.ptr 1 0 16,.ptr 1 0 17],aK [.ptr 1 0 22,.ptr 1 0 23,.ptr 1 0 24]] (by decide) rfl (by simp) (fun _ _=>⟨rfl,trivial⟩) (by rfl) (by simp[cC,Nat.blt]) rfl
 have hcc:=aM (z3 t k r++aX++ar e++[.nilsl,.nilsl,.nilsl]) 2;refine aH (C:=ctx) (Fn.of HA rfl) rfl (by simp) rfl (by simp only[aY,az,oB,tB,List.all_cons,List.all_nil,List.length_cons,List.length_nil,Nat.zero_add,Nat.reduceAdd,hcc];rfl) ?_;unfold Kb
 refine cK (cw (T:=[]) (H:=[(15,{val:=some (.pv (.tup [])),mem:=some ([az false (.pv (aa (an e.past++([e.kind,e.act]++([e.give.k,e.give.i,e.give.e,e.give.a]++([e.tgt,e.place,e.ser]++s)))))),oB (z3 t k r++aX++[.int .i64 e.rep,.int .i64 e.num,.int .i64 e.time,.nilsl,.int .i64 0,.int .i64 0,.int .i64 0,.int .i64 0,.int .i64 0,.int .i64 0,.int .i64 0,.int .i64 0,.int .i64 0]++[.nilsl,.nilsl,.nilsl]),aK [.ptr 1 0 12,.ptr 1 0 13,.ptr 1 0 14]])})]) (by rfl) ?_);dsimp only[bk,az,nB,aK,oB,tB,go_sem];try dsimp only[az,nB,aK,oB,tB,go_sem]
 refine⟨(by simp[vb]<;>omega),?_,?_⟩
 ·exact⟨h1,trivial⟩
 refine cu [(20,{val:=some (.pv (.tup [])),mem:=some ([az false (.pv (aa ([e.kind,e.act]++([e.give.k,e.give.i,e.give.e,e.give.a]++([e.tgt,e.place,e.ser]++s))))),oB (z3 t k r++aX++[.int .i64 e.rep,.int .i64 e.num,.int .i64 e.time,aa e.past,.int .i64 0,.int .i64 0,.int .i64 0,.int .i64 0,.int .i64 0,.int .i64 0,.int .i64 0,.int .i64 0,.int .i64 0]++[.nilsl,.nilsl,.nilsl]),aK [.ptr 1 0 12,.ptr 1 0 13,.ptr 1 0 14]])})] ?_;dsimp only[az,nB,aK,oB,tB,go_sem];try dsimp only[az,nB,aK,oB,tB,go_sem]
 refine⟨(by simp[vb]<;>omega),?_,?_⟩
 ·exact⟨h2,trivial⟩
 refine cK (cw (T:=[]) (H:=[(29,{val:=some (.pv (.tup [])),mem:=some ([az false (.pv (aa ([e.give.k,e.give.i,e.give.e,e.give.a]++([e.tgt,e.place,e.ser]++s)))),oB (z3 t k r++aX++[.int .i64 e.rep,.int .i64 e.num,.int .i64 e.time,aa e.past,.int .i64 e.kind,.int .i64 e.act,.int .i64 0,.int .i64 0,.int .i64 0,.int .i64 0,.int .i64 0,.int .i64 0,.int .i64 0]++[.nilsl,.nilsl,.nilsl]),aK [.ptr 1 0 12,.ptr 1 0 13,.ptr 1 0 14],aK [.ptr 1 0 16,.ptr 1 0 17]])})]) (by rfl) ?_);dsimp only[bk,az,nB,aK,oB,tB,go_sem];try dsimp only[az,nB,aK,oB,tB,go_sem]
 refine⟨(by simp[vb]<;>omega),?_,?_⟩
 ·exact⟨h3,trivial⟩
 refine cu [(34,{val:=some (.pv (.tup [])),mem:=some ([az false (.pv (aa ([e.tgt,e.place,e.ser]++s))),oB (z3 t k r++aX++[.int .i64 e.rep,.int .i64 e.num,.int .i64 e.time,aa e.past,.int .i64 e.kind,.int .i64 e.act,.int .i64 e.give.k,.int .i64 e.give.i,.int .i64 e.give.e,.int .i64 e.give.a,.int .i64 0,.int .i64 0,.int .i64 0]++[.nilsl,.nilsl,.nilsl]),aK [.ptr 1 0 12,.ptr 1 0 13,.ptr 1 0 14],aK [.ptr 1 0 16,.ptr 1 0 17]])})] ?_;dsimp only[az,nB,aK,oB,tB,go_sem];try dsimp only[az,nB,aK,oB,tB,go_sem]
 refine⟨(by simp[vb]<;>omega),?_,?_⟩
 ·exact⟨h4,trivial⟩
 refine cw (T:=[]) (H:=[(46,{val:=some (.pv (.tup [])),mem:=some ([az false (.pv (aa (s))),oB (z3 t k r++aX++ar e++[.nilsl,.nilsl,.nilsl]),aK [.ptr 1 0 12,.ptr 1 0 13,.ptr 1 0 14],aK [.ptr 1 0 16,.ptr 1 0 17],aK [.ptr 1 0 22,.ptr 1 0 23,.ptr 1 0 24]])})]) (by rfl) ?_;dsimp only[bk,az,nB,aK,oB,tB,go_sem];try dsimp only[az,nB,aK,oB,tB,go_sem]
 refine⟨(by simp[vb]<;>omega),?_,?_⟩
 ·exact⟨h5,trivial⟩
 exact⟨⟨trivial,rfl⟩,_,rfl⟩
end
section
open Tr
def Ke:af:=(⟨_,by conv=>(lhs;reduce;try simp only[bD,Int.cast_ofNat_Int,Int.reduceNegSucc,UInt8.reduceOfNat])⟩:{x // codeOf Tryz.prog 364 (fun _=>false)=some x}).1
theorem M0:aD Tryz.prog 364 (fun _=>false)=some (Ke,[],2,true):=by kernel_rfl
def Kf:af:=(⟨_,by conv=>(lhs;reduce;try simp only[bD,Int.cast_ofNat_Int,Int.reduceNegSucc,UInt8.reduceOfNat])⟩:{x // codeOf Tryz.prog 365 (fun d=>Nat.beq d 13)=some x}).1
theorem HB:aD Tryz.prog 365 (fun d=>Nat.beq d 13)=some (Kf,[],15,true):=by kernel_rfl
def Kg:af:=(⟨_,by conv=>(lhs;reduce;try simp only[bD,Int.cast_ofNat_Int,Int.reduceNegSucc,UInt8.reduceOfNat])⟩:{x // codeOf Tryz.prog 366 (fun _=>false)=some x}).1
theorem HC:aD Tryz.prog 366 (fun _=>false)=some (Kg,[],8,true):=by kernel_rfl
def Kh:af:=(⟨_,by conv=>(lhs;reduce;try simp only[bD,Int.cast_ofNat_Int,Int.reduceNegSucc,UInt8.reduceOfNat])⟩:{x // codeOf Tryz.prog 368 (fun _=>false)=some x}).1
theorem HD:aD Tryz.prog 368 (fun _=>false)=some (Kh,[],8,true):=by kernel_rfl
def Ki:af:=(⟨_,by conv=>(lhs;reduce;try simp only[bD,Int.cast_ofNat_Int,Int.reduceNegSucc,UInt8.reduceOfNat])⟩:{x // codeOf Tryz.prog 370 (fun d=>Nat.beq d 7)=some x}).1
theorem HE:aD Tryz.prog 370 (fun d=>Nat.beq d 7)=some (Ki,[],28,true):=by kernel_rfl
def Kj:af:=(⟨_,by conv=>(lhs;reduce;try simp only[bD,Int.cast_ofNat_Int,Int.reduceNegSucc,UInt8.reduceOfNat])⟩:{x // codeOf Tryz.prog 375 (fun d=>Nat.beq d 7)=some x}).1
theorem HF:aD Tryz.prog 375 (fun d=>Nat.beq d 7)=some (Kj,[],9,true):=by kernel_rfl
def Kk:af:=(⟨_,by conv=>(lhs;reduce;try simp only[bD,Int.cast_ofNat_Int,Int.reduceNegSucc,UInt8.reduceOfNat])⟩:{x // codeOf Tryz.prog 376 (fun _=>false)=some x}).1
theorem HG:aD Tryz.prog 376 (fun _=>false)=some (Kk,[],8,true):=by kernel_rfl
def Kl:af:=(⟨_,by conv=>(lhs;reduce;try simp only[bD,Int.cast_ofNat_Int,Int.reduceNegSucc,UInt8.reduceOfNat])⟩:{x // codeOf Tryz.prog 377 (fun d=>Nat.beq d 10)=some x}).1
theorem HH:aD Tryz.prog 377 (fun d=>Nat.beq d 10)=some (Kl,[],12,true):=by kernel_rfl
theorem FE (l:List Int) (g:Nat) (x:En) (hl:l.length+([x.ses,x.act,x.ser]).length≤1000000000) :
  aA ctx 365 [.ptr 2 0 0,.ptr 3 0 0] [az true (.ref 1 (g) 0 (l).length),nB (l) (g),oB (aJ x),xB 0] (.pv (.tup [])) [az true (.ref 1 (g+([x.ses,x.act,x.ser]).length) 0 (l++[x.ses,x.act,x.ser]).length),nB (l++[x.ses,x.act,x.ser]) (g+([x.ses,x.act,x.ser]).length),oB (aJ x),xB 0]:=by
 have h1:=mg (l) (g) [.ptr 2 0 3,.ptr 2 0 4,.ptr 2 0 5] [x.ses,x.act,x.ser] ((aJ x).map .pv) 0 27 71 ⟨qe (by rw[aR];omega) rfl,qe (by rw[aR];omega) rfl,qe (by rw[aR];omega) rfl,trivial⟩ (by simp only[List.length_append,List.length_cons,List.length_nil,an,bT,eQ,bu]at hl ⊢;omega) (aM _ _) (by rfl)
 have h1:=dh (E:=[oB (aJ x),aK [.ptr 2 0 3,.ptr 2 0 4,.ptr 2 0 5]]) h1 [2,4] [oB (aJ x),xB 0,aK [.ptr 2 0 3,.ptr 2 0 4,.ptr 2 0 5]] (by decide) (by simp) (fun _ _=>⟨by rw[oB,dH];rfl,rfl,trivial⟩) (by simp only[List.all_cons,List.all_nil,oB,tB,aM];rfl) (by simp[cC,Nat.blt]) rfl;have hno:=eo (l++[x.ses,x.act,x.ser]) 4;have hcc:=aM (aJ x) 4;refine aH (C:=ctx) (Fn.of HB rfl) rfl (by simp) rfl (by simp only[aY,az,nB,oB,tB,xB,List.all_cons,List.all_nil,List.length_cons,List.length_nil,Nat.zero_add,Nat.reduceAdd,hcc,hno];rfl) ?_;unfold Kf
 refine eE (T:=[]) (H:=[(14,{val:=some (.pv (.tup [])),mem:=some ([az true (.ref 1 (g+3) 0 (l++[x.ses,x.act,x.ser]).length),nB (l++[x.ses,x.act,x.ser]) (g+3),oB (aJ x),xB 0,aK [.ptr 2 0 3,.ptr 2 0 4,.ptr 2 0 5]])})]) (by rfl) ?_;dsimp only[bR,az,nB,aK,oB,tB,xB,go_sem];try dsimp only[az,nB,aK,oB,tB,xB,go_sem]
 refine⟨(by simp[vb]<;>omega),?_,(by first|rfl|trivial),?_⟩
 ·exact⟨h1,trivial⟩
 exact⟨⟨trivial,rfl⟩,_,rfl⟩
theorem M3 (l:List Int) (g:Nat) (x:En) (hl:l.length+([x.ses]).length≤1000000000) :
  aA ctx 375 [.ptr 2 0 0,.ptr 3 0 0] [az true (.ref 1 (g) 0 (l).length),nB (l) (g),oB (aJ x),xB 0] (.pv (.tup [])) [az true (.ref 1 (g+([x.ses]).length) 0 (l++[x.ses]).length),nB (l++[x.ses]) (g+([x.ses]).length),oB (aJ x),xB 0]:=by
 have h1:=mg (l) (g) [.ptr 2 0 3] [x.ses] ((aJ x).map .pv) 0 27 71 ⟨qe (by rw[aR];omega) rfl,trivial⟩ (by simp only[List.length_append,List.length_cons,List.length_nil,an,bT,eQ,bu]at hl ⊢;omega) (aM _ _) (by rfl);have h1:=dh (E:=[oB (aJ x),aK [.ptr 2 0 3]]) h1 [2,4] [oB (aJ x),xB 0,aK [.ptr 2 0 3]] (by decide) (by simp) (fun _ _=>⟨by rw[oB,dH];rfl,rfl,trivial⟩) (by simp only[List.all_cons,List.all_nil,oB,tB,aM];rfl) (by simp[cC,Nat.blt]) rfl;have hno:=eo (l++[x.ses]) 4;have hcc:=aM (aJ x) 4
 refine aH (C:=ctx) (Fn.of HF rfl) rfl (by simp) rfl (by simp only[aY,az,nB,oB,tB,xB,List.all_cons,List.all_nil,List.length_cons,List.length_nil,Nat.zero_add,Nat.reduceAdd,hcc,hno];rfl) ?_;unfold Kj;refine eE (T:=[]) (H:=[(8,{val:=some (.pv (.tup [])),mem:=some ([az true (.ref 1 (g+1) 0 (l++[x.ses]).length),nB (l++[x.ses]) (g+1),oB (aJ x),xB 0,aK [.ptr 2 0 3]])})]) (by rfl) ?_;dsimp only[bR,az,nB,aK,oB,tB,xB,go_sem];try dsimp only[az,nB,aK,oB,tB,xB,go_sem]
 refine⟨(by simp[vb]<;>omega),?_,(by first|rfl|trivial),?_⟩
 ·exact⟨h1,trivial⟩
 exact⟨⟨trivial,rfl⟩,_,rfl⟩
theorem M4 (l:List Int) (g:Nat) (x:En) (hl:l.length+([x.ses,x.act]).length≤1000000000) :
  aA ctx 377 [.ptr 2 0 0,.ptr 3 0 0] [az true (.ref 1 (g) 0 (l).length),nB (l) (g),oB (aJ x),xB 0] (.pv (.tup [])) [az true (.ref 1 (g+([x.ses,x.act]).length) 0 (l++[x.ses,x.act]).length),nB (l++[x.ses,x.act]) (g+([x.ses,x.act]).length),oB (aJ x),xB 0]:=by
 have h1:=mg (l) (g) [.ptr 2 0 3,.ptr 2 0 4] [x.ses,x.act] ((aJ x).map .pv) 0 27 71 ⟨qe (by rw[aR];omega) rfl,qe (by rw[aR];omega) rfl,trivial⟩ (by simp only[List.length_append,List.length_cons,List.length_nil,an,bT,eQ,bu]at hl ⊢;omega) (aM _ _) (by rfl);have h1:=dh (E:=[oB (aJ x),aK [.ptr 2 0 3,.ptr 2 0 4]]) h1 [2,4] [oB (aJ x),xB 0,aK [.ptr 2 0 3,.ptr 2 0 4]] (by decide) (by simp) (fun _ _=>⟨by rw[oB,dH];rfl,rfl,trivial⟩) (by simp only[List.all_cons,List.all_nil,oB,tB,aM];rfl) (by simp[cC,Nat.blt]) rfl;have hno:=eo (l++[x.ses,x.act]) 4
 have hcc:=aM (aJ x) 4;refine aH (C:=ctx) (Fn.of HH rfl) rfl (by simp) rfl (by simp only[aY,az,nB,oB,tB,xB,List.all_cons,List.all_nil,List.length_cons,List.length_nil,Nat.zero_add,Nat.reduceAdd,hcc,hno];rfl) ?_;unfold Kl;refine eE (T:=[]) (H:=[(11,{val:=some (.pv (.tup [])),mem:=some ([az true (.ref 1 (g+2) 0 (l++[x.ses,x.act]).length),nB (l++[x.ses,x.act]) (g+2),oB (aJ x),xB 0,aK [.ptr 2 0 3,.ptr 2 0 4]])})]) (by rfl) ?_;dsimp only[bR,az,nB,aK,oB,tB,xB,go_sem];try dsimp only[az,nB,aK,oB,tB,xB,go_sem]
 refine⟨(by simp[vb]<;>omega),?_,(by first|rfl|trivial),?_⟩
 ·exact⟨h1,trivial⟩
 exact⟨⟨trivial,rfl⟩,_,rfl⟩
theorem M5 (l:List Int) (g:Nat) (x:En) (hl:l.length+(bT x.out).length≤1000000000) (hx:x.out.needs.length≤1000000) :
  aA ctx 366 [.ptr 2 0 0,.ptr 3 0 0] [az true (.ref 1 (g) 0 (l).length),nB (l) (g),oB (aJ x),xB 0] (.pv (.tup [])) [az true (.ref 1 (g+(bT x.out).length) 0 (l++bT x.out).length),nB (l++bT x.out) (g+(bT x.out).length),oB (aJ x),xB 0]:=by
 have h1:=Dz l g x hl hx;have h1:=dh (E:=[oB (aJ x)]) h1 [2] [oB (aJ x),xB 0] (by decide) (by simp) (fun _ _=>⟨by rw[oB,dH];rfl,trivial⟩) (by simp only[List.all_cons,List.all_nil,oB,tB,aM];rfl) (by simp[cC,Nat.blt]) rfl;have hno:=eo (l++bT x.out) 4;have hcc:=aM (aJ x) 4;refine aH (C:=ctx) (Fn.of HC rfl) rfl (by simp) rfl (by simp only[aY,az,nB,oB,tB,xB,List.all_cons,List.all_nil,List.length_cons,List.length_nil,Nat.zero_add,Nat.reduceAdd,hcc,hno];rfl) ?_;unfold Kg
 refine cw (T:=[]) (H:=[(7,{val:=some (.pv (.tup [])),mem:=some ([az true (.ref 1 (g+(bT x.out).length) 0 (l++bT x.out).length),nB (l++bT x.out) (g+(bT x.out).length),oB (aJ x),xB 0])})]) (by rfl) ?_;dsimp only[bk,az,nB,aK,oB,tB,xB,go_sem];try dsimp only[az,nB,aK,oB,tB,xB,go_sem]
 refine⟨(by simp[vb]<;>omega),?_,?_⟩
 ·exact⟨h1,trivial⟩
 exact⟨⟨trivial,rfl⟩,_,rfl⟩
theorem M6 (l:List Int) (g:Nat) (x:En) (hl:l.length+(eQ x.ev).length≤1000000000) (hx:x.ev.past.length≤1000000) :
  aA ctx 368 [.ptr 2 0 0,.ptr 3 0 0] [az true (.ref 1 (g) 0 (l).length),nB (l) (g),oB (aJ x),xB 0] (.pv (.tup [])) [az true (.ref 1 (g+(eQ x.ev).length) 0 (l++eQ x.ev).length),nB (l++eQ x.ev) (g+(eQ x.ev).length),oB (aJ x),xB 0]:=by
 have h1:=Kc l g x hl hx;have h1:=dh (E:=[oB (aJ x)]) h1 [2] [oB (aJ x),xB 0] (by decide) (by simp) (fun _ _=>⟨by rw[oB,dH];rfl,trivial⟩) (by simp only[List.all_cons,List.all_nil,oB,tB,aM];rfl) (by simp[cC,Nat.blt]) rfl;have hno:=eo (l++eQ x.ev) 4;have hcc:=aM (aJ x) 4;refine aH (C:=ctx) (Fn.of HD rfl) rfl (by simp) rfl (by simp only[aY,az,nB,oB,tB,xB,List.all_cons,List.all_nil,List.length_cons,List.length_nil,Nat.zero_add,Nat.reduceAdd,hcc,hno];rfl) ?_;unfold Kh
 refine cw (T:=[]) (H:=[(7,{val:=some (.pv (.tup [])),mem:=some ([az true (.ref 1 (g+(eQ x.ev).length) 0 (l++eQ x.ev).length),nB (l++eQ x.ev) (g+(eQ x.ev).length),oB (aJ x),xB 0])})]) (by rfl) ?_;dsimp only[bk,az,nB,aK,oB,tB,xB,go_sem];try dsimp only[az,nB,aK,oB,tB,xB,go_sem]
 refine⟨(by simp[vb]<;>omega),?_,?_⟩
 ·exact⟨h1,trivial⟩
 exact⟨⟨trivial,rfl⟩,_,rfl⟩
theorem M7 (l:List Int) (g:Nat) (x:En) (hl:l.length+(an x.clk).length≤1000000000) :
  aA ctx 376 [.ptr 2 0 0,.ptr 3 0 0] [az true (.ref 1 (g) 0 (l).length),nB (l) (g),oB (aJ x),xB 0] (.pv (.tup [])) [az true (.ref 1 (g+(an x.clk).length) 0 (l++an x.clk).length),nB (l++an x.clk) (g+(an x.clk).length),oB (aJ x),xB 0]:=by
 have h1:=yq l g 27 (aJ x) 0 27 71 x.clk (by rw[aR];omega) rfl hl;have h1:=dh (E:=[oB (aJ x)]) h1 [2] [oB (aJ x),xB 0] (by decide) (by simp) (fun _ _=>⟨by rw[oB,dH];rfl,trivial⟩) (by simp only[List.all_cons,List.all_nil,oB,tB,aM];rfl) (by simp[cC,Nat.blt]) rfl;have hno:=eo (l++an x.clk) 4;have hcc:=aM (aJ x) 4;refine aH (C:=ctx) (Fn.of HG rfl) rfl (by simp) rfl (by simp only[aY,az,nB,oB,tB,xB,List.all_cons,List.all_nil,List.length_cons,List.length_nil,Nat.zero_add,Nat.reduceAdd,hcc,hno];rfl) ?_;unfold Kk
 refine cw (T:=[]) (H:=[(7,{val:=some (.pv (.tup [])),mem:=some ([az true (.ref 1 (g+(an x.clk).length) 0 (l++an x.clk).length),nB (l++an x.clk) (g+(an x.clk).length),oB (aJ x),xB 0])})]) (by rfl) ?_;dsimp only[bk,az,nB,aK,oB,tB,xB,go_sem];try dsimp only[az,nB,aK,oB,tB,xB,go_sem]
 refine⟨(by simp[vb]<;>omega),?_,?_⟩
 ·exact⟨h1,trivial⟩
 exact⟨⟨trivial,rfl⟩,_,rfl⟩
theorem M8 (l:List Int) (g:Nat) (x:En) (hl:l.length+((x.ses::(cx x.qs++bA x.vals++an x.clk))).length≤1000000000) (hq:x.qs.length≤1000000) (hv:x.vals.length≤1000000) :
  aA ctx 370 [.ptr 2 0 0,.ptr 3 0 0] [az true (.ref 1 (g) 0 (l).length),nB (l) (g),oB (aJ x),xB 0] (.pv (.tup [])) [az true (.ref 1 (g+((x.ses::(cx x.qs++bA x.vals++an x.clk))).length) 0 (l++(x.ses::(cx x.qs++bA x.vals++an x.clk))).length),nB (l++(x.ses::(cx x.qs++bA x.vals++an x.clk))) (g+((x.ses::(cx x.qs++bA x.vals++an x.clk))).length),oB (aJ x),xB 0]:=by
 have h1:=mg (l) (g) [.ptr 2 0 3] [x.ses] ((aJ x).map .pv) 0 27 71 ⟨qe (by rw[aR];omega) rfl,trivial⟩ (by simp only[List.length_append,List.length_cons,List.length_nil,an,cx,bA]at hl ⊢;omega) (aM _ _) (by rfl);have h1:=dh (E:=[oB (aJ x),aK [.ptr 2 0 3]]) h1 [2,4] [oB (aJ x),xB 0,aK [.ptr 2 0 3]] (by decide) (by simp) (fun _ _=>⟨by rw[oB,dH];rfl,rfl,trivial⟩) (by simp only[List.all_cons,List.all_nil,oB,tB,aM];rfl) (by simp[cC,Nat.blt]) rfl
 have h2:=OE (l++[x.ses]) (g+1) 25 (aJ x) 0 27 71 x.qs (by rw[aR];omega) rfl (by simp only[List.length_append,List.length_cons,List.length_nil,an,cx,bA]at hl ⊢;omega) hq;have h2:=dh (E:=[oB (aJ x)]) h2 [2] [oB (aJ x),xB 0,aK [.ptr 2 0 3]] (by decide) (by simp) (fun _ _=>⟨by rw[oB,dH];rfl,trivial⟩) (by simp only[List.all_cons,List.all_nil,oB,tB,aM];rfl) (by simp[cC,Nat.blt]) rfl
 have h3:=MY ((l++[x.ses])++cx x.qs) (g+1+(cx x.qs).length) 26 (aJ x) 0 27 71 x.vals (by rw[aR];omega) rfl (by simp only[List.length_append,List.length_cons,List.length_nil,an,cx,bA]at hl ⊢;omega) hv;have h3:=dh (E:=[oB (aJ x)]) h3 [2] [oB (aJ x),xB 0,aK [.ptr 2 0 3]] (by decide) (by simp) (fun _ _=>⟨by rw[oB,dH];rfl,trivial⟩) (by simp only[List.all_cons,List.all_nil,oB,tB,aM];rfl) (by simp[cC,Nat.blt]) rfl
 have h4:=yq (((l++[x.ses])++cx x.qs)++bA x.vals) (g+1+(cx x.qs).length+(bA x.vals).length) 27 (aJ x) 0 27 71 x.clk (by rw[aR];omega) rfl (by simp only[List.length_append,List.length_cons,List.length_nil,an,cx,bA]at hl ⊢;omega);have h4:=dh (E:=[oB (aJ x)]) h4 [2] [oB (aJ x),xB 0,aK [.ptr 2 0 3]] (by decide) (by simp) (fun _ _=>⟨by rw[oB,dH];rfl,trivial⟩) (by simp only[List.all_cons,List.all_nil,oB,tB,aM];rfl) (by simp[cC,Nat.blt]) rfl
 have e1:(((l++[x.ses])++cx x.qs)++bA x.vals)++an x.clk=l++(x.ses::(cx x.qs++bA x.vals++an x.clk)):=by simp
 have e2:g+1+(cx x.qs).length+(bA x.vals).length+(an x.clk).length=g+((x.ses::(cx x.qs++bA x.vals++an x.clk))).length:=by simp only[List.length_append,List.length_cons];omega
 rw[←e1,←e2];have hno:=eo ((((l++[x.ses])++cx x.qs)++bA x.vals)++an x.clk) 4;have hcc:=aM (aJ x) 4;refine aH (C:=ctx) (Fn.of HE rfl) rfl (by simp) rfl (by simp only[aY,az,nB,oB,tB,xB,List.all_cons,List.all_nil,List.length_cons,List.length_nil,Nat.zero_add,Nat.reduceAdd,hcc,hno];rfl) ?_;unfold Ki;refine cK (eE (T:=[]) (H:=[(8,{val:=some (.pv (.tup [])),mem:=some ([az true (.ref 1 (g+1) 0 (l++[x.ses]).length),nB (l++[x.ses]) (g+1),oB (aJ x),xB 0,aK [.ptr 2 0 3]])})]) (by rfl) ?_);dsimp only[bR,az,nB,aK,oB,tB,xB,go_sem]
 try dsimp only[az,nB,aK,oB,tB,xB,go_sem]
 refine⟨(by simp[vb]<;>omega),?_,(by first|rfl|trivial),?_⟩
 ·exact⟨h1,trivial⟩
 refine cK (cw (T:=[]) (H:=[(15,{val:=some (.pv (.tup [])),mem:=some ([az true (.ref 1 (g+1+(cx x.qs).length) 0 ((l++[x.ses])++cx x.qs).length),nB ((l++[x.ses])++cx x.qs) (g+1+(cx x.qs).length),oB (aJ x),xB 0,aK [.ptr 2 0 3]])})]) (by rfl) ?_);dsimp only[bk,az,nB,aK,oB,tB,xB,go_sem];try dsimp only[az,nB,aK,oB,tB,xB,go_sem]
 refine⟨(by simp[vb]<;>omega),?_,?_⟩
 ·exact⟨h2,trivial⟩
 refine cK (cw (T:=[]) (H:=[(22,{val:=some (.pv (.tup [])),mem:=some ([az true (.ref 1 (g+1+(cx x.qs).length+(bA x.vals).length) 0 (((l++[x.ses])++cx x.qs)++bA x.vals).length),nB (((l++[x.ses])++cx x.qs)++bA x.vals) (g+1+(cx x.qs).length+(bA x.vals).length),oB (aJ x),xB 0,aK [.ptr 2 0 3]])})]) (by rfl) ?_);dsimp only[bk,az,nB,aK,oB,tB,xB,go_sem];try dsimp only[az,nB,aK,oB,tB,xB,go_sem]
 refine⟨(by simp[vb]<;>omega),?_,?_⟩
 ·exact⟨h3,trivial⟩
 refine cw (T:=[]) (H:=[(27,{val:=some (.pv (.tup [])),mem:=some ([az true (.ref 1 (g+1+(cx x.qs).length+(bA x.vals).length+(an x.clk).length) 0 ((((l++[x.ses])++cx x.qs)++bA x.vals)++an x.clk).length),nB ((((l++[x.ses])++cx x.qs)++bA x.vals)++an x.clk) (g+1+(cx x.qs).length+(bA x.vals).length+(an x.clk).length),oB (aJ x),xB 0,aK [.ptr 2 0 3]])})]) (by rfl) ?_;dsimp only[bk,az,nB,aK,oB,tB,xB,go_sem];try dsimp only[az,nB,aK,oB,tB,xB,go_sem]
 refine⟨(by simp[vb]<;>omega),?_,?_⟩
 ·exact⟨h4,trivial⟩
 exact⟨⟨trivial,rfl⟩,_,rfl⟩
theorem FF (s:List Int) (t k r:Int) (a b c:Int) (hl:([a,b,c]).length+s.length≤1000000000) :
  aA ctx 365 [.ptr 1 0 0,.ptr 2 0 0] [az false (.pv (aa ([a,b,c]++s))),oB (zC t k r),xB 0] (.pv (.tup [])) [az false (.pv (aa (s))),oB ([.int .i64 t,.int .i64 k,.int .i64 r,.int .i64 a,.int .i64 b,.int .i64 c]++aX++du++[.nilsl,.nilsl,.nilsl]),xB 0]:=by
 have h1:=jZ (s) [a,b,c] [3,4,5] (List.map AV.pv (zC t k r:List PV)) 0 27 71 rfl (by simp[zC,z3,aX,du,br,ar]) (by simp only[List.length_append,List.length_cons,List.length_nil,an,bT,eQ,bu]at hl ⊢;omega) (aM _ _);rw[ef]at h1;rw[show gQ (zC t k r) [3,4,5] [a,b,c]=([.int .i64 t,.int .i64 k,.int .i64 r,.int .i64 a,.int .i64 b,.int .i64 c]++aX++du++[.nilsl,.nilsl,.nilsl]:List PV) from rfl]at h1
 have h1:=cW (E:=[aK [.ptr 1 0 3,.ptr 1 0 4,.ptr 1 0 5]]) (cs:=zC t k r) (cs':=[.int .i64 t,.int .i64 k,.int .i64 r,.int .i64 a,.int .i64 b,.int .i64 c]++aX++du++[.nilsl,.nilsl,.nilsl]) h1 0 [3] [oB (zC t k r),xB 0,aK [.ptr 1 0 3,.ptr 1 0 4,.ptr 1 0 5]] (by decide) rfl (by simp) (fun _ _=>⟨rfl,trivial⟩) (by rfl) (by simp[cC,Nat.blt]) rfl;have hcc:=aM ([.int .i64 t,.int .i64 k,.int .i64 r,.int .i64 a,.int .i64 b,.int .i64 c]++aX++du++[.nilsl,.nilsl,.nilsl]) 3
 refine aH (C:=ctx) (Fn.of HB rfl) rfl (by simp) rfl (by simp only[aY,az,oB,tB,xB,List.all_cons,List.all_nil,List.length_cons,List.length_nil,Nat.zero_add,Nat.reduceAdd,hcc];rfl) ?_;unfold Kf;refine eE (T:=[]) (H:=[(14,{val:=some (.pv (.tup [])),mem:=some ([az false (.pv (aa (s))),oB ([.int .i64 t,.int .i64 k,.int .i64 r,.int .i64 a,.int .i64 b,.int .i64 c]++aX++du++[.nilsl,.nilsl,.nilsl]),xB 0,aK [.ptr 1 0 3,.ptr 1 0 4,.ptr 1 0 5]])})]) (by rfl) ?_;dsimp only[bR,az,nB,aK,oB,tB,xB,go_sem];try dsimp only[az,nB,aK,oB,tB,xB,go_sem]
 refine⟨(by simp[vb]<;>omega),?_,(by first|rfl|trivial),?_⟩
 ·exact⟨h1,trivial⟩
 exact⟨⟨trivial,rfl⟩,_,rfl⟩
theorem M9 (s:List Int) (t k r:Int) (a:Int) (hl:([a]).length+s.length≤1000000000) :
  aA ctx 375 [.ptr 1 0 0,.ptr 2 0 0] [az false (.pv (aa ([a]++s))),oB (zC t k r),xB 0] (.pv (.tup [])) [az false (.pv (aa (s))),oB ([.int .i64 t,.int .i64 k,.int .i64 r,.int .i64 a,.int .i64 0,.int .i64 0]++aX++du++[.nilsl,.nilsl,.nilsl]),xB 0]:=by
 have h1:=jZ (s) [a] [3] (List.map AV.pv (zC t k r:List PV)) 0 27 71 rfl (by simp[zC,z3,aX,du,br,ar]) (by simp only[List.length_append,List.length_cons,List.length_nil,an,bT,eQ,bu]at hl ⊢;omega) (aM _ _);rw[ef]at h1;rw[show gQ (zC t k r) [3] [a]=([.int .i64 t,.int .i64 k,.int .i64 r,.int .i64 a,.int .i64 0,.int .i64 0]++aX++du++[.nilsl,.nilsl,.nilsl]:List PV) from rfl]at h1
 have h1:=cW (E:=[aK [.ptr 1 0 3]]) (cs:=zC t k r) (cs':=[.int .i64 t,.int .i64 k,.int .i64 r,.int .i64 a,.int .i64 0,.int .i64 0]++aX++du++[.nilsl,.nilsl,.nilsl]) h1 0 [3] [oB (zC t k r),xB 0,aK [.ptr 1 0 3]] (by decide) rfl (by simp) (fun _ _=>⟨rfl,trivial⟩) (by rfl) (by simp[cC,Nat.blt]) rfl;have hcc:=aM ([.int .i64 t,.int .i64 k,.int .i64 r,.int .i64 a,.int .i64 0,.int .i64 0]++aX++du++[.nilsl,.nilsl,.nilsl]) 3
 refine aH (C:=ctx) (Fn.of HF rfl) rfl (by simp) rfl (by simp only[aY,az,oB,tB,xB,List.all_cons,List.all_nil,List.length_cons,List.length_nil,Nat.zero_add,Nat.reduceAdd,hcc];rfl) ?_;unfold Kj;refine eE (T:=[]) (H:=[(8,{val:=some (.pv (.tup [])),mem:=some ([az false (.pv (aa (s))),oB ([.int .i64 t,.int .i64 k,.int .i64 r,.int .i64 a,.int .i64 0,.int .i64 0]++aX++du++[.nilsl,.nilsl,.nilsl]),xB 0,aK [.ptr 1 0 3]])})]) (by rfl) ?_;dsimp only[bR,az,nB,aK,oB,tB,xB,go_sem];try dsimp only[az,nB,aK,oB,tB,xB,go_sem]
 refine⟨(by simp[vb]<;>omega),?_,(by first|rfl|trivial),?_⟩
 ·exact⟨h1,trivial⟩
 exact⟨⟨trivial,rfl⟩,_,rfl⟩
theorem Na (s:List Int) (t k r:Int) (a b:Int) (hl:([a,b]).length+s.length≤1000000000) :
  aA ctx 377 [.ptr 1 0 0,.ptr 2 0 0] [az false (.pv (aa ([a,b]++s))),oB (zC t k r),xB 0] (.pv (.tup [])) [az false (.pv (aa (s))),oB ([.int .i64 t,.int .i64 k,.int .i64 r,.int .i64 a,.int .i64 b,.int .i64 0]++aX++du++[.nilsl,.nilsl,.nilsl]),xB 0]:=by
 have h1:=jZ (s) [a,b] [3,4] (List.map AV.pv (zC t k r:List PV)) 0 27 71 rfl (by simp[zC,z3,aX,du,br,ar]) (by simp only[List.length_append,List.length_cons,List.length_nil,an,bT,eQ,bu]at hl ⊢;omega) (aM _ _);rw[ef]at h1;rw[show gQ (zC t k r) [3,4] [a,b]=([.int .i64 t,.int .i64 k,.int .i64 r,.int .i64 a,.int .i64 b,.int .i64 0]++aX++du++[.nilsl,.nilsl,.nilsl]:List PV) from rfl]at h1
 have h1:=cW (E:=[aK [.ptr 1 0 3,.ptr 1 0 4]]) (cs:=zC t k r) (cs':=[.int .i64 t,.int .i64 k,.int .i64 r,.int .i64 a,.int .i64 b,.int .i64 0]++aX++du++[.nilsl,.nilsl,.nilsl]) h1 0 [3] [oB (zC t k r),xB 0,aK [.ptr 1 0 3,.ptr 1 0 4]] (by decide) rfl (by simp) (fun _ _=>⟨rfl,trivial⟩) (by rfl) (by simp[cC,Nat.blt]) rfl;have hcc:=aM ([.int .i64 t,.int .i64 k,.int .i64 r,.int .i64 a,.int .i64 b,.int .i64 0]++aX++du++[.nilsl,.nilsl,.nilsl]) 3
 refine aH (C:=ctx) (Fn.of HH rfl) rfl (by simp) rfl (by simp only[aY,az,oB,tB,xB,List.all_cons,List.all_nil,List.length_cons,List.length_nil,Nat.zero_add,Nat.reduceAdd,hcc];rfl) ?_;unfold Kl;refine eE (T:=[]) (H:=[(11,{val:=some (.pv (.tup [])),mem:=some ([az false (.pv (aa (s))),oB ([.int .i64 t,.int .i64 k,.int .i64 r,.int .i64 a,.int .i64 b,.int .i64 0]++aX++du++[.nilsl,.nilsl,.nilsl]),xB 0,aK [.ptr 1 0 3,.ptr 1 0 4]])})]) (by rfl) ?_;dsimp only[bR,az,nB,aK,oB,tB,xB,go_sem];try dsimp only[az,nB,aK,oB,tB,xB,go_sem]
 refine⟨(by simp[vb]<;>omega),?_,(by first|rfl|trivial),?_⟩
 ·exact⟨h1,trivial⟩
 exact⟨⟨trivial,rfl⟩,_,rfl⟩
theorem Nb (s:List Int) (t k r:Int) (o:Oc) (hl:(bT o).length+s.length≤1000000000) (hx:o.needs.length≤1000000) :
  aA ctx 366 [.ptr 1 0 0,.ptr 2 0 0] [az false (.pv (aa (bT o++s))),oB (zC t k r),xB 0] (.pv (.tup [])) [az false (.pv (aa (s))),oB (z3 t k r++br o++du++[.nilsl,.nilsl,.nilsl]),xB 0]:=by
 have h1:=DA s t k r o hl hx;have h1:=cW (E:=[]) (cs:=zC t k r) (cs':=z3 t k r++br o++du++[.nilsl,.nilsl,.nilsl]) h1 0 [] [oB (zC t k r),xB 0] (by decide) rfl (by simp) (fun _ _=>trivial) (by rfl) (by simp[cC,Nat.blt]) rfl;have hcc:=aM (z3 t k r++br o++du++[.nilsl,.nilsl,.nilsl]) 3;refine aH (C:=ctx) (Fn.of HC rfl) rfl (by simp) rfl (by simp only[aY,az,oB,tB,xB,List.all_cons,List.all_nil,List.length_cons,List.length_nil,Nat.zero_add,Nat.reduceAdd,hcc];rfl) ?_;unfold Kg
 refine cw (T:=[]) (H:=[(7,{val:=some (.pv (.tup [])),mem:=some ([az false (.pv (aa (s))),oB (z3 t k r++br o++du++[.nilsl,.nilsl,.nilsl]),xB 0])})]) (by rfl) ?_;dsimp only[bk,az,nB,aK,oB,tB,xB,go_sem];try dsimp only[az,nB,aK,oB,tB,xB,go_sem]
 refine⟨(by simp[vb]<;>omega),?_,?_⟩
 ·exact⟨h1,trivial⟩
 exact⟨⟨trivial,rfl⟩,_,rfl⟩
theorem Nc (s:List Int) (t k r:Int) (e:Ev) (hl:(eQ e).length+s.length≤1000000000) (hx:e.past.length≤1000000) :
  aA ctx 368 [.ptr 1 0 0,.ptr 2 0 0] [az false (.pv (aa (eQ e++s))),oB (zC t k r),xB 0] (.pv (.tup [])) [az false (.pv (aa (s))),oB (z3 t k r++aX++ar e++[.nilsl,.nilsl,.nilsl]),xB 0]:=by
 have h1:=Kd s t k r e hl hx;have h1:=cW (E:=[]) (cs:=zC t k r) (cs':=z3 t k r++aX++ar e++[.nilsl,.nilsl,.nilsl]) h1 0 [] [oB (zC t k r),xB 0] (by decide) rfl (by simp) (fun _ _=>trivial) (by rfl) (by simp[cC,Nat.blt]) rfl;have hcc:=aM (z3 t k r++aX++ar e++[.nilsl,.nilsl,.nilsl]) 3;refine aH (C:=ctx) (Fn.of HD rfl) rfl (by simp) rfl (by simp only[aY,az,oB,tB,xB,List.all_cons,List.all_nil,List.length_cons,List.length_nil,Nat.zero_add,Nat.reduceAdd,hcc];rfl) ?_;unfold Kh
 refine cw (T:=[]) (H:=[(7,{val:=some (.pv (.tup [])),mem:=some ([az false (.pv (aa (s))),oB (z3 t k r++aX++ar e++[.nilsl,.nilsl,.nilsl]),xB 0])})]) (by rfl) ?_;dsimp only[bk,az,nB,aK,oB,tB,xB,go_sem];try dsimp only[az,nB,aK,oB,tB,xB,go_sem]
 refine⟨(by simp[vb]<;>omega),?_,?_⟩
 ·exact⟨h1,trivial⟩
 exact⟨⟨trivial,rfl⟩,_,rfl⟩
theorem Nf (s:List Int) (t k r:Int) (xs:List Int) (hl:(an xs).length+s.length≤1000000000) (hx:xs.length≤1000000) :
  aA ctx 376 [.ptr 1 0 0,.ptr 2 0 0] [az false (.pv (aa (an xs++s))),oB (zC t k r),xB 0] (.pv (.tup [])) [az false (.pv (aa (s))),oB (z3 t k r++aX++du++[.nilsl,.nilsl,aa xs]),xB 0]:=by
 have h1:=zG s 27 (zC t k r) 0 27 71 xs (by simp[zC]) rfl hl hx;rw[show List.set (zC t k r:List PV) 27 (aa xs)=(z3 t k r++aX++du++[.nilsl,.nilsl,aa xs]:List PV) from rfl]at h1;have h1:=cW (E:=[]) (cs:=zC t k r) (cs':=z3 t k r++aX++du++[.nilsl,.nilsl,aa xs]) h1 0 [] [oB (zC t k r),xB 0] (by decide) rfl (by simp) (fun _ _=>trivial) (by rfl) (by simp[cC,Nat.blt]) rfl;have hcc:=aM (z3 t k r++aX++du++[.nilsl,.nilsl,aa xs]) 3
 refine aH (C:=ctx) (Fn.of HG rfl) rfl (by simp) rfl (by simp only[aY,az,oB,tB,xB,List.all_cons,List.all_nil,List.length_cons,List.length_nil,Nat.zero_add,Nat.reduceAdd,hcc];rfl) ?_;unfold Kk;refine cw (T:=[]) (H:=[(7,{val:=some (.pv (.tup [])),mem:=some ([az false (.pv (aa (s))),oB (z3 t k r++aX++du++[.nilsl,.nilsl,aa xs]),xB 0])})]) (by rfl) ?_;dsimp only[bk,az,nB,aK,oB,tB,xB,go_sem];try dsimp only[az,nB,aK,oB,tB,xB,go_sem]
 refine⟨(by simp[vb]<;>omega),?_,?_⟩
 ·exact⟨h1,trivial⟩
 exact⟨⟨trivial,rfl⟩,_,rfl⟩
theorem Ng (s:List Int) (t k r:Int) (a:Int) (qs:List Qu) (vs:List (List Int)) (xs:List Int) (hl:((a::(cx qs++bA vs++an xs))).length+s.length≤1000000000) (hq:qs.length≤1000000) (hv:vs.length≤1000000) (hvx:∀x∈vs,x.length≤1000000) (hx:xs.length≤1000000) :
  aA ctx 370 [.ptr 1 0 0,.ptr 2 0 0] [az false (.pv (aa ((a::(cx qs++bA vs++an xs))++s))),oB (zC t k r),xB 0] (.pv (.tup [])) [az false (.pv (aa (s))),oB ([.int .i64 t,.int .i64 k,.int .i64 r,.int .i64 a,.int .i64 0,.int .i64 0]++aX++du++[aC qs,ai vs,aa xs]),xB 0]:=by
 have e1:(a::(cx qs++bA vs++an xs))++s=[a]++(cx qs++(bA vs++(an xs++s))):=by simp
 rw[e1];have h1:=jZ (cx qs++(bA vs++(an xs++s))) [a] [3] (List.map AV.pv (zC t k r:List PV)) 0 27 71 rfl (by simp[zC,z3,aX,du,br,ar]) (by simp only[List.length_append,List.length_cons,List.length_nil,an,cx,bA]at hl ⊢;omega) (aM _ _);rw[ef]at h1;rw[show gQ (zC t k r) [3] [a]=([.int .i64 t,.int .i64 k,.int .i64 r,.int .i64 a,.int .i64 0,.int .i64 0]++aX++du++[.nilsl,.nilsl,.nilsl]:List PV) from rfl]at h1
 have h1:=cW (E:=[aK [.ptr 1 0 3]]) (cs:=zC t k r) (cs':=[.int .i64 t,.int .i64 k,.int .i64 r,.int .i64 a,.int .i64 0,.int .i64 0]++aX++du++[.nilsl,.nilsl,.nilsl]) h1 0 [3] [oB (zC t k r),xB 0,aK [.ptr 1 0 3]] (by decide) rfl (by simp) (fun _ _=>⟨rfl,trivial⟩) (by rfl) (by simp[cC,Nat.blt]) rfl;have h2:=OF (bA vs++(an xs++s)) 25 ([.int .i64 t,.int .i64 k,.int .i64 r,.int .i64 a,.int .i64 0,.int .i64 0]++aX++du++[.nilsl,.nilsl,.nilsl]) 0 27 71 qs (by simp[aX,du]) rfl (by simp only[List.length_append,List.length_cons,List.length_nil,an,cx,bA]at hl ⊢;omega) hq
 rw[show List.set ([.int .i64 t,.int .i64 k,.int .i64 r,.int .i64 a,.int .i64 0,.int .i64 0]++aX++du++[.nilsl,.nilsl,.nilsl]:List PV) 25 (aC qs)=([.int .i64 t,.int .i64 k,.int .i64 r,.int .i64 a,.int .i64 0,.int .i64 0]++aX++du++[aC qs,.nilsl,.nilsl]:List PV) from rfl]at h2
 have h2:=cW (E:=[]) (cs:=[.int .i64 t,.int .i64 k,.int .i64 r,.int .i64 a,.int .i64 0,.int .i64 0]++aX++du++[.nilsl,.nilsl,.nilsl]) (cs':=[.int .i64 t,.int .i64 k,.int .i64 r,.int .i64 a,.int .i64 0,.int .i64 0]++aX++du++[aC qs,.nilsl,.nilsl]) h2 0 [] [oB ([.int .i64 t,.int .i64 k,.int .i64 r,.int .i64 a,.int .i64 0,.int .i64 0]++aX++du++[.nilsl,.nilsl,.nilsl]),xB 0,aK [.ptr 1 0 3]] (by decide) rfl (by simp) (fun _ _=>trivial) (by rfl) (by simp[cC,Nat.blt]) rfl
 have h3:=MZ (an xs++s) 26 ([.int .i64 t,.int .i64 k,.int .i64 r,.int .i64 a,.int .i64 0,.int .i64 0]++aX++du++[aC qs,.nilsl,.nilsl]) 0 27 71 vs (by simp[aX,du]) rfl (by simp only[List.length_append,List.length_cons,List.length_nil,an,cx,bA]at hl ⊢;omega) hv hvx;rw[show List.set ([.int .i64 t,.int .i64 k,.int .i64 r,.int .i64 a,.int .i64 0,.int .i64 0]++aX++du++[aC qs,.nilsl,.nilsl]:List PV) 26 (ai vs)=([.int .i64 t,.int .i64 k,.int .i64 r,.int .i64 a,.int .i64 0,.int .i64 0]++aX++du++[aC qs,ai vs,.nilsl]:List PV) from rfl]at h3
 have h3:=cW (E:=[]) (cs:=[.int .i64 t,.int .i64 k,.int .i64 r,.int .i64 a,.int .i64 0,.int .i64 0]++aX++du++[aC qs,.nilsl,.nilsl]) (cs':=[.int .i64 t,.int .i64 k,.int .i64 r,.int .i64 a,.int .i64 0,.int .i64 0]++aX++du++[aC qs,ai vs,.nilsl]) h3 0 [] [oB ([.int .i64 t,.int .i64 k,.int .i64 r,.int .i64 a,.int .i64 0,.int .i64 0]++aX++du++[aC qs,.nilsl,.nilsl]),xB 0,aK [.ptr 1 0 3]] (by decide) rfl (by simp) (fun _ _=>trivial) (by rfl) (by simp[cC,Nat.blt]) rfl
 have h4:=zG (s) 27 ([.int .i64 t,.int .i64 k,.int .i64 r,.int .i64 a,.int .i64 0,.int .i64 0]++aX++du++[aC qs,ai vs,.nilsl]) 0 27 71 xs (by simp[aX,du]) rfl (by simp only[List.length_append,List.length_cons,List.length_nil,an,cx,bA]at hl ⊢;omega) hx;rw[show List.set ([.int .i64 t,.int .i64 k,.int .i64 r,.int .i64 a,.int .i64 0,.int .i64 0]++aX++du++[aC qs,ai vs,.nilsl]:List PV) 27 (aa xs)=([.int .i64 t,.int .i64 k,.int .i64 r,.int .i64 a,.int .i64 0,.int .i64 0]++aX++du++[aC qs,ai vs,aa xs]:List PV) from rfl]at h4
 have h4:=cW (E:=[]) (cs:=[.int .i64 t,.int .i64 k,.int .i64 r,.int .i64 a,.int .i64 0,.int .i64 0]++aX++du++[aC qs,ai vs,.nilsl]) (cs':=[.int .i64 t,.int .i64 k,.int .i64 r,.int .i64 a,.int .i64 0,.int .i64 0]++aX++du++[aC qs,ai vs,aa xs]) h4 0 [] [oB ([.int .i64 t,.int .i64 k,.int .i64 r,.int .i64 a,.int .i64 0,.int .i64 0]++aX++du++[aC qs,ai vs,.nilsl]),xB 0,aK [.ptr 1 0 3]] (by decide) rfl (by simp) (fun _ _=>trivial) (by rfl) (by simp[cC,Nat.blt]) rfl
 have hcc:=aM ([.int .i64 t,.int .i64 k,.int .i64 r,.int .i64 a,.int .i64 0,.int .i64 0]++aX++du++[aC qs,ai vs,aa xs]) 3;refine aH (C:=ctx) (Fn.of HE rfl) rfl (by simp) rfl (by simp only[aY,az,oB,tB,xB,List.all_cons,List.all_nil,List.length_cons,List.length_nil,Nat.zero_add,Nat.reduceAdd,hcc];rfl) ?_;unfold Ki
 refine cK (eE (T:=[]) (H:=[(8,{val:=some (.pv (.tup [])),mem:=some ([az false (.pv (aa (cx qs++(bA vs++(an xs++s))))),oB ([.int .i64 t,.int .i64 k,.int .i64 r,.int .i64 a,.int .i64 0,.int .i64 0]++aX++du++[.nilsl,.nilsl,.nilsl]),xB 0,aK [.ptr 1 0 3]])})]) (by rfl) ?_);dsimp only[bR,az,nB,aK,oB,tB,xB,go_sem];try dsimp only[az,nB,aK,oB,tB,xB,go_sem]
 refine⟨(by simp[vb]<;>omega),?_,(by first|rfl|trivial),?_⟩
 ·exact⟨h1,trivial⟩
 refine cK (cw (T:=[]) (H:=[(15,{val:=some (.pv (.tup [])),mem:=some ([az false (.pv (aa (bA vs++(an xs++s)))),oB ([.int .i64 t,.int .i64 k,.int .i64 r,.int .i64 a,.int .i64 0,.int .i64 0]++aX++du++[aC qs,.nilsl,.nilsl]),xB 0,aK [.ptr 1 0 3]])})]) (by rfl) ?_);dsimp only[bk,az,nB,aK,oB,tB,xB,go_sem];try dsimp only[az,nB,aK,oB,tB,xB,go_sem]
 refine⟨(by simp[vb]<;>omega),?_,?_⟩
 ·exact⟨h2,trivial⟩
 refine cK (cw (T:=[]) (H:=[(22,{val:=some (.pv (.tup [])),mem:=some ([az false (.pv (aa (an xs++s))),oB ([.int .i64 t,.int .i64 k,.int .i64 r,.int .i64 a,.int .i64 0,.int .i64 0]++aX++du++[aC qs,ai vs,.nilsl]),xB 0,aK [.ptr 1 0 3]])})]) (by rfl) ?_);dsimp only[bk,az,nB,aK,oB,tB,xB,go_sem];try dsimp only[az,nB,aK,oB,tB,xB,go_sem]
 refine⟨(by simp[vb]<;>omega),?_,?_⟩
 ·exact⟨h3,trivial⟩
 refine cw (T:=[]) (H:=[(27,{val:=some (.pv (.tup [])),mem:=some ([az false (.pv (aa (s))),oB ([.int .i64 t,.int .i64 k,.int .i64 r,.int .i64 a,.int .i64 0,.int .i64 0]++aX++du++[aC qs,ai vs,aa xs]),xB 0,aK [.ptr 1 0 3]])})]) (by rfl) ?_;dsimp only[bk,az,nB,aK,oB,tB,xB,go_sem];try dsimp only[az,nB,aK,oB,tB,xB,go_sem]
 refine⟨(by simp[vb]<;>omega),?_,?_⟩
 ·exact⟨h4,trivial⟩
 exact⟨⟨trivial,rfl⟩,_,rfl⟩
theorem mD (μ:AM) (hμ:aY μ μ.length=true) (o:AV):aA ctx 364 [o] μ (.pv (.tup [])) μ:=by
 refine aH (C:=ctx) (Fn.of M0 rfl) rfl (by simp) rfl hμ ?_;unfold Ke;repeat' (first|((with_reducible first|show aI _|show aP _);simp[vb]<;>omega)|exact(rfl:some _=_)|((fail_if_success refine aZ ?_);refine bJ ?_;(repeat1' dsimp only[Ke,go_sem]);first|refine ba ?_ ?_ rfl ?_|apply bb|apply bf|(refine bg (fun hc=>?_) fun hc=>?_<;>first|(cases hc;done)|(exfalso;simp at hc<;>omega)|(try simp only[bn]at hc;try contradiction))|skip))
 exact⟨⟨trivial,rfl⟩,[],by simp⟩
end
section
open Tr
def DB:af:=(⟨_,by conv=>(lhs;reduce;try simp only[bD,Int.cast_ofNat_Int,Int.reduceNegSucc,UInt8.reduceOfNat])⟩:{x // codeOf Tryz.prog 308 (fun _=>false)=some x}).1
theorem HI:aD Tryz.prog 308 (fun _=>false)=some (DB,[.cell 2 10 true],15,true):=by kernel_rfl
def Nh:af:=(⟨_,by conv=>(lhs;reduce;try simp only[bD,Int.cast_ofNat_Int,Int.reduceNegSucc,UInt8.reduceOfNat])⟩:{x // codeOf Tryz.prog 208 (fun d=>Nat.beq d 9||Nat.beq d 12)=some x}).1
theorem Ni:aD Tryz.prog 208 (fun d=>Nat.beq d 9||Nat.beq d 12)=some (Nh,[.t 2],21,true):=by kernel_rfl
def eL (b:Nat):List AV:=[.fn 365 [.ptr b 0 0],.fn 366 [.ptr b 0 0],.fn 368 [.ptr b 0 0],.fn 370 [.ptr b 0 0],.fn 375 [.ptr b 0 0],.pv (.val (.func (.func 364) #[] #[])),.fn 376 [.ptr b 0 0],.pv (.val (.func (.func 364) #[] #[])),.pv (.val (.func (.func 364) #[] #[])),.fn 377 [.ptr b 0 0]]
def cF (b:Nat):dI:=⟨eL b,0,10,315,false⟩
theorem DC (l:List Int) (g:Nat) (cs:List PV):aA ctx 308 [.ptr 0 0 0] [az true (.ref 1 g 0 l.length),nB l g,oB cs] (.agg (eL 3)) [az true (.ref 1 g 0 l.length),nB l g,oB cs,xB 0,cF 3]:=by
 have hno:=eo l 5;have hcc:=aM cs 5;refine aH (C:=ctx) (Fn.of HI rfl) rfl (by simp) rfl (by simp only[aY,az,nB,oB,tB,xB,cF,eL,List.all_cons,List.all_nil,List.length_cons,List.length_nil,Nat.zero_add,Nat.reduceAdd,hcc,hno];rfl) ?_;unfold DB;repeat' (first|((with_reducible first|show aI _|show aP _);simp[vb]<;>omega)|exact(rfl:some _=_)|((fail_if_success refine aZ ?_);refine bJ ?_;(repeat1' dsimp only[DB,az,nB,oB,tB,xB,cF,eL,go_sem]);first|refine ba ?_ ?_ rfl ?_|apply bb|apply bf|(refine bg (fun hc=>?_) fun hc=>?_<;>first|(cases hc;done)|(exfalso;simp at hc<;>omega)|(try simp only[bn]at hc;try contradiction))|skip))
 exact⟨⟨by simp[aI],rfl⟩,[],rfl⟩
theorem OG (a b:Int) (z:PV) (cs:List PV):aA ctx 307 [.ptr 1 0 0,.ref 2 0 0 2] [oB (.int .i64 a::z::.int .i64 b::cs),az true (.pv .nilsl),aK [.ptr 0 0 0,.ptr 0 0 2]]
  (.pv (.tup [])) [oB (.int .i64 a::z::.int .i64 b::cs),az true (.ref 3 1 0 2),aK [.ptr 0 0 0,.ptr 0 0 2],nB [a,b] 1]:=by
 have hcc:=aM (.int .i64 a::z::.int .i64 b::cs) 4;refine aH (C:=ctx) (Fn.of CI rfl) rfl (by simp) rfl (by simp only[aY,az,nB,oB,tB,aK,List.all_cons,List.all_nil,List.length_cons,List.length_nil,Nat.zero_add,Nat.reduceAdd,hcc];rfl) ?_;unfold nq;repeat' (first|((with_reducible first|show aI _|show aP _);simp[vb]<;>omega)|exact(rfl:some _=_)|((fail_if_success refine aZ ?_);refine bJ ?_;(repeat1' dsimp only[nq,az,nB,oB,tB,aK,List.map_cons,go_sem]);first|refine ba ?_ ?_ rfl ?_|apply bb|apply bf|(refine bg (fun hc=>?_) fun hc=>?_<;>first|(cases hc;done)|(exfalso;simp at hc<;>omega)|(try simp only[bn]at hc;try contradiction))|skip))
 refine jj 2 (fun k=>[(8,.pv (.int .i64 k)),(7,.pv (.int .i64 2)),(6,.ref 2 0 0 2),(0,.ptr 1 0 0)])
  (fun k=>match k with
   |0=>[oB (.int .i64 a::z::.int .i64 b::cs),az true (.pv .nilsl),aK [.ptr 0 0 0,.ptr 0 0 2]]
   |1=>[oB (.int .i64 a::z::.int .i64 b::cs),az true (.ref 3 0 0 1),aK [.ptr 0 0 0,.ptr 0 0 2],nB [a] 0]
   |_=>[oB (.int .i64 a::z::.int .i64 b::cs),az true (.ref 3 1 0 2),aK [.ptr 0 0 0,.ptr 0 0 2],nB [a,b] 1]) (by (repeat' (first|exact trivial|refine And.intro (by first|rfl|(simp[get,Nat.beq]<;>omega)|(dsimp only[get];congr 1<;>first|rfl|omega|(simp<;>omega))) ?_))) (by simp[az,oB,tB,aK]) fun k hk=>?_
 match k,hk with
 |0,_ =>
  repeat' (first|((with_reducible first|show aI _|show aP _);simp[vb]<;>omega)|exact(rfl:some _=_)|((fail_if_success refine aZ ?_);refine cu [(11,{val:=some (.ptr 0 0 0)}),ξ 40 (.int .i64 a)] ?_;(repeat1' dsimp only[nq,az,nB,oB,tB,aK,List.map_cons,go_sem]);first|refine ba ?_ ?_ rfl ?_|apply bb|apply bf|(refine bg (fun hc=>?_) fun hc=>?_<;>first|(cases hc;done)|(exfalso;simp at hc<;>omega)|(try simp only[bn]at hc;try contradiction))|skip))
  all_goals first|exact⟨rfl,trivial⟩|exact⟨by omega,by (repeat' (first|exact trivial|refine And.intro (by first|rfl|(simp[get,Nat.beq]<;>omega)|(dsimp only[get];congr 1<;>first|rfl|omega|(simp<;>omega))) ?_)),rfl⟩
 |1,_ =>
  repeat' (first|((with_reducible first|show aI _|show aP _);simp[vb]<;>omega)|exact(rfl:some _=_)|((fail_if_success refine aZ ?_);refine cu [(11,{val:=some (.ptr 0 0 2)}),ξ 40 (.int .i64 b)] ?_;(repeat1' dsimp only[nq,az,nB,oB,tB,aK,List.map_cons,go_sem]);first|refine ba ?_ ?_ rfl ?_|apply bb|apply bf|(refine bg (fun hc=>?_) fun hc=>?_<;>first|(cases hc;done)|(exfalso;simp at hc<;>omega)|(try simp only[bn]at hc;try contradiction))|skip))
  all_goals first|exact⟨rfl,trivial⟩|exact⟨by omega,by (repeat' (first|exact trivial|refine And.intro (by first|rfl|(simp[get,Nat.beq]<;>omega)|(dsimp only[get];congr 1<;>first|rfl|omega|(simp<;>omega))) ?_)),rfl⟩
 |2,_ =>
  repeat' (first|((with_reducible first|show aI _|show aP _);simp[vb]<;>omega)|exact(rfl:some _=_)|((fail_if_success refine aZ ?_);refine bJ ?_;(repeat1' dsimp only[nq,az,nB,oB,tB,aK,List.map_cons,go_sem]);first|refine ba ?_ ?_ rfl ?_|apply bb|apply bf|(refine bg (fun hc=>?_) fun hc=>?_<;>first|(cases hc;done)|(exfalso;simp at hc<;>omega)|(try simp only[bn]at hc;try contradiction))|skip))
  all_goals first|exact⟨⟨trivial,rfl⟩,_,rfl⟩
theorem qn {C:Ctx} {own:Nat→Bool} {n m:Nat} {x:af} {R:Exit→AF→AM→Prop} {f:AF} {μ μ':AM} (hm:μ=μ') (h:Aw C own n m x R f μ'):Aw C own n m x R f μ:=hm▸h
def sE (x:En) (c:AV):Prop:=∀(l:List Int) (g:Nat),l.length+(cf x).length≤1000000000→match c with
 | .fn f caps=>aA ctx f ([.ptr 2 0 0]++caps) [az true (.ref 1 (g) 0 (l).length),nB (l) (g),oB (aJ x),xB 0,cF 3] (.pv (.tup [])) [az true (.ref 1 (g+(cf x).length) 0 (l++cf x).length),nB (l++cf x) (g+(cf x).length),oB (aJ x),xB 0,cF 3]
 | .pv (.val (.func (.func f) ⟨[]⟩ ⟨[]⟩))=>aA ctx f [.ptr 2 0 0] [az true (.ref 1 (g) 0 (l).length),nB (l) (g),oB (aJ x),xB 0,cF 3] (.pv (.tup [])) [az true (.ref 1 (g+(cf x).length) 0 (l++cf x).length),nB (l++cf x) (g+(cf x).length),oB (aJ x),xB 0,cF 3]
 |_=>False
theorem OH (x:En) (hk:x.kind=0):sE x (.fn 365 [.ptr 3 0 0]):=by
 intro l g hl;have hf:cf x=[x.ses,x.act,x.ser]:=by simp[cf,hk]
 rw[hf]at hl ⊢;have h1:=FE l g x hl;exact dh (E:=[oB (aJ x),xB 0]) h1 [2,3] [oB (aJ x),xB 0,cF 3] (by decide) (by simp) (fun _ _=>⟨by rw[oB,dH];rfl,rfl,trivial⟩) (by simp only[List.all_cons,List.all_nil,oB,tB,aM];rfl) (by simp[cC,Nat.blt]) rfl
theorem OI (x:En) (hk:x.kind=1) (hx:x.out.needs.length≤1000000):sE x (.fn 366 [.ptr 3 0 0]):=by
 intro l g hl;have hf:cf x=bT x.out:=by simp[cf,hk]
 rw[hf]at hl ⊢;have h1:=M5 l g x hl hx;exact dh (E:=[oB (aJ x),xB 0]) h1 [2,3] [oB (aJ x),xB 0,cF 3] (by decide) (by simp) (fun _ _=>⟨by rw[oB,dH];rfl,rfl,trivial⟩) (by simp only[List.all_cons,List.all_nil,oB,tB,aM];rfl) (by simp[cC,Nat.blt]) rfl
theorem OJ (x:En) (hk:x.kind=2) (hx:x.ev.past.length≤1000000):sE x (.fn 368 [.ptr 3 0 0]):=by
 intro l g hl;have hf:cf x=eQ x.ev:=by simp[cf,hk]
 rw[hf]at hl ⊢;have h1:=M6 l g x hl hx;exact dh (E:=[oB (aJ x),xB 0]) h1 [2,3] [oB (aJ x),xB 0,cF 3] (by decide) (by simp) (fun _ _=>⟨by rw[oB,dH];rfl,rfl,trivial⟩) (by simp only[List.all_cons,List.all_nil,oB,tB,aM];rfl) (by simp[cC,Nat.blt]) rfl
theorem OL (x:En) (hk:x.kind=3) (hq:x.qs.length≤1000000) (hv:x.vals.length≤1000000):sE x (.fn 370 [.ptr 3 0 0]):=by
 intro l g hl;have hf:cf x=(x.ses::(cx x.qs++bA x.vals++an x.clk)):=by simp[cf,hk]
 rw[hf]at hl ⊢;have h1:=M8 l g x hl hq hv;exact dh (E:=[oB (aJ x),xB 0]) h1 [2,3] [oB (aJ x),xB 0,cF 3] (by decide) (by simp) (fun _ _=>⟨by rw[oB,dH];rfl,rfl,trivial⟩) (by simp only[List.all_cons,List.all_nil,oB,tB,aM];rfl) (by simp[cC,Nat.blt]) rfl
theorem OM (x:En) (hk:x.kind=4):sE x (.fn 375 [.ptr 3 0 0]):=by
 intro l g hl;have hf:cf x=[x.ses]:=by simp[cf,hk]
 rw[hf]at hl ⊢;have h1:=M3 l g x hl;exact dh (E:=[oB (aJ x),xB 0]) h1 [2,3] [oB (aJ x),xB 0,cF 3] (by decide) (by simp) (fun _ _=>⟨by rw[oB,dH];rfl,rfl,trivial⟩) (by simp only[List.all_cons,List.all_nil,oB,tB,aM];rfl) (by simp[cC,Nat.blt]) rfl
theorem ON (x:En) (hk:x.kind=5):sE x (.pv (.val (.func (.func 364) #[] #[]))):=by
 intro l g hl;have hf:cf x=[]:=by simp[cf,hk]
 rw[hf]at hl ⊢;rw[List.append_nil];exact mD _ (by simp only[aY,az,nB,oB,tB,xB,cF,eL,List.all_cons,List.all_nil,List.length_cons,List.length_nil,Nat.zero_add,Nat.reduceAdd,aM,eo];rfl) _
theorem OO (x:En) (hk:x.kind=6):sE x (.fn 376 [.ptr 3 0 0]):=by
 intro l g hl;have hf:cf x=an x.clk:=by simp[cf,hk]
 rw[hf]at hl ⊢;have h1:=M7 l g x hl;exact dh (E:=[oB (aJ x),xB 0]) h1 [2,3] [oB (aJ x),xB 0,cF 3] (by decide) (by simp) (fun _ _=>⟨by rw[oB,dH];rfl,rfl,trivial⟩) (by simp only[List.all_cons,List.all_nil,oB,tB,aM];rfl) (by simp[cC,Nat.blt]) rfl
theorem OP (x:En) (hk:x.kind=7):sE x (.pv (.val (.func (.func 364) #[] #[]))):=by
 intro l g hl;have hf:cf x=[]:=by simp[cf,hk]
 rw[hf]at hl ⊢;rw[List.append_nil];exact mD _ (by simp only[aY,az,nB,oB,tB,xB,cF,eL,List.all_cons,List.all_nil,List.length_cons,List.length_nil,Nat.zero_add,Nat.reduceAdd,aM,eo];rfl) _
theorem OQ (x:En) (hk:x.kind=8):sE x (.pv (.val (.func (.func 364) #[] #[]))):=by
 intro l g hl;have hf:cf x=[]:=by simp[cf,hk]
 rw[hf]at hl ⊢;rw[List.append_nil];exact mD _ (by simp only[aY,az,nB,oB,tB,xB,cF,eL,List.all_cons,List.all_nil,List.length_cons,List.length_nil,Nat.zero_add,Nat.reduceAdd,aM,eo];rfl) _
theorem OR (x:En) (hk:x.kind=9):sE x (.fn 377 [.ptr 3 0 0]):=by
 intro l g hl;have hf:cf x=[x.ses,x.act]:=by simp[cf,hk]
 rw[hf]at hl ⊢;have h1:=M4 l g x hl;exact dh (E:=[oB (aJ x),xB 0]) h1 [2,3] [oB (aJ x),xB 0,cF 3] (by decide) (by simp) (fun _ _=>⟨by rw[oB,dH];rfl,rfl,trivial⟩) (by simp only[List.all_cons,List.all_nil,oB,tB,aM];rfl) (by simp[cC,Nat.blt]) rfl
theorem eG (x:En) (j:Nat) (hj:j<10) (hk:x.kind=j) (c:AV) (hc:(eL 3).getD j .any=c) (hkn:sE x c) (hcf:(∃f,c= .fn f [.ptr 3 0 0])∨∃f,c= .pv (.val (.func (.func f) #[] #[]))) (hl:(bz x).length≤1000000000) :
  ah ctx 208 [bU x] (aa (bz x)):=by
 have h0:=OG x.tick x.rep (.int .i64 x.kind) (.int .i64 x.ses::.int .i64 x.act::.int .i64 x.ser::(br x.out++ar x.ev++[aC x.qs,ai x.vals,aa x.clk]));have hfw:=DC [x.tick,x.rep] 1 (aJ x);have hel:=aR x;have hkw:=hkn [x.tick,x.rep] 1 (by simp[bz]at hl ⊢;omega);have hfe:[x.tick,x.rep]++cf x=bz x:=rfl;rw[hfe]at hkw;have hd:∀L:List AV,L=eL 3→L[j]?.getD AV.any=c:=fun L hL=>by rw[hL,←hc,List.getD]
 have hd:=hd _ rfl;refine aj (C:=ctx) (Fn.of Ni rfl) rfl ?_;unfold Nh;refine bJ ?_;dsimp only[bU,go_sem];try dsimp only[bU,go_sem]
 refine⟨(by simp[vb]<;>omega),(by simp[vb]<;>omega),?_⟩;refine bJ ?_;dsimp only[bU,go_sem];try dsimp only[bU,go_sem]
 refine⟨(by simp[vb]<;>omega),(by simp[vb]<;>omega),?_⟩;refine cu [(10,{val:=some (.pv (.tup [])),mem:=some ([oB (aJ x),az true (.ref 3 1 0 2),aK [.ptr 0 0 0,.ptr 0 0 2],nB [x.tick,x.rep] 1])})] ?_;dsimp only[az,nB,oB,tB,aK,go_sem];try dsimp only[az,nB,oB,tB,aK,go_sem]
 refine⟨(by simp[vb]<;>omega),?_,?_⟩
 ·exact⟨h0,trivial⟩
 refine dy [(1,.ptr 0 0 0),(3,.ptr 1 0 0)] (by (repeat' (first|exact trivial|refine And.intro (by first|rfl|(simp[get,Nat.beq]<;>omega)|(dsimp only[get];congr 1<;>first|rfl|omega|(simp<;>omega))) ?_))) ?_;refine p7 [1,3,0] (by rfl) ?_;refine qn (show _=[az true (.ref 1 (1) 0 ([x.tick,x.rep]).length),nB ([x.tick,x.rep]) (1),oB (aJ x)] by rfl) ?_
 refine dy [(1,.ptr 2 0 0),(3,.ptr 0 0 0)] (by (repeat' (first|exact trivial|refine And.intro (by first|rfl|(simp[get,Nat.beq]<;>omega)|(dsimp only[get];congr 1<;>first|rfl|omega|(simp<;>omega))) ?_))) ?_;rcases hcf with⟨f,rfl⟩|⟨f,rfl⟩
 ·refine cK (eE (T:=[]) (H:=[(12,{val:=some (.agg (eL 3)),new:=[xB 0,cF 3]}),ξ 14 (.int .i64 j),(15,{val:=some (.fn f [.ptr 3 0 0])}),(16,{val:=some (.pv (.tup [])),mem:=some ([az true (.ref 1 (1+(cf x).length) 0 (bz x).length),nB (bz x) (1+(cf x).length),oB (aJ x),xB 0,cF 3])})]) (by rfl) ?_);dsimp only[bR,az,nB,oB,tB,xB,cF,eL,dn,gJ,go_sem];try dsimp only[az,nB,oB,tB,xB,cF,eL,dn,gJ,go_sem]
  refine⟨(by simp[vb,hel]<;>omega),?_,(by first|rfl|trivial),?_⟩
  ·exact⟨hkw,by rw[Int.toNat_natCast,Nat.mul_one];exact hd,congrArg (fun k=>AV.pv (.int .i64 k)) hk,hfw,trivial⟩
  refine bJ ?_;dsimp only[az,nB,oB,tB,xB,cF,eL,go_sem];try dsimp only[az,nB,oB,tB,xB,cF,eL,go_sem]
  refine⟨(by simp[vb]<;>omega),(by simp[vb]<;>omega),?_⟩;refine dy [(2,.ref 1 (1+(cf x).length) 0 (bz x).length)] (by (repeat' (first|exact trivial|refine And.intro (by first|rfl|(simp[get,Nat.beq]<;>omega)|(dsimp only[get];congr 1<;>first|rfl|omega|(simp<;>omega))) ?_))) ?_;refine p7 [1] (by rfl) ?_;refine qn (show _=[]++[⟨((bz x).map (PV.int .i64)).map .pv,1+(cf x).length,1,3,false⟩] by simp[mZ,mY,fF,Function.comp_def]) ?_;refine rA (t:=2) (μ:=[]) rfl (Nat.le_refl _) (by decide) (by simp) (fun M=>rfl) rfl ?_
  refine bJ ?_;dsimp only[aa,go_sem];all_goals first|exact⟨trivial,rfl⟩
 refine cK (eE (T:=[]) (H:=[(12,{val:=some (.agg (eL 3)),new:=[xB 0,cF 3]}),ξ 14 (.int .i64 j),ξ 15 (.val (.func (.func f) #[] #[])),(16,{val:=some (.pv (.tup [])),mem:=some ([az true (.ref 1 (1+(cf x).length) 0 (bz x).length),nB (bz x) (1+(cf x).length),oB (aJ x),xB 0,cF 3])})]) (by rfl) ?_);dsimp only[bR,az,nB,oB,tB,xB,cF,eL,dn,gJ,go_sem];try dsimp only[az,nB,oB,tB,xB,cF,eL,dn,gJ,go_sem]
 refine⟨(by simp[vb,hel]<;>omega),?_,(by first|rfl|trivial),?_⟩
 ·exact⟨hkw,by rw[Int.toNat_natCast,Nat.mul_one];exact hd,congrArg (fun k=>AV.pv (.int .i64 k)) hk,hfw,trivial⟩
 refine bJ ?_;dsimp only[az,nB,oB,tB,xB,cF,eL,go_sem];try dsimp only[az,nB,oB,tB,xB,cF,eL,go_sem]
 refine⟨(by simp[vb]<;>omega),(by simp[vb]<;>omega),?_⟩;refine dy [(2,.ref 1 (1+(cf x).length) 0 (bz x).length)] (by (repeat' (first|exact trivial|refine And.intro (by first|rfl|(simp[get,Nat.beq]<;>omega)|(dsimp only[get];congr 1<;>first|rfl|omega|(simp<;>omega))) ?_))) ?_;refine p7 [1] (by rfl) ?_;refine qn (show _=[]++[⟨((bz x).map (PV.int .i64)).map .pv,1+(cf x).length,1,3,false⟩] by simp[mZ,mY,fF,Function.comp_def]) ?_;refine rA (t:=2) (μ:=[]) rfl (Nat.le_refl _) (by decide) (by simp) (fun M=>rfl) rfl ?_
 refine bJ ?_;dsimp only[aa,go_sem];all_goals first|exact⟨trivial,rfl⟩
end
section
open Tr
def Nj:af:=(⟨_,by conv=>(lhs;reduce;try simp only[bD,Int.cast_ofNat_Int,Int.reduceNegSucc,UInt8.reduceOfNat])⟩:{x // codeOf Tryz.prog 207 (fun d=>Nat.beq d 15||Nat.beq d 18)=some x}).1
theorem Nk:aD Tryz.prog 207 (fun d=>Nat.beq d 15||Nat.beq d 18)=some (Nj,[.cell 2 28 true],24,true):=by kernel_rfl
theorem sF:∀(l:List PV),cG (l.map .pv)=some l
 |[]=>rfl
 |p::r=>by simp only[List.map_cons,cG,sF r]
structure jJ (x:En):Prop where
 nd:x.out.needs.length≤1000000
 past:x.ev.past.length≤1000000
 qs:x.qs.length≤1000000
 vals:x.vals.length≤1000000
 inn:∀v∈x.vals,v.length≤1000000
 clk:x.clk.length≤1000000
 all:(bz x).length≤1000000000
theorem tR (x:En) (h:jJ x) (h0:0≤x.kind) (h9:x.kind≤9):ah ctx 208 [bU x] (aa (bz x)):=by
 obtain⟨j,hj⟩:∃j:Nat,x.kind=j:=⟨x.kind.toNat,by omega⟩
 have hj9:j<10:=by omega
 match j,hj9,hj with
 |0,hl,hk=>exact eG x 0 hl hk _ rfl (OH x hk) (.inl ⟨_,rfl⟩) h.all
 |1,hl,hk=>exact eG x 1 hl hk _ rfl (OI x hk h.nd) (.inl ⟨_,rfl⟩) h.all
 |2,hl,hk=>exact eG x 2 hl hk _ rfl (OJ x hk h.past) (.inl ⟨_,rfl⟩) h.all
 |3,hl,hk=>exact eG x 3 hl hk _ rfl (OL x hk h.qs h.vals) (.inl ⟨_,rfl⟩) h.all
 |4,hl,hk=>exact eG x 4 hl hk _ rfl (OM x hk) (.inl ⟨_,rfl⟩) h.all
 |5,hl,hk=>exact eG x 5 hl hk _ rfl (ON x hk) (.inr ⟨_,rfl⟩) h.all
 |6,hl,hk=>exact eG x 6 hl hk _ rfl (OO x hk) (.inl ⟨_,rfl⟩) h.all
 |7,hl,hk=>exact eG x 7 hl hk _ rfl (OP x hk) (.inr ⟨_,rfl⟩) h.all
 |8,hl,hk=>exact eG x 8 hl hk _ rfl (OQ x hk) (.inr ⟨_,rfl⟩) h.all
 |9,hl,hk=>exact eG x 9 hl hk _ rfl (OR x hk) (.inl ⟨_,rfl⟩) h.all
def js (x:En) (fin:List PV) (c:AV):Prop:=match c with
 | .fn f caps=>aA ctx f ([.ptr 1 0 0]++caps) [az false (.pv (aa (cf x))),oB (zC x.tick x.kind x.rep),oB (aJ x),oB (zC 0 0 0),aK [.ptr 1 0 0,.ptr 1 0 2],xB 0,cF 5] (.pv (.tup [])) [az false (.pv (aa ([]))),oB (fin),oB (aJ x),oB (zC 0 0 0),aK [.ptr 1 0 0,.ptr 1 0 2],xB 0,cF 5]
 | .pv (.val (.func (.func f) ⟨[]⟩ ⟨[]⟩))=>aA ctx f [.ptr 1 0 0] [az false (.pv (aa (cf x))),oB (zC x.tick x.kind x.rep),oB (aJ x),oB (zC 0 0 0),aK [.ptr 1 0 0,.ptr 1 0 2],xB 0,cF 5] (.pv (.tup [])) [az false (.pv (aa ([]))),oB (fin),oB (aJ x),oB (zC 0 0 0),aK [.ptr 1 0 0,.ptr 1 0 2],xB 0,cF 5]
 |_=>False
theorem Nl (x:En) (h:jJ x) (hk:x.kind=0):js x ([.int .i64 x.tick,.int .i64 x.kind,.int .i64 x.rep,.int .i64 x.ses,.int .i64 x.act,.int .i64 x.ser]++aX++du++[.nilsl,.nilsl,.nilsl]) (.fn 365 [.ptr 5 0 0]):=by
 have hf:cf x=[x.ses,x.act,x.ser]:=by simp[cf,hk]
 have hl:([x.ses,x.act,x.ser]:List Int).length+([]:List Int).length≤1000000000:=by
  have:=h.all;rw[bz,hf,List.length_append]at this;simp only[List.length_nil];omega
 unfold js;rw[hf];have h1:=FF [] x.tick x.kind x.rep x.ses x.act x.ser (by simp);rw[List.append_nil]at h1;exact cW (E:=[xB 0]) (cs:=zC x.tick x.kind x.rep) (cs':=[.int .i64 x.tick,.int .i64 x.kind,.int .i64 x.rep,.int .i64 x.ses,.int .i64 x.act,.int .i64 x.ser]++aX++du++[.nilsl,.nilsl,.nilsl]) h1 0 [5] [oB (zC x.tick x.kind x.rep),oB (aJ x),oB (zC 0 0 0),aK [.ptr 1 0 0,.ptr 1 0 2],xB 0,cF 5] (by decide) rfl (by simp) (fun _ _=>⟨rfl,trivial⟩) (by rfl) (by simp[cC,Nat.blt]) rfl
theorem Nn (x:En) (h:jJ x) (hk:x.kind=1):js x ([.int .i64 x.tick,.int .i64 x.kind,.int .i64 x.rep,.int .i64 0,.int .i64 0,.int .i64 0]++br x.out++du++[.nilsl,.nilsl,.nilsl]) (.fn 366 [.ptr 5 0 0]):=by
 have hf:cf x=bT x.out:=by simp[cf,hk]
 have hl:(bT x.out:List Int).length+([]:List Int).length≤1000000000:=by
  have:=h.all;rw[bz,hf,List.length_append]at this;simp only[List.length_nil];omega
 unfold js;rw[hf];have h1:=Nb [] x.tick x.kind x.rep x.out hl h.nd;rw[List.append_nil]at h1;exact cW (E:=[xB 0]) (cs:=zC x.tick x.kind x.rep) (cs':=[.int .i64 x.tick,.int .i64 x.kind,.int .i64 x.rep,.int .i64 0,.int .i64 0,.int .i64 0]++br x.out++du++[.nilsl,.nilsl,.nilsl]) h1 0 [5] [oB (zC x.tick x.kind x.rep),oB (aJ x),oB (zC 0 0 0),aK [.ptr 1 0 0,.ptr 1 0 2],xB 0,cF 5] (by decide) rfl (by simp) (fun _ _=>⟨rfl,trivial⟩) (by rfl) (by simp[cC,Nat.blt]) rfl
theorem No (x:En) (h:jJ x) (hk:x.kind=2):js x ([.int .i64 x.tick,.int .i64 x.kind,.int .i64 x.rep,.int .i64 0,.int .i64 0,.int .i64 0]++aX++ar x.ev++[.nilsl,.nilsl,.nilsl]) (.fn 368 [.ptr 5 0 0]):=by
 have hf:cf x=eQ x.ev:=by simp[cf,hk]
 have hl:(eQ x.ev:List Int).length+([]:List Int).length≤1000000000:=by
  have:=h.all;rw[bz,hf,List.length_append]at this;simp only[List.length_nil];omega
 unfold js;rw[hf];have h1:=Nc [] x.tick x.kind x.rep x.ev hl h.past;rw[List.append_nil]at h1;exact cW (E:=[xB 0]) (cs:=zC x.tick x.kind x.rep) (cs':=[.int .i64 x.tick,.int .i64 x.kind,.int .i64 x.rep,.int .i64 0,.int .i64 0,.int .i64 0]++aX++ar x.ev++[.nilsl,.nilsl,.nilsl]) h1 0 [5] [oB (zC x.tick x.kind x.rep),oB (aJ x),oB (zC 0 0 0),aK [.ptr 1 0 0,.ptr 1 0 2],xB 0,cF 5] (by decide) rfl (by simp) (fun _ _=>⟨rfl,trivial⟩) (by rfl) (by simp[cC,Nat.blt]) rfl
theorem Np (x:En) (h:jJ x) (hk:x.kind=3):js x ([.int .i64 x.tick,.int .i64 x.kind,.int .i64 x.rep,.int .i64 x.ses,.int .i64 0,.int .i64 0]++aX++du++[aC x.qs,ai x.vals,aa x.clk]) (.fn 370 [.ptr 5 0 0]):=by
 have hf:cf x=(x.ses::(cx x.qs++bA x.vals++an x.clk)):=by simp[cf,hk]
 have hl:((x.ses::(cx x.qs++bA x.vals++an x.clk)):List Int).length+([]:List Int).length≤1000000000:=by
  have:=h.all;rw[bz,hf,List.length_append]at this;simp only[List.length_nil];omega
 unfold js;rw[hf];have h1:=Ng [] x.tick x.kind x.rep x.ses x.qs x.vals x.clk hl h.qs h.vals h.inn h.clk;rw[List.append_nil]at h1;exact cW (E:=[xB 0]) (cs:=zC x.tick x.kind x.rep) (cs':=[.int .i64 x.tick,.int .i64 x.kind,.int .i64 x.rep,.int .i64 x.ses,.int .i64 0,.int .i64 0]++aX++du++[aC x.qs,ai x.vals,aa x.clk]) h1 0 [5] [oB (zC x.tick x.kind x.rep),oB (aJ x),oB (zC 0 0 0),aK [.ptr 1 0 0,.ptr 1 0 2],xB 0,cF 5] (by decide) rfl (by simp) (fun _ _=>⟨rfl,trivial⟩) (by rfl) (by simp[cC,Nat.blt]) rfl
theorem Nq (x:En) (h:jJ x) (hk:x.kind=4):js x ([.int .i64 x.tick,.int .i64 x.kind,.int .i64 x.rep,.int .i64 x.ses,.int .i64 0,.int .i64 0]++aX++du++[.nilsl,.nilsl,.nilsl]) (.fn 375 [.ptr 5 0 0]):=by
 have hf:cf x=[x.ses]:=by simp[cf,hk]
 have hl:([x.ses]:List Int).length+([]:List Int).length≤1000000000:=by
  have:=h.all;rw[bz,hf,List.length_append]at this;simp only[List.length_nil];omega
 unfold js;rw[hf];have h1:=M9 [] x.tick x.kind x.rep x.ses (by simp);rw[List.append_nil]at h1;exact cW (E:=[xB 0]) (cs:=zC x.tick x.kind x.rep) (cs':=[.int .i64 x.tick,.int .i64 x.kind,.int .i64 x.rep,.int .i64 x.ses,.int .i64 0,.int .i64 0]++aX++du++[.nilsl,.nilsl,.nilsl]) h1 0 [5] [oB (zC x.tick x.kind x.rep),oB (aJ x),oB (zC 0 0 0),aK [.ptr 1 0 0,.ptr 1 0 2],xB 0,cF 5] (by decide) rfl (by simp) (fun _ _=>⟨rfl,trivial⟩) (by rfl) (by simp[cC,Nat.blt]) rfl
theorem Nr (x:En) (h:jJ x) (hk:x.kind=5):js x ([.int .i64 x.tick,.int .i64 x.kind,.int .i64 x.rep,.int .i64 0,.int .i64 0,.int .i64 0]++aX++du++[.nilsl,.nilsl,.nilsl]) (.pv (.val (.func (.func 364) #[] #[]))):=by
 have hf:cf x=[]:=by simp[cf,hk]
 have hl:([]:List Int).length+([]:List Int).length≤1000000000:=by
  have:=h.all;rw[bz,hf,List.length_append]at this;simp only[List.length_nil];omega
 unfold js;rw[hf];exact mD _ (by simp only[aY,az,oB,tB,xB,aK,cF,eL,aa,List.all_cons,List.all_nil,List.length_cons,List.length_nil,Nat.zero_add,Nat.reduceAdd,aM];rfl) _
theorem Ns (x:En) (h:jJ x) (hk:x.kind=6):js x ([.int .i64 x.tick,.int .i64 x.kind,.int .i64 x.rep,.int .i64 0,.int .i64 0,.int .i64 0]++aX++du++[.nilsl,.nilsl,aa x.clk]) (.fn 376 [.ptr 5 0 0]):=by
 have hf:cf x=an x.clk:=by simp[cf,hk]
 have hl:(an x.clk:List Int).length+([]:List Int).length≤1000000000:=by
  have:=h.all;rw[bz,hf,List.length_append]at this;simp only[List.length_nil];omega
 unfold js;rw[hf];have h1:=Nf [] x.tick x.kind x.rep x.clk hl h.clk;rw[List.append_nil]at h1;exact cW (E:=[xB 0]) (cs:=zC x.tick x.kind x.rep) (cs':=[.int .i64 x.tick,.int .i64 x.kind,.int .i64 x.rep,.int .i64 0,.int .i64 0,.int .i64 0]++aX++du++[.nilsl,.nilsl,aa x.clk]) h1 0 [5] [oB (zC x.tick x.kind x.rep),oB (aJ x),oB (zC 0 0 0),aK [.ptr 1 0 0,.ptr 1 0 2],xB 0,cF 5] (by decide) rfl (by simp) (fun _ _=>⟨rfl,trivial⟩) (by rfl) (by simp[cC,Nat.blt]) rfl
theorem Nt (x:En) (h:jJ x) (hk:x.kind=7):js x ([.int .i64 x.tick,.int .i64 x.kind,.int .i64 x.rep,.int .i64 0,.int .i64 0,.int .i64 0]++aX++du++[.nilsl,.nilsl,.nilsl]) (.pv (.val (.func (.func 364) #[] #[]))):=by
 have hf:cf x=[]:=by simp[cf,hk]
 have hl:([]:List Int).length+([]:List Int).length≤1000000000:=by
  have:=h.all;rw[bz,hf,List.length_append]at this;simp only[List.length_nil];omega
 unfold js;rw[hf];exact mD _ (by simp only[aY,az,oB,tB,xB,aK,cF,eL,aa,List.all_cons,List.all_nil,List.length_cons,List.length_nil,Nat.zero_add,Nat.reduceAdd,aM];rfl) _
theorem Nu (x:En) (h:jJ x) (hk:x.kind=8):js x ([.int .i64 x.tick,.int .i64 x.kind,.int .i64 x.rep,.int .i64 0,.int .i64 0,.int .i64 0]++aX++du++[.nilsl,.nilsl,.nilsl]) (.pv (.val (.func (.func 364) #[] #[]))):=by
 have hf:cf x=[]:=by simp[cf,hk]
 have hl:([]:List Int).length+([]:List Int).length≤1000000000:=by
  have:=h.all;rw[bz,hf,List.length_append]at this;simp only[List.length_nil];omega
 unfold js;rw[hf];exact mD _ (by simp only[aY,az,oB,tB,xB,aK,cF,eL,aa,List.all_cons,List.all_nil,List.length_cons,List.length_nil,Nat.zero_add,Nat.reduceAdd,aM];rfl) _
theorem Nv (x:En) (h:jJ x) (hk:x.kind=9):js x ([.int .i64 x.tick,.int .i64 x.kind,.int .i64 x.rep,.int .i64 x.ses,.int .i64 x.act,.int .i64 0]++aX++du++[.nilsl,.nilsl,.nilsl]) (.fn 377 [.ptr 5 0 0]):=by
 have hf:cf x=[x.ses,x.act]:=by simp[cf,hk]
 have hl:([x.ses,x.act]:List Int).length+([]:List Int).length≤1000000000:=by
  have:=h.all;rw[bz,hf,List.length_append]at this;simp only[List.length_nil];omega
 unfold js;rw[hf];have h1:=Na [] x.tick x.kind x.rep x.ses x.act (by simp);rw[List.append_nil]at h1;exact cW (E:=[xB 0]) (cs:=zC x.tick x.kind x.rep) (cs':=[.int .i64 x.tick,.int .i64 x.kind,.int .i64 x.rep,.int .i64 x.ses,.int .i64 x.act,.int .i64 0]++aX++du++[.nilsl,.nilsl,.nilsl]) h1 0 [5] [oB (zC x.tick x.kind x.rep),oB (aJ x),oB (zC 0 0 0),aK [.ptr 1 0 0,.ptr 1 0 2],xB 0,cF 5] (by decide) rfl (by simp) (fun _ _=>⟨rfl,trivial⟩) (by rfl) (by simp[cC,Nat.blt]) rfl
theorem DD (r:List Int) (cs ds:List PV):aA ctx 308 [.ptr 0 0 0] [az false (.pv (aa r)),oB cs,oB ds,oB (zC 0 0 0),aK [.ptr 1 0 0,.ptr 1 0 2]] (.agg (eL 5)) [az false (.pv (aa r)),oB cs,oB ds,oB (zC 0 0 0),aK [.ptr 1 0 0,.ptr 1 0 2],xB 0,cF 5]:=by
 have hcc:=aM cs 7;have hdd:=aM ds 7;refine aH (C:=ctx) (Fn.of HI rfl) rfl (by simp) rfl (by simp only[aY,az,oB,tB,xB,aK,zC,cF,eL,aa,List.all_cons,List.all_nil,List.length_cons,List.length_nil,Nat.zero_add,Nat.reduceAdd,hcc,hdd];rfl) ?_;unfold DB;repeat' (first|((with_reducible first|show aI _|show aP _);simp[vb]<;>omega)|exact(rfl:some _=_)|((fail_if_success refine aZ ?_);refine bJ ?_;(repeat1' dsimp only[DB,az,oB,tB,xB,aK,zC,cF,eL,aa,List.map_cons,List.map_nil,go_sem]);first|refine ba ?_ ?_ rfl ?_|apply bb|apply bf|(refine bg (fun hc=>?_) fun hc=>?_<;>first|(cases hc;done)|(exfalso;simp at hc<;>omega)|(try simp only[bn]at hc;try contradiction))|skip))
 all_goals first|exact⟨⟨by simp[aI],rfl⟩,[],rfl⟩
theorem fm (x:En) (h:jJ x) (j:Nat) (hj:j<10) (hk:x.kind=j) (fin:List PV) (hfl:fin.length=28) (hw:PW CW (fin.map AV.pv) ((aJ (bK x)).map AV.pv)) (c:AV) (hc:(eL 5).getD j .any=c) (hkn:js x fin c) (hcf:(∃f,c= .fn f [.ptr 5 0 0])∨∃f,c= .pv (.val (.func (.func f) #[] #[]))) :
  ah ctx 207 [bU x] (bU (bK x)):=by
 have hfo:=tR x h (by omega) (by omega);have hel:=aR x;have hlf:=h.all;have h0:=jZ (cf x) [x.tick,x.rep] [0,2] ((zC 0 x.kind 0).map .pv) 0 27 71 rfl (by simp[zC]) (by simp[bz]at hlf ⊢;omega) (aM _ _);rw[ef]at h0;rw[show gQ (zC 0 x.kind 0) [0,2] [x.tick,x.rep]=(zC x.tick x.kind x.rep:List PV) from rfl]at h0
 have h0:=cW (E:=[aK [.ptr 1 0 0,.ptr 1 0 2]]) (cs:=zC 0 x.kind 0) (cs':=zC x.tick x.kind x.rep) h0 0 [4] [oB (zC 0 x.kind 0),oB (aJ x),oB (zC 0 0 0),aK [.ptr 1 0 0,.ptr 1 0 2]] (by decide) rfl (by simp) (fun _ _=>⟨rfl,trivial⟩) (by rfl) (by simp[cC,Nat.blt]) rfl;have hfw:=DD (cf x) (zC x.tick x.kind x.rep) (aJ x);have hd:(eL 5)[j]?.getD AV.any=c:=by rw[←hc,List.getD]
 have hld:(List.map AV.pv (aJ x))[1]?.getD AV.any= .pv (.int .i64 x.kind):=rfl;unfold js at hkn;have hag:ia ((List.map AV.pv (aJ x)).take 28)= .pv (.agg (aJ x)):=by
  rw[List.take_of_length_le (by simp[hel]),ia,sF]
 refine aj (C:=ctx) (Fn.of Nk rfl) rfl ?_;unfold Nj;refine bJ ?_;dsimp only[bU,go_sem];try dsimp only[bU,go_sem]
 refine⟨(by simp[vb]<;>omega),(by simp[vb]<;>omega),?_⟩;refine dS [(208,fun _=>some (aa (bz x)))] [ξ 5 (bU x)] ?_;dsimp only[bU,oB,tB,aa,go_sem];try dsimp only[bU,oB,tB,aa,go_sem]
 refine⟨(by simp[vb]<;>omega),?_,?_⟩
 ·exact⟨hfo,hag,trivial⟩
 refine cu [ξ 10 (.int .i64 x.kind)] ?_;dsimp only[oB,tB,zC,List.map_cons,List.map_nil,go_sem];try dsimp only[oB,tB,zC,List.map_cons,List.map_nil,go_sem]
 refine⟨(by simp[vb,hel]<;>omega),?_,?_⟩
 ·exact⟨hld,trivial⟩
 refine dy [(1,.ptr 0 0 0),(2,.ptr 1 0 0),(3,.ptr 2 0 0),(4,.ptr 3 0 0)] (by (repeat' (first|exact trivial|refine And.intro (by first|rfl|(simp[get,Nat.beq]<;>omega)|(dsimp only[get];congr 1<;>first|rfl|omega|(simp<;>omega))) ?_))) ?_;refine p7 [2,3,0,1] (by rfl) ?_;refine qn (show _=[az false (.pv (aa (bz x))),oB (zC 0 x.kind 0),oB (aJ x),oB (zC 0 0 0)] by simp[mZ,mY,fF,Function.comp_def,az,oB,tB,zC,aa]) ?_
 refine dy [(1,.ptr 2 0 0),(2,.ptr 3 0 0),(3,.ptr 0 0 0),(4,.ptr 1 0 0)] (by (repeat' (first|exact trivial|refine And.intro (by first|rfl|(simp[get,Nat.beq]<;>omega)|(dsimp only[get];congr 1<;>first|rfl|omega|(simp<;>omega))) ?_))) ?_;refine cu [(16,{val:=some (.pv (.tup [])),mem:=some ([az false (.pv (aa (cf x))),oB (zC x.tick x.kind x.rep),oB (aJ x),oB (zC 0 0 0),aK [.ptr 1 0 0,.ptr 1 0 2]])})] ?_;dsimp only[az,oB,tB,aK,go_sem];try dsimp only[az,oB,tB,aK,go_sem]
 refine⟨(by simp[vb,hel]<;>omega),?_,?_⟩
 ·exact⟨h0,trivial⟩
 rcases hcf with⟨f,rfl⟩|⟨f,rfl⟩
 ·refine cK (eE (T:=[]) (H:=[(18,{val:=some (.agg (eL 5)),new:=[xB 0,cF 5]}),ξ 20 (.int .i64 j),(21,{val:=some (.fn f [.ptr 5 0 0])}),(22,{val:=some (.pv (.tup [])),mem:=some ([az false (.pv (aa ([]))),oB (fin),oB (aJ x),oB (zC 0 0 0),aK [.ptr 1 0 0,.ptr 1 0 2],xB 0,cF 5])})]) (by rfl) ?_);dsimp only[bR,az,oB,tB,xB,aK,cF,eL,dn,gJ,go_sem];try dsimp only[az,oB,tB,xB,aK,cF,eL,dn,gJ,go_sem]
  refine⟨(by simp[vb,hel]<;>omega),?_,(by first|rfl|trivial),?_⟩
  ·exact⟨hkn,by rw[Int.toNat_natCast,Nat.mul_one];exact hd,congrArg (fun k=>AV.pv (.int .i64 k)) hk,hfw,trivial⟩
  refine y4 (μ':=[az false (.pv (aa ([]))),oB (aJ (bK x)),oB (aJ x),oB (zC 0 0 0),aK [.ptr 1 0 0,.ptr 1 0 2],xB 0,cF 5]) (PW.cons (BW.refl _) (PW.cons ⟨hw,rfl,rfl,rfl,rfl⟩ (MW.refl _))) ?_;refine cu [ξ 23 (bU (bK x))] ?_;dsimp only[az,oB,tB,xB,aK,zC,cF,eL,bU,aJ,br,ar,List.map_cons,List.map_nil,List.map_append,go_sem];try dsimp only[az,oB,tB,xB,aK,zC,cF,eL,bU,aJ,br,ar,List.map_cons,List.map_nil,List.map_append,go_sem]
  refine⟨(by simp[vb]<;>omega),?_,?_⟩
  ·exact⟨rfl,trivial⟩
  refine bJ ?_;dsimp only[aa,go_sem];exact⟨by simp[aI],rfl⟩
 refine cK (eE (T:=[]) (H:=[(18,{val:=some (.agg (eL 5)),new:=[xB 0,cF 5]}),ξ 20 (.int .i64 j),ξ 21 (.val (.func (.func f) #[] #[])),(22,{val:=some (.pv (.tup [])),mem:=some ([az false (.pv (aa ([]))),oB (fin),oB (aJ x),oB (zC 0 0 0),aK [.ptr 1 0 0,.ptr 1 0 2],xB 0,cF 5])})]) (by rfl) ?_);dsimp only[bR,az,oB,tB,xB,aK,cF,eL,dn,gJ,go_sem];try dsimp only[az,oB,tB,xB,aK,cF,eL,dn,gJ,go_sem]
 refine⟨(by simp[vb,hel]<;>omega),?_,(by first|rfl|trivial),?_⟩
 ·exact⟨hkn,by rw[Int.toNat_natCast,Nat.mul_one];exact hd,congrArg (fun k=>AV.pv (.int .i64 k)) hk,hfw,trivial⟩
 refine y4 (μ':=[az false (.pv (aa ([]))),oB (aJ (bK x)),oB (aJ x),oB (zC 0 0 0),aK [.ptr 1 0 0,.ptr 1 0 2],xB 0,cF 5]) (PW.cons (BW.refl _) (PW.cons ⟨hw,rfl,rfl,rfl,rfl⟩ (MW.refl _))) ?_;refine cu [ξ 23 (bU (bK x))] ?_;dsimp only[az,oB,tB,xB,aK,zC,cF,eL,bU,aJ,br,ar,List.map_cons,List.map_nil,List.map_append,go_sem];try dsimp only[az,oB,tB,xB,aK,zC,cF,eL,bU,aJ,br,ar,List.map_cons,List.map_nil,List.map_append,go_sem]
 refine⟨(by simp[vb]<;>omega),?_,?_⟩
 ·exact⟨rfl,trivial⟩
 refine bJ ?_;dsimp only[aa,go_sem];exact⟨by simp[aI],rfl⟩
theorem DE (x:En) (h:jJ x) (h0:0≤x.kind) (h9:x.kind≤9):ah ctx 207 [bU x] (bU (bK x)):=by
 obtain⟨j,hj⟩:∃j:Nat,x.kind=j:=⟨x.kind.toNat,by omega⟩
 have hj9:j<10:=by omega
 match j,hj9,hj with
 |0,hl,hk =>
  refine fm x h 0 hl hk ([.int .i64 x.tick,.int .i64 x.kind,.int .i64 x.rep,.int .i64 x.ses,.int .i64 x.act,.int .i64 x.ser]++aX++du++[.nilsl,.nilsl,.nilsl]) rfl ?_ _ rfl (Nl x h hk) (.inl ⟨_,rfl⟩);have ho:bK x={zx with tick:=x.tick,kind:=x.kind,rep:=x.rep,ses:=x.ses,act:=x.act,ser:=x.ser}:=by simp[bK,hk]
  rw[ho,show x.kind=0 from hk];refine PW.cons (CW.refl _) (PW.cons (CW.refl _) (PW.cons (CW.refl _) ?_));repeat' first|exact PW.nil|refine PW.cons (CW.refl _) ?_|refine PW.cons CW.nil ?_
 |1,hl,hk =>
  refine fm x h 1 hl hk ([.int .i64 x.tick,.int .i64 x.kind,.int .i64 x.rep,.int .i64 0,.int .i64 0,.int .i64 0]++br x.out++du++[.nilsl,.nilsl,.nilsl]) rfl ?_ _ rfl (Nn x h hk) (.inl ⟨_,rfl⟩);have ho:bK x={zx with tick:=x.tick,kind:=x.kind,rep:=x.rep,out:=x.out}:=by simp[bK,hk]
  rw[ho,show x.kind=1 from hk];refine PW.cons (CW.refl _) (PW.cons (CW.refl _) (PW.cons (CW.refl _) ?_));repeat' first|exact PW.nil|refine PW.cons (CW.refl _) ?_|refine PW.cons CW.nil ?_
 |2,hl,hk =>
  refine fm x h 2 hl hk ([.int .i64 x.tick,.int .i64 x.kind,.int .i64 x.rep,.int .i64 0,.int .i64 0,.int .i64 0]++aX++ar x.ev++[.nilsl,.nilsl,.nilsl]) rfl ?_ _ rfl (No x h hk) (.inl ⟨_,rfl⟩);have ho:bK x={zx with tick:=x.tick,kind:=x.kind,rep:=x.rep,ev:=x.ev}:=by simp[bK,hk]
  rw[ho,show x.kind=2 from hk];refine PW.cons (CW.refl _) (PW.cons (CW.refl _) (PW.cons (CW.refl _) ?_));repeat' first|exact PW.nil|refine PW.cons (CW.refl _) ?_|refine PW.cons CW.nil ?_
 |3,hl,hk =>
  refine fm x h 3 hl hk ([.int .i64 x.tick,.int .i64 x.kind,.int .i64 x.rep,.int .i64 x.ses,.int .i64 0,.int .i64 0]++aX++du++[aC x.qs,ai x.vals,aa x.clk]) rfl ?_ _ rfl (Np x h hk) (.inl ⟨_,rfl⟩);have ho:bK x={zx with tick:=x.tick,kind:=x.kind,rep:=x.rep,ses:=x.ses,qs:=x.qs,vals:=x.vals,clk:=x.clk}:=by simp[bK,hk]
  rw[ho,show x.kind=3 from hk];refine PW.cons (CW.refl _) (PW.cons (CW.refl _) (PW.cons (CW.refl _) ?_));repeat' first|exact PW.nil|refine PW.cons (CW.refl _) ?_|refine PW.cons CW.nil ?_
 |4,hl,hk =>
  refine fm x h 4 hl hk ([.int .i64 x.tick,.int .i64 x.kind,.int .i64 x.rep,.int .i64 x.ses,.int .i64 0,.int .i64 0]++aX++du++[.nilsl,.nilsl,.nilsl]) rfl ?_ _ rfl (Nq x h hk) (.inl ⟨_,rfl⟩);have ho:bK x={zx with tick:=x.tick,kind:=x.kind,rep:=x.rep,ses:=x.ses}:=by simp[bK,hk]
  rw[ho,show x.kind=4 from hk];refine PW.cons (CW.refl _) (PW.cons (CW.refl _) (PW.cons (CW.refl _) ?_));repeat' first|exact PW.nil|refine PW.cons (CW.refl _) ?_|refine PW.cons CW.nil ?_
 |5,hl,hk =>
  refine fm x h 5 hl hk ([.int .i64 x.tick,.int .i64 x.kind,.int .i64 x.rep,.int .i64 0,.int .i64 0,.int .i64 0]++aX++du++[.nilsl,.nilsl,.nilsl]) rfl ?_ _ rfl (Nr x h hk) (.inr ⟨_,rfl⟩);have ho:bK x={zx with tick:=x.tick,kind:=x.kind,rep:=x.rep}:=by simp[bK,hk]
  rw[ho,show x.kind=5 from hk];refine PW.cons (CW.refl _) (PW.cons (CW.refl _) (PW.cons (CW.refl _) ?_));repeat' first|exact PW.nil|refine PW.cons (CW.refl _) ?_|refine PW.cons CW.nil ?_
 |6,hl,hk =>
  refine fm x h 6 hl hk ([.int .i64 x.tick,.int .i64 x.kind,.int .i64 x.rep,.int .i64 0,.int .i64 0,.int .i64 0]++aX++du++[.nilsl,.nilsl,aa x.clk]) rfl ?_ _ rfl (Ns x h hk) (.inl ⟨_,rfl⟩);have ho:bK x={zx with tick:=x.tick,kind:=x.kind,rep:=x.rep,clk:=x.clk}:=by simp[bK,hk]
  rw[ho,show x.kind=6 from hk];refine PW.cons (CW.refl _) (PW.cons (CW.refl _) (PW.cons (CW.refl _) ?_));repeat' first|exact PW.nil|refine PW.cons (CW.refl _) ?_|refine PW.cons CW.nil ?_
 |7,hl,hk =>
  refine fm x h 7 hl hk ([.int .i64 x.tick,.int .i64 x.kind,.int .i64 x.rep,.int .i64 0,.int .i64 0,.int .i64 0]++aX++du++[.nilsl,.nilsl,.nilsl]) rfl ?_ _ rfl (Nt x h hk) (.inr ⟨_,rfl⟩);have ho:bK x={zx with tick:=x.tick,kind:=x.kind,rep:=x.rep}:=by simp[bK,hk]
  rw[ho,show x.kind=7 from hk];refine PW.cons (CW.refl _) (PW.cons (CW.refl _) (PW.cons (CW.refl _) ?_));repeat' first|exact PW.nil|refine PW.cons (CW.refl _) ?_|refine PW.cons CW.nil ?_
 |8,hl,hk =>
  refine fm x h 8 hl hk ([.int .i64 x.tick,.int .i64 x.kind,.int .i64 x.rep,.int .i64 0,.int .i64 0,.int .i64 0]++aX++du++[.nilsl,.nilsl,.nilsl]) rfl ?_ _ rfl (Nu x h hk) (.inr ⟨_,rfl⟩);have ho:bK x={zx with tick:=x.tick,kind:=x.kind,rep:=x.rep}:=by simp[bK,hk]
  rw[ho,show x.kind=8 from hk];refine PW.cons (CW.refl _) (PW.cons (CW.refl _) (PW.cons (CW.refl _) ?_));repeat' first|exact PW.nil|refine PW.cons (CW.refl _) ?_|refine PW.cons CW.nil ?_
 |9,hl,hk =>
  refine fm x h 9 hl hk ([.int .i64 x.tick,.int .i64 x.kind,.int .i64 x.rep,.int .i64 x.ses,.int .i64 x.act,.int .i64 0]++aX++du++[.nilsl,.nilsl,.nilsl]) rfl ?_ _ rfl (Nv x h hk) (.inl ⟨_,rfl⟩);have ho:bK x={zx with tick:=x.tick,kind:=x.kind,rep:=x.rep,ses:=x.ses,act:=x.act}:=by simp[bK,hk]
  rw[ho,show x.kind=9 from hk];refine PW.cons (CW.refl _) (PW.cons (CW.refl _) (PW.cons (CW.refl _) ?_));repeat' first|exact PW.nil|refine PW.cons (CW.refl _) ?_|refine PW.cons CW.nil ?_
end
end Pur
end
section
namespace Pur
open Go.RowKit
section
open Tr
theorem Km (h:Hi) (k:Nat) (hk:k<h.l.length):tf h k=(wW {h with l:=h.l.take k} (h.l.getD k zx)&&decide (h.l.getD k zx=bK (h.l.getD k zx))&&(bz (h.l.getD k zx)).all lD&&jX h.reps (h.l.getD k zx)):=by
 have hle:(h.l.take k).length=k:=by rw[List.length_take];omega
 have hg:(h.l.take k).getD (k-1) zx=if k=0 then zx else h.l.getD (k-1) zx:=by
  by_cases h0:k=0
  ·subst h0;simp
  rw[if_neg h0,List.getD,List.getD,List.getElem?_take,if_pos (by omega)]
 unfold tf fT dF wW;simp only[hle,hg];generalize h.l.getD k zx=x;by_cases h0:k=0
 ·subst h0;rw[Bool.eq_iff_iff];simp only[Bool.and_eq_true,Bool.or_eq_true,decide_eq_true_eq];constructor
  ·rintro⟨h1,⟨⟨⟨⟨⟨⟨⟨⟨h2,h3⟩,h4⟩,h5⟩,h6⟩,h7⟩,h8⟩,h9⟩,h10⟩,h11⟩;exact⟨⟨⟨⟨⟨⟨⟨⟨⟨h1,h6,h7⟩,h2⟩,h3⟩,.inl trivial⟩,h4⟩,h5⟩,h8⟩,h9⟩,h10⟩
  rintro⟨⟨⟨⟨⟨⟨⟨⟨⟨h1,h6,h7⟩,h2⟩,h3⟩,-⟩,h4⟩,h5⟩,h8⟩,h9⟩,h10⟩;exact⟨h1,⟨⟨⟨⟨⟨⟨⟨⟨h2,h3⟩,h4⟩,h5⟩,h6⟩,h7⟩,h8⟩,h9⟩,h10⟩,.inl trivial⟩
 rw[Bool.eq_iff_iff];simp only[Bool.and_eq_true,Bool.or_eq_true,decide_eq_true_eq,h0,if_false,false_or];constructor
 ·rintro⟨h1,⟨⟨⟨⟨⟨⟨⟨⟨h2,h3⟩,h4⟩,h5⟩,h6⟩,h7⟩,h8⟩,h9⟩,h10⟩,h11⟩;exact⟨⟨⟨⟨⟨⟨⟨⟨⟨h1,h6,h7⟩,h2⟩,h3⟩,h11⟩,h4⟩,h5⟩,h8⟩,h9⟩,h10⟩
 rintro⟨⟨⟨⟨⟨⟨⟨⟨⟨h1,h6,h7⟩,h2⟩,h3⟩,h11⟩,h4⟩,h5⟩,h8⟩,h9⟩,h10⟩;exact⟨h1,⟨⟨⟨⟨⟨⟨⟨⟨h2,h3⟩,h4⟩,h5⟩,h6⟩,h7⟩,h8⟩,h9⟩,h10⟩,h11⟩
theorem jJ.ls {x:En} (h:jJ x):wV x:=⟨by have:=h.past;omega,by have:=h.nd;omega,by have:=h.qs;omega,by have:=h.vals;omega,fun v hv=>by have:=h.inn v hv;omega,by have:=h.clk;omega⟩
theorem wV.only {x:En} (hx:wV x):wV (bK x):=by
 unfold bK;repeat' split
 all_goals constructor<;>first|exact hx.needs|exact hx.past|exact hx.qs|exact hx.vals|exact hx.val|exact hx.clk|(simp[zx,zo,ze];done)
theorem sG (h:Hi) (hs:h.state.length≤1000000000) (hl:h.l.length≤1000000000) (hx:∀x∈h.l,jJ x):ah ctx 41 [eA h] (.bool (bS h)):=by
 refine yD h hs hl fun k hk=>?_
 have hm:h.l.getD k zx∈h.l:=bX hk;have h2:=hx _ hm;exact yG {h with l:=h.l.take k} (h.l.getD k zx) (by simp only[List.length_take];omega) h2.ls h2.ls.only h2.all (DE _ h2) (tR _ h2) _ (Km h k hk)
end
end Pur
end
section
namespace Pur
open Go.RowKit
section
open Tr
def Kn:af:=(⟨_,by conv=>(lhs;reduce;try simp only[bD,Int.cast_ofNat_Int,Int.reduceNegSucc,UInt8.reduceOfNat])⟩:{x // codeOf Tryz.prog 18 (fun _=>false)=some x}).1
theorem Nw:aD Tryz.prog 18 (fun _=>false)=some (Kn,[.cell 2 15 true,.t 3],201,true):=by kernel_rfl
def cg (f:Fi):List PV:=[.int .i64 f.submitted,.int .i64 f.executed,.int .i64 f.refused,.int .i64 f.waited,.int .i64 f.opn,.int .i64 f.events,.int .i64 f.deliveries,.int .i64 f.reads,.int .i64 f.waits,.int .i64 f.busy,.int .i64 f.crashes,.int .i64 f.restarts,.int .i64 f.full,.int .i64 f.ticks,.int .i64 f.longest]
def dC (f:Fi):dI:=⟨(cg f).map .pv,0,15,49,false⟩
structure Ft where
 w:Bool
 e:Bool
 r:Bool
 s:Bool
 t:Int
def z0:Ft:=⟨false,false,false,false,0⟩
def xq (f:Ft):dI:=⟨[.pv (.bool f.w),.pv (.bool f.e),.pv (.bool f.r),.pv (.bool f.s),.pv (.int .i64 f.t)],0,5,97,false⟩
def jn (f:Ft) (x:En):Ft:=⟨f.w||(!f.s&&decide (x.out.kind=2)),f.e||decide (x.out.kind=0),f.r||decide (x.out.kind=1),true,if x.out.kind=0∧f.e=false then x.tick else f.t⟩
def cE (l:List En) (j:Nat):Nat→Ft
 |0=>z0
 |k+1=>if (l.getD k zx).kind=1∧gz l k k=j then jn (cE l j k) (l.getD k zx) else cE l j k
def kg (l:List En) (k:Nat) (f:Fi):Fi :=
 let x:=l.getD k zx
 if x.kind=0 then {f with submitted:=f.submitted+1}
 else if x.kind=2 then (if x.ev.rep=x.rep then {f with events:=f.events+1} else {f with deliveries:=f.deliveries+1})
 else if x.kind=3 then {f with reads:=f.reads+1}
 else if x.kind=4 then {f with waits:=f.waits+1}
 else if x.kind=9 then {f with busy:=f.busy+1}
 else if x.kind=5 then {f with crashes:=f.crashes+1}
 else if x.kind=6 then {f with restarts:=f.restarts+1}
 else if x.kind=8 then {f with full:=f.full+1}
 else f
def dm (l:List En):Nat→Fi
 |0=>zf
 |k+1=>kg l k (dm l k)
def bO (l:List En) (k:Nat):List Nat:=(List.range k).filter fun j=>decide ((l.getD j zx).kind=0)
def pT:List Nat→List Nat→List AV
 |a::ss,p::ps=>.pv (.int .i64 a)::.ptr (p+5) 0 0::pT ss ps
 |_,_=>[]
def mI (ss ps:List Nat):dI:=⟨pT ss ps,0,0,0,false⟩
def ch:dI:=⟨[.pv (.int .i64 3),.ptr 2 0 7,.pv (.int .i64 4),.ptr 2 0 8,.pv (.int .i64 9),.ptr 2 0 9,.pv (.int .i64 5),.ptr 2 0 10,.pv (.int .i64 6),.ptr 2 0 11,.pv (.int .i64 8),.ptr 2 0 12,.pv (.int .i64 0),.ptr 2 0 0],0,0,0,false⟩
def firstM (h:Hi) (k:Nat) (T:AM) (ps:List Nat):AM:=cL h::dC zf::dC (dm h.l k)::mI (bO h.l k) ps::ch::T
structure oG (l:List En) (k:Nat) (T:AM) (ps:List Nat):Prop where
 len:ps.length=(bO l k).length
 nd:ps.Nodup
 at_:∀(j a p:Nat),(bO l k)[j]?=some a→ps[j]?=some p→T[p]?=some (xq (cE l a k))
theorem oG.zero (l:List En):oG l 0 [] []:=⟨rfl,List.nodup_nil,fun j a p h=>by simp[bO]at h⟩
def zP:af:=(⟨_,by conv=>(lhs;reduce;try simp only[bD,Int.cast_ofNat_Int,Int.reduceNegSucc,UInt8.reduceOfNat])⟩:{x // Kn.sub [1,1,1,1,1,0,1,0,0]=x}).1
def HJ:af:=(⟨_,by conv=>(lhs;reduce;try simp only[bD,Int.cast_ofNat_Int,Int.reduceNegSucc,UInt8.reduceOfNat])⟩:{x // Kn.sub [1,1,1,1,1,1,0,1,0,0,1,1,0,1]=x}).1
def jo (h:Hi) (k:Nat):AF:=[(33,.pv (.int .i64 k)),(32,.pv (.int .i64 h.l.length)),(31,.pv (bp h.l)),(6,.map 4 0),(5,.map 3 0),(4,.ptr 2 0 0),(2,.ptr 1 0 0),(1,.ptr 0 0 0)]
def ep (x:En):dI:=⟨(aJ x).map .pv,0,28,71,false⟩
def eF:af:=(⟨_,by conv=>(lhs;reduce;try simp only[bD,Int.cast_ofNat_Int,Int.reduceNegSucc,UInt8.reduceOfNat])⟩:{x // zP.sub [1,1,0,0,1]=x}).1
theorem dJ (h:Hi) (k:Nat) (T:AM) (x:En) (hxx:x=h.l.getD k zx) (hlt:k<h.l.length) (hl:h.l.length≤1000000000) {R:Exit→AF→AM→Prop} {I:AF→AM→Prop} (B0 B1 B2 B3:dI) {Fin:AM→Prop}
  (hK:∀f' μ',Sub (jo h (k+1)) f'→Fin μ'→I f' μ')
  (h1:Aw ctx (fun _=>false) 201 0 eF (fun e f' μ'=>(e= .normal∨e= .exit 1)∧Sub (jo h k) f'∧Fin μ') ((8,.ptr (T.length+5) 0 0)::(7,.pv (.int .i64 k))::jo h k) (B0::B1::B2::B3::ch::(T++[ep x]))) :
  Aw ctx (fun _=>false) 201 0 zP (eb I R) (jo h k) (B0::B1::B2::B3::ch::T):=by
 have f2:=iw h.l;have e0:=dV aR h.l k zx hlt;rw[←hxx]at e0;simp only[aJ,br,ar,aG,aC,ai,aa,List.cons_append,List.nil_append]at e0;unfold zP;unfold jo at h1 hK ⊢;unfold bp at *;iterate 5 first
  |refine⟨fun _=>?_,fun h=>by simp at h<;>omega⟩
  |refine⟨by simp[vb,hlt]<;>omega,by simp[vb,hlt]<;>omega,?_⟩
  |(refine bJ ?_;iterate 2 (try simp only[aF,aw,ax,ay,aE,mem_set,aL,go_sem]))
 refine cu [ξ 37 (bU x)] ?_;simp only[bp,bU,aJ,br,ar,aG,aC,ai,aa,aF,aw,ax,ay,aE,mem_set,aL,go_sem];try simp only[bp,bU,aJ,br,ar,aG,aC,ai,aa,aF,aw,ax,ay,aE,mem_set,aL,go_sem]
 refine⟨(by simp[vb,e0,f2,hlt]<;>omega),?_,?_⟩
 ·refine⟨?_,trivial⟩;rw[Int.toNat_natCast,e0]
 have hend:∀f' μ',Sub [(33,.pv (.int .i64 k)),(32,.pv (.int .i64 h.l.length)),(31,.pv (.sl h.l.length (h.l.flatMap aJ))),(6,.map 4 0),(5,.map 3 0),(4,.ptr 2 0 0),(2,.ptr 1 0 0),(1,.ptr 0 0 0)] f'→Fin μ'→Aw ctx (fun _=>false) 201 0 (.region false [⟨some 141,.bin .add (.t 33) (.c (.int .i64 1)),none⟩,⟨some 33,.mv (.t 141),none⟩]) (eb I R) f' μ':=fun f' μ' hs hf=>by
  refine dy _ hs ?_;refine bJ ?_;dsimp only[go_sem];try dsimp only[go_sem]
  refine⟨(by simp[vb,hlt,hl]<;>omega),(by simp[vb,hlt,hl]<;>omega),?_⟩;exact hK _ _ (by (repeat' (first|exact trivial|refine And.intro (by first|rfl|(simp[get,Nat.beq]<;>omega)|(dsimp only[get];congr 1<;>first|rfl|omega|(simp<;>omega))) ?_))) hf
 refine dy ((8,.ptr (T.length+5) 0 0)::(7,.pv (.int .i64 k))::[(33,.pv (.int .i64 k)),(32,.pv (.int .i64 h.l.length)),(31,.pv (.sl h.l.length (h.l.flatMap aJ))),(6,.map 4 0),(5,.map 3 0),(4,.ptr 2 0 0),(2,.ptr 1 0 0),(1,.ptr 0 0 0)]) (by (repeat' (first|exact trivial|refine And.intro (by first|rfl|(simp[get,Nat.beq]<;>omega)|(dsimp only[get];congr 1<;>first|rfl|omega|(simp<;>omega))) ?_))) ?_;refine dE h1 fun e f' μ' he=>?_
 obtain⟨he,hs,hf⟩:=he;rcases he with rfl|rfl
 ·exact hend f' μ' hs hf
 exact hend f' μ' hs hf
theorem DF (h:Hi) (k:Nat) (T:AM) (x:En) (hk:x.kind=3) (B0 B1 B3:dI) (g:Fi) (hg: -1000000000000≤g.reads∧g.reads≤1000000000000) :
  Aw ctx (fun _=>false) 201 0 eF (fun e f' μ'=>(e= .normal∨e= .exit 1)∧Sub (jo h k) f'∧μ'=B0::B1::dC {g with reads:=g.reads+1}::B3::ch::(T++[ep x])) ((8,.ptr (T.length+5) 0 0)::(7,.pv (.int .i64 k))::jo h k) (B0::B1::dC g::B3::ch::(T++[ep x])):=by
 unfold eF jo;iterate 12 first
  |refine⟨fun _=>?_,fun h=>by simp at h<;>omega⟩
  |refine⟨by simp[vb,hk,hg]<;>omega,by simp[vb,hk,hg]<;>omega,?_⟩
  |(refine cu [ξ 40 (.int .i64 3),ξ 50 (.int .i64 3),(41,{val:=some (.ptr 2 0 7)})] ?_;iterate 2 (try simp only[ep,bU,aJ,br,ar,aG,aC,ai,aa,ch,dC,cg,List.map_cons,List.map_nil,bN,bY,bj,bP,Int.reduceBEq,Bool.cond_true,Bool.cond_false,Bool.true_or,Bool.false_or,Bool.or_true,aF,aw,ax,ay,aE,mem_set,aL,go_sem]))
 iterate 11 first
  |refine⟨fun h=>by simp at h<;>omega,fun _=>?_⟩
  |refine⟨by simp[vb,hk,hg]<;>omega,by simp[vb,hk,hg]<;>omega,?_⟩
  |(refine cu [ξ 40 (.int .i64 3),ξ 50 (.int .i64 3),(41,{val:=some (.ptr 2 0 7)})] ?_;iterate 2 (try simp only[ep,bU,aJ,br,ar,aG,aC,ai,aa,ch,dC,cg,List.map_cons,List.map_nil,bN,bY,bj,bP,Int.reduceBEq,Bool.cond_true,Bool.cond_false,Bool.true_or,Bool.false_or,Bool.or_true,aF,aw,ax,ay,aE,mem_set,aL,go_sem]))
 exact⟨by simp,by (repeat' (first|exact trivial|refine And.intro (by first|rfl|(simp[get,Nat.beq]<;>omega)|(dsimp only[get];congr 1<;>first|rfl|omega|(simp<;>omega))) ?_)),by simp[dC,cg,ch,ep,aJ,br,ar,aG,aC,ai,aa]⟩
theorem DG (h:Hi) (k:Nat) (T:AM) (x:En) (hk:x.kind=4) (B0 B1 B3:dI) (g:Fi) (hg: -1000000000000≤g.waits∧g.waits≤1000000000000) :
  Aw ctx (fun _=>false) 201 0 eF (fun e f' μ'=>(e= .normal∨e= .exit 1)∧Sub (jo h k) f'∧μ'=B0::B1::dC {g with waits:=g.waits+1}::B3::ch::(T++[ep x])) ((8,.ptr (T.length+5) 0 0)::(7,.pv (.int .i64 k))::jo h k) (B0::B1::dC g::B3::ch::(T++[ep x])):=by
 unfold eF jo;iterate 12 first
  |refine⟨fun _=>?_,fun h=>by simp at h<;>omega⟩
  |refine⟨by simp[vb,hk,hg]<;>omega,by simp[vb,hk,hg]<;>omega,?_⟩
  |(refine cu [ξ 40 (.int .i64 4),ξ 50 (.int .i64 4),(41,{val:=some (.ptr 2 0 8)})] ?_;iterate 2 (try simp only[ep,bU,aJ,br,ar,aG,aC,ai,aa,ch,dC,cg,List.map_cons,List.map_nil,bN,bY,bj,bP,Int.reduceBEq,Bool.cond_true,Bool.cond_false,Bool.true_or,Bool.false_or,Bool.or_true,aF,aw,ax,ay,aE,mem_set,aL,go_sem]))
 iterate 11 first
  |refine⟨fun h=>by simp at h<;>omega,fun _=>?_⟩
  |refine⟨by simp[vb,hk,hg]<;>omega,by simp[vb,hk,hg]<;>omega,?_⟩
  |(refine cu [ξ 40 (.int .i64 4),ξ 50 (.int .i64 4),(41,{val:=some (.ptr 2 0 8)})] ?_;iterate 2 (try simp only[ep,bU,aJ,br,ar,aG,aC,ai,aa,ch,dC,cg,List.map_cons,List.map_nil,bN,bY,bj,bP,Int.reduceBEq,Bool.cond_true,Bool.cond_false,Bool.true_or,Bool.false_or,Bool.or_true,aF,aw,ax,ay,aE,mem_set,aL,go_sem]))
 exact⟨by simp,by (repeat' (first|exact trivial|refine And.intro (by first|rfl|(simp[get,Nat.beq]<;>omega)|(dsimp only[get];congr 1<;>first|rfl|omega|(simp<;>omega))) ?_)),by simp[dC,cg,ch,ep,aJ,br,ar,aG,aC,ai,aa]⟩
theorem DH (h:Hi) (k:Nat) (T:AM) (x:En) (hk:x.kind=9) (B0 B1 B3:dI) (g:Fi) (hg: -1000000000000≤g.busy∧g.busy≤1000000000000) :
  Aw ctx (fun _=>false) 201 0 eF (fun e f' μ'=>(e= .normal∨e= .exit 1)∧Sub (jo h k) f'∧μ'=B0::B1::dC {g with busy:=g.busy+1}::B3::ch::(T++[ep x])) ((8,.ptr (T.length+5) 0 0)::(7,.pv (.int .i64 k))::jo h k) (B0::B1::dC g::B3::ch::(T++[ep x])):=by
 unfold eF jo;iterate 12 first
  |refine⟨fun _=>?_,fun h=>by simp at h<;>omega⟩
  |refine⟨by simp[vb,hk,hg]<;>omega,by simp[vb,hk,hg]<;>omega,?_⟩
  |(refine cu [ξ 40 (.int .i64 9),ξ 50 (.int .i64 9),(41,{val:=some (.ptr 2 0 9)})] ?_;iterate 2 (try simp only[ep,bU,aJ,br,ar,aG,aC,ai,aa,ch,dC,cg,List.map_cons,List.map_nil,bN,bY,bj,bP,Int.reduceBEq,Bool.cond_true,Bool.cond_false,Bool.true_or,Bool.false_or,Bool.or_true,aF,aw,ax,ay,aE,mem_set,aL,go_sem]))
 iterate 11 first
  |refine⟨fun h=>by simp at h<;>omega,fun _=>?_⟩
  |refine⟨by simp[vb,hk,hg]<;>omega,by simp[vb,hk,hg]<;>omega,?_⟩
  |(refine cu [ξ 40 (.int .i64 9),ξ 50 (.int .i64 9),(41,{val:=some (.ptr 2 0 9)})] ?_;iterate 2 (try simp only[ep,bU,aJ,br,ar,aG,aC,ai,aa,ch,dC,cg,List.map_cons,List.map_nil,bN,bY,bj,bP,Int.reduceBEq,Bool.cond_true,Bool.cond_false,Bool.true_or,Bool.false_or,Bool.or_true,aF,aw,ax,ay,aE,mem_set,aL,go_sem]))
 exact⟨by simp,by (repeat' (first|exact trivial|refine And.intro (by first|rfl|(simp[get,Nat.beq]<;>omega)|(dsimp only[get];congr 1<;>first|rfl|omega|(simp<;>omega))) ?_)),by simp[dC,cg,ch,ep,aJ,br,ar,aG,aC,ai,aa]⟩
theorem DI (h:Hi) (k:Nat) (T:AM) (x:En) (hk:x.kind=5) (B0 B1 B3:dI) (g:Fi) (hg: -1000000000000≤g.crashes∧g.crashes≤1000000000000) :
  Aw ctx (fun _=>false) 201 0 eF (fun e f' μ'=>(e= .normal∨e= .exit 1)∧Sub (jo h k) f'∧μ'=B0::B1::dC {g with crashes:=g.crashes+1}::B3::ch::(T++[ep x])) ((8,.ptr (T.length+5) 0 0)::(7,.pv (.int .i64 k))::jo h k) (B0::B1::dC g::B3::ch::(T++[ep x])):=by
 unfold eF jo;iterate 12 first
  |refine⟨fun _=>?_,fun h=>by simp at h<;>omega⟩
  |refine⟨by simp[vb,hk,hg]<;>omega,by simp[vb,hk,hg]<;>omega,?_⟩
  |(refine cu [ξ 40 (.int .i64 5),ξ 50 (.int .i64 5),(41,{val:=some (.ptr 2 0 10)})] ?_;iterate 2 (try simp only[ep,bU,aJ,br,ar,aG,aC,ai,aa,ch,dC,cg,List.map_cons,List.map_nil,bN,bY,bj,bP,Int.reduceBEq,Bool.cond_true,Bool.cond_false,Bool.true_or,Bool.false_or,Bool.or_true,aF,aw,ax,ay,aE,mem_set,aL,go_sem]))
 iterate 11 first
  |refine⟨fun h=>by simp at h<;>omega,fun _=>?_⟩
  |refine⟨by simp[vb,hk,hg]<;>omega,by simp[vb,hk,hg]<;>omega,?_⟩
  |(refine cu [ξ 40 (.int .i64 5),ξ 50 (.int .i64 5),(41,{val:=some (.ptr 2 0 10)})] ?_;iterate 2 (try simp only[ep,bU,aJ,br,ar,aG,aC,ai,aa,ch,dC,cg,List.map_cons,List.map_nil,bN,bY,bj,bP,Int.reduceBEq,Bool.cond_true,Bool.cond_false,Bool.true_or,Bool.false_or,Bool.or_true,aF,aw,ax,ay,aE,mem_set,aL,go_sem]))
 exact⟨by simp,by (repeat' (first|exact trivial|refine And.intro (by first|rfl|(simp[get,Nat.beq]<;>omega)|(dsimp only[get];congr 1<;>first|rfl|omega|(simp<;>omega))) ?_)),by simp[dC,cg,ch,ep,aJ,br,ar,aG,aC,ai,aa]⟩
theorem DJ (h:Hi) (k:Nat) (T:AM) (x:En) (hk:x.kind=6) (B0 B1 B3:dI) (g:Fi) (hg: -1000000000000≤g.restarts∧g.restarts≤1000000000000) :
  Aw ctx (fun _=>false) 201 0 eF (fun e f' μ'=>(e= .normal∨e= .exit 1)∧Sub (jo h k) f'∧μ'=B0::B1::dC {g with restarts:=g.restarts+1}::B3::ch::(T++[ep x])) ((8,.ptr (T.length+5) 0 0)::(7,.pv (.int .i64 k))::jo h k) (B0::B1::dC g::B3::ch::(T++[ep x])):=by
 unfold eF jo;iterate 12 first
  |refine⟨fun _=>?_,fun h=>by simp at h<;>omega⟩
  |refine⟨by simp[vb,hk,hg]<;>omega,by simp[vb,hk,hg]<;>omega,?_⟩
  |(refine cu [ξ 40 (.int .i64 6),ξ 50 (.int .i64 6),(41,{val:=some (.ptr 2 0 11)})] ?_;iterate 2 (try simp only[ep,bU,aJ,br,ar,aG,aC,ai,aa,ch,dC,cg,List.map_cons,List.map_nil,bN,bY,bj,bP,Int.reduceBEq,Bool.cond_true,Bool.cond_false,Bool.true_or,Bool.false_or,Bool.or_true,aF,aw,ax,ay,aE,mem_set,aL,go_sem]))
 iterate 11 first
  |refine⟨fun h=>by simp at h<;>omega,fun _=>?_⟩
  |refine⟨by simp[vb,hk,hg]<;>omega,by simp[vb,hk,hg]<;>omega,?_⟩
  |(refine cu [ξ 40 (.int .i64 6),ξ 50 (.int .i64 6),(41,{val:=some (.ptr 2 0 11)})] ?_;iterate 2 (try simp only[ep,bU,aJ,br,ar,aG,aC,ai,aa,ch,dC,cg,List.map_cons,List.map_nil,bN,bY,bj,bP,Int.reduceBEq,Bool.cond_true,Bool.cond_false,Bool.true_or,Bool.false_or,Bool.or_true,aF,aw,ax,ay,aE,mem_set,aL,go_sem]))
 exact⟨by simp,by (repeat' (first|exact trivial|refine And.intro (by first|rfl|(simp[get,Nat.beq]<;>omega)|(dsimp only[get];congr 1<;>first|rfl|omega|(simp<;>omega))) ?_)),by simp[dC,cg,ch,ep,aJ,br,ar,aG,aC,ai,aa]⟩
theorem DK (h:Hi) (k:Nat) (T:AM) (x:En) (hk:x.kind=8) (B0 B1 B3:dI) (g:Fi) (hg: -1000000000000≤g.full∧g.full≤1000000000000) :
  Aw ctx (fun _=>false) 201 0 eF (fun e f' μ'=>(e= .normal∨e= .exit 1)∧Sub (jo h k) f'∧μ'=B0::B1::dC {g with full:=g.full+1}::B3::ch::(T++[ep x])) ((8,.ptr (T.length+5) 0 0)::(7,.pv (.int .i64 k))::jo h k) (B0::B1::dC g::B3::ch::(T++[ep x])):=by
 unfold eF jo;iterate 12 first
  |refine⟨fun _=>?_,fun h=>by simp at h<;>omega⟩
  |refine⟨by simp[vb,hk,hg]<;>omega,by simp[vb,hk,hg]<;>omega,?_⟩
  |(refine cu [ξ 40 (.int .i64 8),ξ 50 (.int .i64 8),(41,{val:=some (.ptr 2 0 12)})] ?_;iterate 2 (try simp only[ep,bU,aJ,br,ar,aG,aC,ai,aa,ch,dC,cg,List.map_cons,List.map_nil,bN,bY,bj,bP,Int.reduceBEq,Bool.cond_true,Bool.cond_false,Bool.true_or,Bool.false_or,Bool.or_true,aF,aw,ax,ay,aE,mem_set,aL,go_sem]))
 iterate 11 first
  |refine⟨fun h=>by simp at h<;>omega,fun _=>?_⟩
  |refine⟨by simp[vb,hk,hg]<;>omega,by simp[vb,hk,hg]<;>omega,?_⟩
  |(refine cu [ξ 40 (.int .i64 8),ξ 50 (.int .i64 8),(41,{val:=some (.ptr 2 0 12)})] ?_;iterate 2 (try simp only[ep,bU,aJ,br,ar,aG,aC,ai,aa,ch,dC,cg,List.map_cons,List.map_nil,bN,bY,bj,bP,Int.reduceBEq,Bool.cond_true,Bool.cond_false,Bool.true_or,Bool.false_or,Bool.or_true,aF,aw,ax,ay,aE,mem_set,aL,go_sem]))
 exact⟨by simp,by (repeat' (first|exact trivial|refine And.intro (by first|rfl|(simp[get,Nat.beq]<;>omega)|(dsimp only[get];congr 1<;>first|rfl|omega|(simp<;>omega))) ?_)),by simp[dC,cg,ch,ep,aJ,br,ar,aG,aC,ai,aa]⟩
theorem DL (h:Hi) (k:Nat) (T:AM) (x:En) (hk:x.kind=7) (B0 B1 B3:dI) (g:Fi) :
  Aw ctx (fun _=>false) 201 0 eF (fun e f' μ'=>(e= .normal∨e= .exit 1)∧Sub (jo h k) f'∧μ'=B0::B1::dC g::B3::ch::(T++[ep x])) ((8,.ptr (T.length+5) 0 0)::(7,.pv (.int .i64 k))::jo h k) (B0::B1::dC g::B3::ch::(T++[ep x])):=by
 unfold eF jo;iterate 22 first
  |refine⟨fun h=>by simp at h<;>omega,fun _=>?_⟩
  |refine⟨by simp[vb,hk]<;>omega,by simp[vb,hk]<;>omega,?_⟩
  |(refine cu [ξ 40 (.int .i64 7),ξ 50 (.int .i64 7),ξ 41 (.val (.pointer none))] ?_;iterate 2 (try simp only[ep,bU,aJ,br,ar,aG,aC,ai,aa,ch,dC,cg,List.map_cons,List.map_nil,bN,bY,bj,bP,Int.reduceBEq,Bool.cond_true,Bool.cond_false,Bool.true_or,Bool.false_or,Bool.or_true,aF,aw,ax,ay,aE,mem_set,aL,go_sem]))
 exact⟨by simp,by (repeat' (first|exact trivial|refine And.intro (by first|rfl|(simp[get,Nat.beq]<;>omega)|(dsimp only[get];congr 1<;>first|rfl|omega|(simp<;>omega))) ?_)),by simp[dC,cg,ch,ep,aJ,br,ar,aG,aC,ai,aa]⟩
theorem Bl (h:Hi) (k:Nat) (T:AM) (x:En) (hk:x.kind=2) (B0 B1 B3:dI) (g:Fi) (hre:x.ev.rep=x.rep) (hg: -1000000000000≤g.events∧g.events≤1000000000000) :
  Aw ctx (fun _=>false) 201 0 eF (fun e f' μ'=>(e= .normal∨e= .exit 1)∧Sub (jo h k) f'∧μ'=B0::B1::dC {g with events:=g.events+1}::B3::ch::(T++[ep x])) ((8,.ptr (T.length+5) 0 0)::(7,.pv (.int .i64 k))::jo h k) (B0::B1::dC g::B3::ch::(T++[ep x])):=by
 unfold eF jo;iterate 15 first
  |refine⟨fun h=>by simp at h<;>omega,fun _=>?_⟩
  |refine⟨by simp[vb,hk,hre,hg]<;>omega,by simp[vb,hk,hre,hg]<;>omega,?_⟩
  |(refine cu [ξ 40 (.int .i64 2),ξ 50 (.int .i64 2),ξ 41 (.val (.pointer none))] ?_;iterate 2 (try simp only[ep,bU,aJ,br,ar,aG,aC,ai,aa,ch,dC,cg,List.map_cons,List.map_nil,bN,bY,bj,bP,Int.reduceBEq,Bool.cond_true,Bool.cond_false,Bool.true_or,Bool.false_or,Bool.or_true,aF,aw,ax,ay,aE,mem_set,aL,go_sem]))
 iterate 8 first
  |refine⟨fun _=>?_,fun h=>by simp at h<;>omega⟩
  |refine⟨by simp[vb,hk,hre,hg]<;>omega,by simp[vb,hk,hre,hg]<;>omega,?_⟩
  |(refine cu [ξ 40 (.int .i64 2),ξ 50 (.int .i64 2),ξ 41 (.val (.pointer none))] ?_;iterate 2 (try simp only[ep,bU,aJ,br,ar,aG,aC,ai,aa,ch,dC,cg,List.map_cons,List.map_nil,bN,bY,bj,bP,Int.reduceBEq,Bool.cond_true,Bool.cond_false,Bool.true_or,Bool.false_or,Bool.or_true,aF,aw,ax,ay,aE,mem_set,aL,go_sem]))
 exact⟨by simp,by (repeat' (first|exact trivial|refine And.intro (by first|rfl|(simp[get,Nat.beq]<;>omega)|(dsimp only[get];congr 1<;>first|rfl|omega|(simp<;>omega))) ?_)),by simp[dC,cg,ch,ep,aJ,br,ar,aG,aC,ai,aa]⟩
theorem Bm (h:Hi) (k:Nat) (T:AM) (x:En) (hk:x.kind=2) (B0 B1 B3:dI) (g:Fi) (hre:x.ev.rep≠x.rep) (hg: -1000000000000≤g.deliveries∧g.deliveries≤1000000000000) :
  Aw ctx (fun _=>false) 201 0 eF (fun e f' μ'=>(e= .normal∨e= .exit 1)∧Sub (jo h k) f'∧μ'=B0::B1::dC {g with deliveries:=g.deliveries+1}::B3::ch::(T++[ep x])) ((8,.ptr (T.length+5) 0 0)::(7,.pv (.int .i64 k))::jo h k) (B0::B1::dC g::B3::ch::(T++[ep x])):=by
 unfold eF jo;iterate 15 first
  |refine⟨fun h=>by simp at h<;>omega,fun _=>?_⟩
  |refine⟨by simp[vb,hk,hre,hg]<;>omega,by simp[vb,hk,hre,hg]<;>omega,?_⟩
  |(refine cu [ξ 40 (.int .i64 2),ξ 50 (.int .i64 2),ξ 41 (.val (.pointer none))] ?_;iterate 2 (try simp only[ep,bU,aJ,br,ar,aG,aC,ai,aa,ch,dC,cg,List.map_cons,List.map_nil,bN,bY,bj,bP,Int.reduceBEq,Bool.cond_true,Bool.cond_false,Bool.true_or,Bool.false_or,Bool.or_true,aF,aw,ax,ay,aE,mem_set,aL,go_sem]))
 refine cu [ξ 40 (.int .i64 2),ξ 50 (.int .i64 2),ξ 41 (.val (.pointer none))] ?_;simp only[ep,bU,aJ,br,ar,aG,aC,ai,aa,ch,dC,cg,List.map_cons,List.map_nil,bN,bY,bj,bP,Int.reduceBEq,Bool.cond_true,Bool.cond_false,Bool.true_or,Bool.false_or,Bool.or_true,aF,aw,ax,ay,aE,mem_set,aL,go_sem];refine⟨fun _=>?_,fun h=>by simp at h<;>omega⟩;iterate 6 first
  |refine⟨fun h=>by simp at h<;>omega,fun _=>?_⟩
  |refine⟨by simp[vb,hk,hre,hg]<;>omega,by simp[vb,hk,hre,hg]<;>omega,?_⟩
  |(refine cu [ξ 40 (.int .i64 2),ξ 50 (.int .i64 2),ξ 41 (.val (.pointer none))] ?_;iterate 2 (try simp only[ep,bU,aJ,br,ar,aG,aC,ai,aa,ch,dC,cg,List.map_cons,List.map_nil,bN,bY,bj,bP,Int.reduceBEq,Bool.cond_true,Bool.cond_false,Bool.true_or,Bool.false_or,Bool.or_true,aF,aw,ax,ay,aE,mem_set,aL,go_sem]))
 exact⟨by simp,by (repeat' (first|exact trivial|refine And.intro (by first|rfl|(simp[get,Nat.beq]<;>omega)|(dsimp only[get];congr 1<;>first|rfl|omega|(simp<;>omega))) ?_)),by simp[dC,cg,ch,ep,aJ,br,ar,aG,aC,ai,aa]⟩
theorem tS:∀(ss ps:List Nat) (i:Nat) (a p:Nat) (d:AV),ss.Nodup→ss[i]?=some a→ps[i]?=some p→bN (pT ss ps) (.int .i64 a) d= .ptr (p+5) 0 0
 |[],_,_,_,_,_,_,h,_=>by simp at h
 |_::_,[],_,_,_,_,_,_,h=>by simp at h
 |a::ss,p::ps,0,a',p',d,_,h,h'=>by
  simp only[List.getElem?_cons_zero,Option.some.injEq]at h h';subst h h';simp[pT,bN,bP]
 |a::ss,p::ps,i+1,a',p',d,hn,h,h'=>by
  simp only[List.getElem?_cons_succ]at h h';have hne:a≠a':=fun he=>(List.nodup_cons.mp hn).1 (he▸List.mem_of_getElem? h)
  have:bP (.int .i64 a') (.pv (.int .i64 a))=false:=by simp only[bP,beq_eq_false_iff_ne,ne_eq];omega
  rw[pT,bN,this,cond_false];exact tS ss ps i a' p' d (List.nodup_cons.mp hn).2 h h'
theorem tT:∀(ss ps:List Nat) (a p:Nat),ss.length=ps.length→a ∉ ss→lF (pT ss ps) (.int .i64 a) (.ptr (p+5) 0 0)=pT (ss++[a]) (ps++[p])
 |[],[],a,p,_,_=>rfl
 |b::ss,q::ps,a,p,hl,hn=>by
  have:bP (.int .i64 a) (.pv (.int .i64 b))=false:=by
   simp only[bP,beq_eq_false_iff_ne,ne_eq];intro h;exact hn (List.mem_cons.mpr (.inl (by omega)))
  rw[pT,lF,this,cond_false,tT ss ps a p (by simpa using hl) (fun h=>hn (List.mem_cons_of_mem _ h))];rfl
 |[],_::_,_,_,h,_=>by simp at h
 |_::_,[],_,_,h,_=>by simp at h
theorem nu:∀(ss ps:List Nat),bj (.int .i64) (pT ss ps)=true
 |[],ps=>by cases ps<;>rfl
 |_::_,[]=>rfl
 |a::ss,p::ps=>by simp only[pT,bj,iL,eh,nu ss ps];rfl
theorem DM (h:Hi) (k:Nat) (T:AM) (ps ss:List Nat) (x:En) (hk:x.kind=0) (B0 B1:dI) (g:Fi) (hg: -1000000000000≤g.submitted∧g.submitted≤1000000000000) (hsl:ss.length=ps.length) (hkn:k ∉ ss) :
  Aw ctx (fun _=>false) 201 0 eF (fun e f' μ'=>(e= .normal∨e= .exit 1)∧Sub (jo h k) f'∧μ'=B0::B1::dC {g with submitted:=g.submitted+1}::mI (ss++[k]) (ps++[T.length+1])::ch::(T++[ep x]++[xq z0])) ((8,.ptr (T.length+5) 0 0)::(7,.pv (.int .i64 k))::jo h k) (B0::B1::dC g::mI ss ps::ch::(T++[ep x])):=by
 unfold eF jo;have hms:=tT ss ps k (T.length+1) hsl hkn;have hko:=nu ss ps;iterate 14 first
  |refine⟨fun _=>?_,fun h=>by simp at h<;>omega⟩
  |refine⟨by simp[vb,hk,hg]<;>omega,by simp[vb,hk,hg]<;>omega,?_⟩
  |(refine cu [ξ 40 (.int .i64 0),(41,{val:=some (.ptr 2 0 0)}),ξ 50 (.int .i64 0)] ?_;iterate 2 (try simp only[ep,bU,aJ,br,ar,aG,aC,ai,aa,ch,dC,cg,List.map_cons,List.map_nil,bN,bY,bj,bP,Int.reduceBEq,Bool.cond_true,Bool.cond_false,Bool.true_or,Bool.false_or,Bool.or_true,aF,aw,ax,ay,aE,mem_set,aL,go_sem]))
 refine bJ ?_;simp only[mI,xq,z0,List.length_append,List.length_cons,List.length_nil,aF,aw,ax,ay,aE,mem_set,aL,go_sem];try simp only[mI,xq,z0,List.length_append,List.length_cons,List.length_nil,aF,aw,ax,ay,aE,mem_set,aL,go_sem]
 refine⟨(by simp[vb,hko]<;>omega),(by simp[vb,hko]<;>omega),?_⟩;refine⟨by simp,by (repeat' (first|exact trivial|refine And.intro (by first|rfl|(simp[get,Nat.beq]<;>omega)|(dsimp only[get];congr 1<;>first|rfl|omega|(simp<;>omega))) ?_)),?_⟩;rw[show AV.ptr (List.length T+1+1+1+1+1+1) 0 0= .ptr (T.length+1+5) 0 0 from rfl,hms];all_goals simp[dC,cg,ch,ep,bU,aJ,br,ar,aG,aC,ai,aa,mI,xq,z0]
theorem Bn (h:Hi) (k:Nat) (T:AM) (x:En) (hk:x.kind=1) (hlt:k<h.l.length) (hl:h.l.length≤1000000000) (hz:gz h.l k k= -1) (B1 B3:dI) (g:Fi) :
  Aw ctx (fun _=>false) 201 0 eF (fun e f' μ'=>(e= .normal∨e= .exit 1)∧Sub (jo h k) f'∧μ'=cL h::B1::dC g::B3::ch::(T++[ep x])) ((8,.ptr (T.length+5) 0 0)::(7,.pv (.int .i64 k))::jo h k) (cL h::B1::dC g::B3::ch::(T++[ep x])):=by
 have hsub:=wT h k hlt hl;rw[hz]at hsub;unfold uU at hsub;rw[if_neg (by omega),show decide ((0:Int)≤ -1)=false from rfl]at hsub;unfold eF jo;iterate 19 first
  |refine⟨fun h=>by simp at h<;>omega,fun _=>?_⟩
  |refine⟨by simp[vb,hk]<;>omega,by simp[vb,hk]<;>omega,?_⟩
  |(refine cu [ξ 40 (.int .i64 1),ξ 41 (.val (.pointer none)),ξ 50 (.int .i64 1)] ?_;iterate 2 (try simp only[ep,bU,aJ,br,ar,aG,aC,ai,aa,ch,dC,cg,List.map_cons,List.map_nil,bN,bY,bj,bP,Int.reduceBEq,Bool.cond_true,Bool.cond_false,Bool.true_or,Bool.false_or,Bool.or_true,aF,aw,ax,ay,aE,mem_set,aL,go_sem]))
 refine cu [ξ 40 (.int .i64 1),ξ 41 (.val (.pointer none)),ξ 50 (.int .i64 1)] ?_;simp only[ep,bU,aJ,br,ar,aG,aC,ai,aa,ch,dC,cg,List.map_cons,List.map_nil,bN,bY,bj,bP,Int.reduceBEq,Bool.cond_true,Bool.cond_false,Bool.true_or,Bool.false_or,Bool.or_true,aF,aw,ax,ay,aE,mem_set,aL,go_sem];refine⟨fun _=>?_,fun h=>by simp at h<;>omega⟩;refine dS [(36,fun _=>some (.tup [.int .i64 0,.bool false]))] [ξ 76 (eA h)] ?_
 simp only[cL,eA,gy,aF,aw,ax,ay,aE,mem_set,aL,go_sem];try simp only[cL,eA,gy,aF,aw,ax,ay,aE,mem_set,aL,go_sem]
 refine⟨(by simp[vb]<;>omega),?_,?_⟩
 ·exact⟨hsub,trivial,trivial⟩
 iterate 5 first
  |refine⟨fun _=>?_,fun h=>by simp at h<;>omega⟩
  |refine⟨by simp[vb]<;>omega,by simp[vb]<;>omega,?_⟩
  |(refine bJ ?_;iterate 2 (try simp only[aF,aw,ax,ay,aE,mem_set,aL,go_sem]))
 refine⟨by simp,by (repeat' (first|exact trivial|refine And.intro (by first|rfl|(simp[get,Nat.beq]<;>omega)|(dsimp only[get];congr 1<;>first|rfl|omega|(simp<;>omega))) ?_)),by simp[dC,cg,ch,cL,ep,bU,aJ,br,ar,aG,aC,ai,aa]⟩
theorem Bo (h:Hi) (k:Nat) (T:AM) (ps ss:List Nat) (x:En) (hk:x.kind=1) (hlt:k<h.l.length) (hl:h.l.length≤1000000000) (i a p:Nat) (F:Ft) (hz:gz h.l k k=a) (hss:ss.Nodup) (hsi:ss[i]?=some a) (hpi:ps[i]?=some p) (hT:T[p]?=some (xq F)) (B1:dI) (g:Fi) :
  Aw ctx (fun _=>false) 201 0 eF (fun e f' μ'=>(e= .normal∨e= .exit 1)∧Sub (jo h k) f'∧μ'=cL h::B1::dC g::mI ss ps::ch::((T++[ep x]).set p (xq (jn F x)))) ((8,.ptr (T.length+5) 0 0)::(7,.pv (.int .i64 k))::jo h k) (cL h::B1::dC g::mI ss ps::ch::(T++[ep x])):=by
 have hsub:=wT h k hlt hl;rw[hz]at hsub;unfold uU at hsub;rw[if_pos (by omega),show decide ((0:Int)≤(a:Int))=true by simp]at hsub;have hgm:=fun d=>tS ss ps i a p d hss hsi hpi
 have hko:=nu ss ps;have hpl:p<T.length:=(List.getElem?_eq_some_iff.mp hT).1;have hU:(T++[ep x])[p]?=some (xq F):=by rw[List.getElem?_append_left hpl,hT]
 have hq:(T++[ep x])[T.length]?=some (ep x):=by simp
 have hsp:∀y:dI,((T++[ep x]).set p y)[p]?=some y:=fun y=>by rw[List.getElem?_set_self (by simp;omega)]
 have hsq:∀y:dI,((T++[ep x]).set p y)[T.length]?=some (ep x):=fun y=>by rw[List.getElem?_set_ne (by omega),hq]
 generalize T++[ep x]=U at *;generalize T.length=q at *;have hpq:(!Nat.beq p q)=true:=by
  rw[Bool.not_eq_true'];rw[Bool.eq_false_iff];exact fun h=>by have:=Nat.eq_of_beq_eq_true h;omega
 unfold eF jo;iterate 19 first
  |refine⟨fun h=>by simp at h<;>omega,fun _=>?_⟩
  |refine⟨by simp[vb,hk]<;>omega,by simp[vb,hk]<;>omega,?_⟩
  |(refine cu [ξ 40 (.int .i64 1),ξ 41 (.val (.pointer none)),ξ 50 (.int .i64 1)] ?_;iterate 2 (try simp only[hq,ep,bU,aJ,br,ar,aG,aC,ai,aa,ch,dC,cg,List.map_cons,List.map_nil,bN,bY,bj,bP,Int.reduceBEq,Bool.cond_true,Bool.cond_false,Bool.true_or,Bool.false_or,Bool.or_true,aF,aw,ax,ay,aE,mem_set,aL,go_sem]))
 refine cu [ξ 40 (.int .i64 1),ξ 41 (.val (.pointer none)),ξ 50 (.int .i64 1)] ?_;simp only[hq,ep,bU,aJ,br,ar,aG,aC,ai,aa,ch,dC,cg,List.map_cons,List.map_nil,bN,bY,bj,bP,Int.reduceBEq,Bool.cond_true,Bool.cond_false,Bool.true_or,Bool.false_or,Bool.or_true,aF,aw,ax,ay,aE,mem_set,aL,go_sem];refine⟨fun _=>?_,fun h=>by simp at h<;>omega⟩;refine dS [(36,fun _=>some (.tup [.int .i64 a,.bool true]))] [ξ 76 (eA h)] ?_
 simp only[cL,eA,gy,aF,aw,ax,ay,aE,mem_set,aL,go_sem];try simp only[cL,eA,gy,aF,aw,ax,ay,aE,mem_set,aL,go_sem]
 refine⟨(by simp[vb]<;>omega),?_,?_⟩
 ·exact⟨hsub,trivial,trivial⟩
 iterate 5 first
  |refine⟨fun h=>by simp at h<;>omega,fun _=>?_⟩
  |refine⟨by simp[vb]<;>omega,by simp[vb]<;>omega,?_⟩
  |(refine bJ ?_;iterate 2 (try simp only[aF,aw,ax,ay,aE,mem_set,aL,go_sem]))
 refine cu [(85,{val:=some (.ptr (p+5) 0 0)})] ?_;simp only[mI,aF,aw,ax,ay,aE,mem_set,aL,go_sem];try simp only[mI,aF,aw,ax,ay,aE,mem_set,aL,go_sem]
 refine⟨(by simp[vb,hko]<;>omega),?_,?_⟩
 ·exact⟨hgm _,trivial⟩
 obtain⟨w,e,r,s,t⟩:=F;simp only[xq]at hU;refine cu [ξ 100 (.int .i64 x.out.kind)] ?_;simp only[hq,hU,hsp,hsq,List.set_set,ep,aJ,br,ar,List.map_cons,List.map_nil,aF,aw,ax,ay,aE,mem_set,aL,go_sem];try simp only[hq,hU,hsp,hsq,List.set_set,ep,aJ,br,ar,List.map_cons,List.map_nil,aF,aw,ax,ay,aE,mem_set,aL,go_sem]
 refine⟨(by simp[vb,hk]<;>omega),?_,?_⟩
 ·cases w<;>cases s<;>simp[aI,aP]
 refine bJ ?_;simp only[hq,hU,hsp,hsq,List.set_set,ep,aJ,br,ar,List.map_cons,List.map_nil,aF,aw,ax,ay,aE,mem_set,aL,go_sem];try simp only[hq,hU,hsp,hsq,List.set_set,ep,aJ,br,ar,List.map_cons,List.map_nil,aF,aw,ax,ay,aE,mem_set,aL,go_sem]
 refine⟨(by simp[vb,hk]<;>omega),(by simp[vb,hk]<;>omega),?_⟩;refine cu [ξ 117 (.int .i64 x.out.kind)] ?_;simp only[hq,hU,hsp,hsq,List.set_set,ep,aJ,br,ar,List.map_cons,List.map_nil,aF,aw,ax,ay,aE,mem_set,aL,go_sem];try simp only[hq,hU,hsp,hsq,List.set_set,ep,aJ,br,ar,List.map_cons,List.map_nil,aF,aw,ax,ay,aE,mem_set,aL,go_sem]
 refine⟨(by simp[vb,hk]<;>omega),?_,?_⟩
 ·cases r<;>simp[aI,aP]
 refine cu [ξ 124 (.int .i64 x.out.kind)] ?_;simp only[hq,hU,hsp,hsq,List.set_set,ep,aJ,br,ar,List.map_cons,List.map_nil,aF,aw,ax,ay,aE,mem_set,aL,go_sem];try simp only[hq,hU,hsp,hsq,List.set_set,ep,aJ,br,ar,List.map_cons,List.map_nil,aF,aw,ax,ay,aE,mem_set,aL,go_sem]
 refine⟨(by simp[vb,hk]<;>omega),?_,?_⟩
 ·simp[aI,aP]
 refine bJ ?_;simp only[aF,aw,ax,ay,aE,mem_set,aL,go_sem];refine⟨fun hc=>?_,fun hc=>?_⟩
 ·refine cu [ξ 136 (.int .i64 x.tick)] ?_;simp only[hq,hU,hsp,hsq,List.set_set,ep,aJ,br,ar,List.map_cons,List.map_nil,aF,aw,ax,ay,aE,mem_set,aL,go_sem];try simp only[hq,hU,hsp,hsq,List.set_set,ep,aJ,br,ar,List.map_cons,List.map_nil,aF,aw,ax,ay,aE,mem_set,aL,go_sem]
  refine⟨(by simp[vb,hk]<;>omega),?_,(by first|rfl|trivial),?_⟩
  ·exact⟨trivial,trivial⟩
  refine⟨by simp,by (repeat' (first|exact trivial|refine And.intro (by first|rfl|(simp[get,Nat.beq]<;>omega)|(dsimp only[get];congr 1<;>first|rfl|omega|(simp<;>omega))) ?_)),?_⟩;have h0:x.out.kind=0∧e=false:=by
   by_cases h0:x.out.kind=0<;>cases e<;>simp_all
  obtain⟨h0,rfl⟩:=h0;cases w<;>cases s<;>cases r<;>simp[dC,cg,ch,mI,cL,xq,jn,h0]
 refine bJ ?_;simp only[aF,aw,ax,ay,aE,mem_set,aL,go_sem];refine⟨by simp,by (repeat' (first|exact trivial|refine And.intro (by first|rfl|(simp[get,Nat.beq]<;>omega)|(dsimp only[get];congr 1<;>first|rfl|omega|(simp<;>omega))) ?_)),?_⟩;by_cases h0:x.out.kind=0
 ·have he:e=true:=by cases e<;>simp_all
  subst he;cases w<;>cases s<;>cases r<;>simp[dC,cg,ch,mI,cL,xq,jn,h0]
 have hb:∀n:Int,(x.out.kind==n)=decide (x.out.kind=n):=fun n=>by
  by_cases hn:x.out.kind=n<;>simp[hn]
 cases w<;>cases s<;>cases r<;>simp[dC,cg,ch,mI,cL,xq,jn,h0,hb]
end
end Pur
end
section
namespace Pur
open Go.RowKit
section
open Tr
theorem zQ (l:List En) (i:Nat):∀(k j:Nat),td l i k=some j→j<k∧(l.getD j zx).kind=0
 |0,j,h=>by cases h
 |k+1,j,h=>by
  rw[td]at h;split at h
  ·rename_i hc;injection h with h
   subst h;exact⟨Nat.lt_succ_self _,hc.1⟩
  obtain⟨h1,h2⟩:=zQ l i k j h;exact⟨by omega,h2⟩
theorem lp (l:List En) (i:Nat):gz l i i= -1∨∃a:Nat,gz l i i=a∧a<i∧(l.getD a zx).kind=0:=by
 unfold gz;cases hs:td l i i with
 |none=>exact .inl rfl
 |some j =>
  obtain⟨h1,h2⟩:=zQ l i i j hs;exact .inr ⟨j,rfl,h1,h2⟩
theorem xe (l:List En) (j:Nat):∀k,k≤j+1→cE l j k=z0
 |0,_=>rfl
 |k+1,h=>by
  rw[cE,xe l j k (by omega)];split
  ·rename_i hc;rcases lp l k with h1|⟨a,h1,h2,-⟩
   ·rw[h1]at hc;omega
   rw[h1]at hc;omega
  rfl
theorem oH {l:List En} {k j:Nat}:j∈bO l k↔j<k∧(l.getD j zx).kind=0:=by
 unfold bO;rw[List.mem_filter,List.mem_range,decide_eq_true_eq]
theorem vh (l:List En) (k:Nat):(bO l k).Nodup:=List.Pairwise.filter _ List.nodup_range
theorem eH (l:List En) (k:Nat):bO l (k+1)=if (l.getD k zx).kind=0 then bO l k++[k] else bO l k:=by
 unfold bO;rw[List.range_succ,List.filter_append];split
 ·rename_i h0;rw[List.filter_cons_of_pos (by simpa using h0)];rfl
 rename_i h0;rw[List.filter_cons_of_neg (by simpa using h0)];simp
structure CB (f:Fi) (k:Int):Prop where
 a0:0≤f.submitted∧f.submitted≤k
 a1:0≤f.events∧f.events≤k
 a2:0≤f.deliveries∧f.deliveries≤k
 a3:0≤f.reads∧f.reads≤k
 a4:0≤f.waits∧f.waits≤k
 a5:0≤f.busy∧f.busy≤k
 a6:0≤f.crashes∧f.crashes≤k
 a7:0≤f.restarts∧f.restarts≤k
 a8:0≤f.full∧f.full≤k
theorem DN (l:List En):∀k:Nat,CB (dm l k) k
 |0=>by constructor<;>simp[dm,zf]
 |k+1=>by
  obtain⟨a0,a1,a2,a3,a4,a5,a6,a7,a8⟩:=DN l k;rw[dm];unfold kg;simp only;repeat' split
  all_goals constructor<;>(try simp only)<;>omega
theorem fV {l:List En} {k:Nat} {T:AM} {ps:List Nat} {x:En} (hI:oG l k T ps) (hx:l.getD k zx=x) (h0:x.kind≠0) (h1:x.kind≠1):oG l (k+1) (T++[ep x]) ps:=by
 have hs:bO l (k+1)=bO l k:=by rw[eH,hx,if_neg h0]
 refine⟨by rw[hs];exact hI.len,hI.nd,fun j a p ha hp=>?_⟩;rw[hs]at ha;have:=hI.at_ j a p ha hp;have hl:=(List.getElem?_eq_some_iff.mp this).1;rw[List.getElem?_append_left hl,this,cE,hx,if_neg (fun h=>h1 h.1)]
theorem FG {l:List En} {k:Nat} {T:AM} {ps:List Nat} {x:En} (hI:oG l k T ps) (hx:l.getD k zx=x) (h0:x.kind=0):oG l (k+1) (T++[ep x]++[xq z0]) (ps++[T.length+1]):=by
 have hs:bO l (k+1)=bO l k++[k]:=by rw[eH,hx,if_pos h0]
 have hf:∀a,cE l a (k+1)=cE l a k:=fun a=>by rw[cE,hx,if_neg (fun h=>by omega)]
 have hlt:∀j a p,(bO l k)[j]?=some a→ps[j]?=some p→p<T.length:=fun j a p h1 h2=>(List.getElem?_eq_some_iff.mp (hI.at_ j a p h1 h2)).1
 have hall:∀p∈ps,p<T.length:=fun p hp=>by
  obtain⟨j,hj,rfl⟩:=List.mem_iff_getElem.mp hp;have hj2:j<(bO l k).length:=by rw[←hI.len];exact hj
  exact hlt j _ _ (List.getElem?_eq_getElem hj2) (List.getElem?_eq_getElem hj)
 refine⟨by rw[hs];simp[hI.len],?_,fun j a p ha hp=>?_⟩
 ·rw[List.nodup_append];refine⟨hI.nd,by simp,fun a ha b hb=>?_⟩;have:=hall a ha;simp only[List.mem_singleton]at hb;omega
 rw[hs]at ha;rw[hf];by_cases hj:j<ps.length
 ·rw[List.getElem?_append_left hj]at hp;rw[List.getElem?_append_left (by rw[←hI.len];exact hj)]at ha;have h1:=hI.at_ j a p ha hp;have h2:=hlt j a p ha hp;rw[List.append_assoc,List.getElem?_append_left h2,h1]
 rw[List.getElem?_append_right (by omega)]at hp;rw[List.getElem?_append_right (by rw[←hI.len];omega)]at ha;have hj2:j=ps.length:=by
  have:=(List.getElem?_eq_some_iff.mp hp).1;simp at this;omega
 subst hj2;simp at hp;rw[←hI.len]at ha;simp at ha;subst hp ha;rw[xe l k k (by omega),List.getElem?_append_right (by simp)];simp
theorem FH {l:List En} {k:Nat} {T:AM} {ps:List Nat} {x:En} (hI:oG l k T ps) (hx:l.getD k zx=x) (h1:x.kind=1) {i a p:Nat} (ha:(bO l k)[i]?=some a) (hp:ps[i]?=some p) (hz:gz l k k=a):oG l (k+1) ((T++[ep x]).set p (xq (jn (cE l a k) x))) ps:=by
 have hs:bO l (k+1)=bO l k:=by rw[eH,hx,if_neg (by omega)]
 have hT:=hI.at_ i a p ha hp;have hpl:=(List.getElem?_eq_some_iff.mp hT).1;refine⟨by rw[hs];exact hI.len,hI.nd,fun j b q hb hq=>?_⟩;rw[hs]at hb;have h2:=hI.at_ j b q hb hq;have hql:=(List.getElem?_eq_some_iff.mp h2).1;rw[cE,hx,hz];by_cases hji:j=i
 ·subst hji;rw[ha]at hb;injection hb with hb
  rw[hp]at hq;injection hq with hq
  subst hb hq;rw[if_pos ⟨h1,rfl⟩,List.getElem?_set_self (by simp;omega)]
 have hpq:p≠q:=fun he=>by
  subst he;obtain⟨e1,e2⟩:=List.getElem?_eq_some_iff.mp hp;obtain⟨e3,e4⟩:=List.getElem?_eq_some_iff.mp hq;exact hji ((List.getElem_inj hI.nd).mp (e4.trans e2.symm))
 have hab:a≠b:=fun he=>by
  subst he;obtain⟨e1,e2⟩:=List.getElem?_eq_some_iff.mp ha;obtain⟨e3,e4⟩:=List.getElem?_eq_some_iff.mp hb;exact hji ((List.getElem_inj (vh l k)).mp (e4.trans e2.symm))
 rw[List.getElem?_set_ne hpq,List.getElem?_append_left hql,h2,if_neg (fun h=>hab (by omega))]
theorem DO {l:List En} {k:Nat} {T:AM} {ps:List Nat} {x:En} (hI:oG l k T ps) (hx:l.getD k zx=x) (h1:x.kind=1) (hz:gz l k k= -1):oG l (k+1) (T++[ep x]) ps:=by
 have hs:bO l (k+1)=bO l k:=by rw[eH,hx,if_neg (by omega)]
 refine⟨by rw[hs];exact hI.len,hI.nd,fun j a p ha hp=>?_⟩;rw[hs]at ha;have:=hI.at_ j a p ha hp;have hl:=(List.getElem?_eq_some_iff.mp this).1;rw[List.getElem?_append_left hl,this,cE,hx,if_neg (fun h=>by omega)]
theorem yL (h:Hi) (k:Nat) (T:AM) (ps:List Nat) (hlt:k<h.l.length) (hl:h.l.length≤1000000000) (hk0:0≤(h.l.getD k zx).kind) (hk9:(h.l.getD k zx).kind≤9) (hI:oG h.l k T ps) {R:Exit→AF→AM→Prop} {I:AF→AM→Prop}
  (hK:∀f' T' ps',Sub (jo h (k+1)) f'→oG h.l (k+1) T' ps'→I f' (firstM h (k+1) T' ps')):Aw ctx (fun _=>false) 201 0 zP (eb I R) (jo h k) (firstM h k T ps):=by
 obtain⟨b0,b1,b2,b3,b4,b5,b6,b7,b8⟩:=DN h.l k;obtain⟨x,hx⟩:∃x,h.l.getD k zx=x:=⟨_,rfl⟩
 have hc:dm h.l (k+1)=kg h.l k (dm h.l k):=rfl;have hs:=eH h.l k;rw[hx]at hk0 hk9 hs;unfold kg at hc;simp only[hx]at hc;unfold firstM at *;obtain⟨j,hj⟩:∃j:Nat,x.kind=j:=⟨x.kind.toNat,by omega⟩
 have hj9:j<10:=by omega
 match j,hj9,hj with
 |0,_,hk =>
  have hk:x.kind=0:=hk;refine dJ h k T x hx.symm hlt hl _ _ _ _ (fun f' μ' hs' hm=>?_) (DM h k T ps (bO h.l k) x hk _ _ _ ⟨by omega,by omega⟩ hI.len.symm (fun hm=>by have:=(oH.mp hm).1;omega));have:=hK f' _ _ hs' (FG hI hx hk);rw[hc,if_pos hk,hs,if_pos hk]at this;rw[hm];exact this
 |1,_,hk =>
  have hk:x.kind=1:=hk;rw[if_neg (by omega),if_neg (by omega),if_neg (by omega),if_neg (by omega),if_neg (by omega),if_neg (by omega),if_neg (by omega),if_neg (by omega)]at hc;rw[if_neg (by omega)]at hs;rcases lp h.l k with hz|⟨a,hz,ha1,ha2⟩
  ·refine dJ h k T x hx.symm hlt hl _ _ _ _ (fun f' μ' hs' hm=>?_) (Bn h k T x hk hlt hl hz _ _ _);have:=hK f' _ _ hs' (DO hI hx hk hz);rw[hc,hs]at this;rw[hm];exact this
  obtain⟨i,hi,hia⟩:=List.mem_iff_getElem.mp (oH.mpr ⟨ha1,ha2⟩);have hia':(bO h.l k)[i]?=some a:=by rw[List.getElem?_eq_getElem hi,hia]
  have hip:i<ps.length:=by rw[hI.len];exact hi
  have hpp:ps[i]?=some ps[i]:=List.getElem?_eq_getElem hip;have hTT:=hI.at_ i a _ hia' hpp;refine dJ h k T x hx.symm hlt hl _ _ _ _ (fun f' μ' hs' hm=>?_) (Bo h k T ps (bO h.l k) x hk hlt hl i a _ _ hz (vh _ _) hia' hpp hTT _ _);have:=hK f' _ _ hs' (FH hI hx hk hia' hpp hz);rw[hc,hs]at this;rw[hm];exact this
 |2,_,hk =>
  have hk:x.kind=2:=hk;rw[if_neg (by omega),if_pos hk]at hc;rw[if_neg (by omega)]at hs;by_cases hre:x.ev.rep=x.rep
  ·refine dJ h k T x hx.symm hlt hl _ _ _ _ (fun f' μ' hs' hm=>?_) (Bl h k T x hk _ _ _ _ hre ⟨by omega,by omega⟩);have:=hK f' _ _ hs' (fV hI hx (by omega) (by omega));rw[hc,if_pos hre,hs]at this;rw[hm];exact this
  refine dJ h k T x hx.symm hlt hl _ _ _ _ (fun f' μ' hs' hm=>?_) (Bm h k T x hk _ _ _ _ hre ⟨by omega,by omega⟩);have:=hK f' _ _ hs' (fV hI hx (by omega) (by omega));rw[hc,if_neg hre,hs]at this;rw[hm];exact this
 |3,_,hk =>
  have hk:x.kind=3:=hk;rw[if_neg (by omega),if_neg (by omega),if_pos hk]at hc;rw[if_neg (by omega)]at hs;refine dJ h k T x hx.symm hlt hl _ _ _ _ (fun f' μ' hs' hm=>?_) (DF h k T x hk _ _ _ _ ⟨by omega,by omega⟩);have:=hK f' _ _ hs' (fV hI hx (by omega) (by omega));rw[hc,hs]at this;rw[hm];exact this
 |4,_,hk =>
  have hk:x.kind=4:=hk;rw[if_neg (by omega),if_neg (by omega),if_neg (by omega),if_pos hk]at hc;rw[if_neg (by omega)]at hs;refine dJ h k T x hx.symm hlt hl _ _ _ _ (fun f' μ' hs' hm=>?_) (DG h k T x hk _ _ _ _ ⟨by omega,by omega⟩);have:=hK f' _ _ hs' (fV hI hx (by omega) (by omega));rw[hc,hs]at this;rw[hm];exact this
 |5,_,hk =>
  have hk:x.kind=5:=hk;rw[if_neg (by omega),if_neg (by omega),if_neg (by omega),if_neg (by omega),if_neg (by omega),if_pos hk]at hc;rw[if_neg (by omega)]at hs;refine dJ h k T x hx.symm hlt hl _ _ _ _ (fun f' μ' hs' hm=>?_) (DI h k T x hk _ _ _ _ ⟨by omega,by omega⟩);have:=hK f' _ _ hs' (fV hI hx (by omega) (by omega));rw[hc,hs]at this;rw[hm];exact this
 |6,_,hk =>
  have hk:x.kind=6:=hk;rw[if_neg (by omega),if_neg (by omega),if_neg (by omega),if_neg (by omega),if_neg (by omega),if_neg (by omega),if_pos hk]at hc;rw[if_neg (by omega)]at hs;refine dJ h k T x hx.symm hlt hl _ _ _ _ (fun f' μ' hs' hm=>?_) (DJ h k T x hk _ _ _ _ ⟨by omega,by omega⟩);have:=hK f' _ _ hs' (fV hI hx (by omega) (by omega));rw[hc,hs]at this;rw[hm];exact this
 |7,_,hk =>
  have hk:x.kind=7:=hk;rw[if_neg (by omega),if_neg (by omega),if_neg (by omega),if_neg (by omega),if_neg (by omega),if_neg (by omega),if_neg (by omega),if_neg (by omega)]at hc;rw[if_neg (by omega)]at hs;refine dJ h k T x hx.symm hlt hl _ _ _ _ (fun f' μ' hs' hm=>?_) (DL h k T x hk _ _ _ _);have:=hK f' _ _ hs' (fV hI hx (by omega) (by omega));rw[hc,hs]at this;rw[hm];exact this
 |8,_,hk =>
  have hk:x.kind=8:=hk;rw[if_neg (by omega),if_neg (by omega),if_neg (by omega),if_neg (by omega),if_neg (by omega),if_neg (by omega),if_neg (by omega),if_pos hk]at hc;rw[if_neg (by omega)]at hs;refine dJ h k T x hx.symm hlt hl _ _ _ _ (fun f' μ' hs' hm=>?_) (DK h k T x hk _ _ _ _ ⟨by omega,by omega⟩);have:=hK f' _ _ hs' (fV hI hx (by omega) (by omega));rw[hc,hs]at this;rw[hm];exact this
 |9,_,hk =>
  have hk:x.kind=9:=hk;rw[if_neg (by omega),if_neg (by omega),if_neg (by omega),if_neg (by omega),if_pos hk]at hc;rw[if_neg (by omega)]at hs;refine dJ h k T x hx.symm hlt hl _ _ _ _ (fun f' μ' hs' hm=>?_) (DH h k T x hk _ _ _ _ ⟨by omega,by omega⟩);have:=hK f' _ _ hs' (fV hI hx (by omega) (by omega));rw[hc,hs]at this;rw[hm];exact this
end
end Pur
end
section
namespace Pur
open Go.RowKit
section
open Tr
def cy (F:Ft) (tick:Int) (f:Fi):Fi :=
 let g:=if F.e=true then {f with executed:=f.executed+1,ticks:=f.ticks+(F.t-tick),longest:=if f.longest<F.t-tick then F.t-tick else f.longest} else if F.r=true then {f with refused:=f.refused+1} else {f with opn:=f.opn+1}
 if F.w=true then {g with waited:=g.waited+1} else g
structure SB (f:Fi) (k:Int):Prop where
 a0: -k≤f.executed∧f.executed≤k
 a1: -k≤f.refused∧f.refused≤k
 a2: -k≤f.waited∧f.waited≤k
 a3: -k≤f.opn∧f.opn≤k
 a4: -k≤f.ticks∧f.ticks≤k
 a5: -k≤f.longest∧f.longest≤k
theorem Ko {F:Ft} {tick:Int} {f:Fi} {k:Int} (h:SB f k) (h1: -2000000≤F.t-tick∧F.t-tick≤2000000):SB (cy F tick f) (k+2000000):=by
 obtain⟨a0,a1,a2,a3,a4,a5⟩:=h;unfold cy;simp only;repeat' split
 all_goals constructor<;>(try simp only)<;>(try split)<;>omega
def Kp:AF:=[(4,.ptr 2 0 0),(2,.ptr 1 0 0),(1,.ptr 0 0 0)]
theorem DP (h:Hi) (a p:Nat) (T:AM) (F:Ft) (tick:Int) (ha:a<h.l.length) (hl:h.l.length≤1000000000) (htk:(h.l.getD a zx).tick=tick) (hp:T[p]?=some (xq F)) (B1 B3:dI) (g:Fi) (hg:SB g 1000000000000) (hd: -2000000≤F.t-tick∧F.t-tick≤2000000) (v:AV) :
  Aw ctx (fun _=>false) 201 5 HJ (ec 4 (fun e f' μ'=>e= .normal∧Sub ((143,v)::Kp) f'∧μ'=cL h::B1::dC (cy F tick g)::B3::ch::T)) ((14,.ptr (p+5) 0 0)::(13,.pv (.int .i64 a))::(143,v)::Kp) (cL h::B1::dC g::B3::ch::T):=by
 have f2:=iw h.l;have hen:(h.l.flatMap aJ)[a*28]?.getD default= .int .i64 tick:=by
  have:=db aR h.l a zx 0 ha (by omega);rw[Nat.add_zero]at this;rw[this,←htk];rfl
 obtain⟨⟨a0,a0'⟩,⟨a1,a1'⟩,⟨a2,a2'⟩,⟨a3,a3'⟩,⟨a4,a4'⟩,⟨a5,a5'⟩⟩:=hg;obtain⟨d1,d2⟩:=hd;obtain⟨w,e,r,s,t⟩:=F;simp only at d1 d2;simp only[xq]at hp;unfold HJ Kp;cases e with
 |true =>
  iterate 6 first
   |refine⟨fun _=>?_,fun h=>by simp at h<;>omega⟩
   |refine⟨by simp[vb,a0,a0']<;>omega,by simp[vb,a0,a0']<;>omega,?_⟩
   |(refine bJ ?_;iterate 2 (try simp only[hp,dC,cg,List.map_cons,List.map_nil,aF,aw,ax,ay,aE,mem_set,aL,go_sem]))
  refine cu [ξ 171 (.int .i64 tick)] ?_;simp only[hp,cL,bp,dC,cg,List.map_cons,List.map_nil,aF,aw,ax,ay,aE,mem_set,aL,go_sem];try simp only[hp,cL,bp,dC,cg,List.map_cons,List.map_nil,aF,aw,ax,ay,aE,mem_set,aL,go_sem]
  refine⟨(by simp[vb,f2,ha,d1,d2]<;>omega),?_,?_⟩
  ·refine⟨?_,trivial⟩;rw[Int.toNat_natCast,Nat.add_zero,hen]
  refine bJ ?_;simp only[hp,dC,cg,List.map_cons,List.map_nil,aF,aw,ax,ay,aE,mem_set,aL,go_sem];try simp only[hp,dC,cg,List.map_cons,List.map_nil,aF,aw,ax,ay,aE,mem_set,aL,go_sem]
  refine⟨(by simp[vb,a4,a4',d1,d2]<;>omega),(by simp[vb,a4,a4',d1,d2]<;>omega),?_⟩;refine bJ ?_;simp only[hp,dC,cg,List.map_cons,List.map_nil,aF,aw,ax,ay,aE,mem_set,aL,go_sem];try simp only[hp,dC,cg,List.map_cons,List.map_nil,aF,aw,ax,ay,aE,mem_set,aL,go_sem]
  refine⟨(by simp[vb,a4,a4',d1,d2]<;>omega),(by simp[vb,a4,a4',d1,d2]<;>omega),?_⟩;cases w with
  |true =>
   iterate 6 first
    |refine⟨fun _=>?_,fun h=>by simp at h<;>omega⟩
    |refine⟨by simp[vb,a2,a2']<;>omega,by simp[vb,a2,a2']<;>omega,?_⟩
    |(refine bJ ?_;iterate 2 (try simp only[hp,dC,cg,List.map_cons,List.map_nil,aF,aw,ax,ay,aE,mem_set,aL,go_sem]))
   exact⟨trivial,by (repeat' (first|exact trivial|refine And.intro (by first|rfl|(simp[get,Nat.beq]<;>omega)|(dsimp only[get];congr 1<;>first|rfl|omega|(simp<;>omega))) ?_)),by simp[cy,dC,cg,cL,bp]⟩
  |false =>
   iterate 5 first
    |refine⟨fun h=>by simp at h<;>omega,fun _=>?_⟩
    |refine⟨by simp[vb,a2,a2']<;>omega,by simp[vb,a2,a2']<;>omega,?_⟩
    |(refine bJ ?_;iterate 2 (try simp only[hp,dC,cg,List.map_cons,List.map_nil,aF,aw,ax,ay,aE,mem_set,aL,go_sem]))
   exact⟨trivial,by (repeat' (first|exact trivial|refine And.intro (by first|rfl|(simp[get,Nat.beq]<;>omega)|(dsimp only[get];congr 1<;>first|rfl|omega|(simp<;>omega))) ?_)),by simp[cy,dC,cg,cL,bp]⟩
 |false =>
  cases r with
  |true =>
   iterate 6 first
    |refine⟨fun h=>by simp at h<;>omega,fun _=>?_⟩
    |refine⟨by simp[vb,a1,a1']<;>omega,by simp[vb,a1,a1']<;>omega,?_⟩
    |(refine bJ ?_;iterate 2 (try simp only[hp,dC,cg,List.map_cons,List.map_nil,aF,aw,ax,ay,aE,mem_set,aL,go_sem]))
   refine bJ ?_;simp only[hp,dC,cg,List.map_cons,List.map_nil,aF,aw,ax,ay,aE,mem_set,aL,go_sem];refine⟨fun _=>?_,fun h=>by simp at h<;>omega⟩;refine bJ ?_;simp only[hp,dC,cg,List.map_cons,List.map_nil,aF,aw,ax,ay,aE,mem_set,aL,go_sem];try simp only[hp,dC,cg,List.map_cons,List.map_nil,aF,aw,ax,ay,aE,mem_set,aL,go_sem]
   refine⟨(by simp[vb,a1,a1']<;>omega),(by simp[vb,a1,a1']<;>omega),?_⟩;cases w with
   |true =>
    iterate 6 first
     |refine⟨fun _=>?_,fun h=>by simp at h<;>omega⟩
     |refine⟨by simp[vb,a2,a2']<;>omega,by simp[vb,a2,a2']<;>omega,?_⟩
     |(refine bJ ?_;iterate 2 (try simp only[hp,dC,cg,List.map_cons,List.map_nil,aF,aw,ax,ay,aE,mem_set,aL,go_sem]))
    exact⟨trivial,by (repeat' (first|exact trivial|refine And.intro (by first|rfl|(simp[get,Nat.beq]<;>omega)|(dsimp only[get];congr 1<;>first|rfl|omega|(simp<;>omega))) ?_)),by simp[cy,dC,cg,cL,bp]⟩
   |false =>
    iterate 5 first
     |refine⟨fun h=>by simp at h<;>omega,fun _=>?_⟩
     |refine⟨by simp[vb,a2,a2']<;>omega,by simp[vb,a2,a2']<;>omega,?_⟩
     |(refine bJ ?_;iterate 2 (try simp only[hp,dC,cg,List.map_cons,List.map_nil,aF,aw,ax,ay,aE,mem_set,aL,go_sem]))
    exact⟨trivial,by (repeat' (first|exact trivial|refine And.intro (by first|rfl|(simp[get,Nat.beq]<;>omega)|(dsimp only[get];congr 1<;>first|rfl|omega|(simp<;>omega))) ?_)),by simp[cy,dC,cg,cL,bp]⟩
  |false =>
   iterate 10 first
    |refine⟨fun h=>by simp at h<;>omega,fun _=>?_⟩
    |refine⟨by simp[vb,a3,a3']<;>omega,by simp[vb,a3,a3']<;>omega,?_⟩
    |(refine bJ ?_;iterate 2 (try simp only[hp,dC,cg,List.map_cons,List.map_nil,aF,aw,ax,ay,aE,mem_set,aL,go_sem]))
   cases w with
   |true =>
    iterate 6 first
     |refine⟨fun _=>?_,fun h=>by simp at h<;>omega⟩
     |refine⟨by simp[vb,a2,a2']<;>omega,by simp[vb,a2,a2']<;>omega,?_⟩
     |(refine bJ ?_;iterate 2 (try simp only[hp,dC,cg,List.map_cons,List.map_nil,aF,aw,ax,ay,aE,mem_set,aL,go_sem]))
    exact⟨trivial,by (repeat' (first|exact trivial|refine And.intro (by first|rfl|(simp[get,Nat.beq]<;>omega)|(dsimp only[get];congr 1<;>first|rfl|omega|(simp<;>omega))) ?_)),by simp[cy,dC,cg,cL,bp]⟩
   |false =>
    iterate 5 first
     |refine⟨fun h=>by simp at h<;>omega,fun _=>?_⟩
     |refine⟨by simp[vb,a2,a2']<;>omega,by simp[vb,a2,a2']<;>omega,?_⟩
     |(refine bJ ?_;iterate 2 (try simp only[hp,dC,cg,List.map_cons,List.map_nil,aF,aw,ax,ay,aE,mem_set,aL,go_sem]))
    exact⟨trivial,by (repeat' (first|exact trivial|refine And.intro (by first|rfl|(simp[get,Nat.beq]<;>omega)|(dsimp only[get];congr 1<;>first|rfl|omega|(simp<;>omega))) ?_)),by simp[cy,dC,cg,cL,bp]⟩
end
section
open Tr
def yM (l:List En) (n:Nat) (ss:List Nat) (g:Fi):List Nat→Fi
 |[]=>g
 |j::vis=>cy (cE l (ss.getD j 0) n) ((l.getD (ss.getD j 0) zx).tick) (yM l n ss g vis)
theorem DQ (l:List En):∀k:Nat,SB (dm l k) 0
 |0=>by constructor<;>simp[dm,zf]
 |k+1=>by
  obtain⟨a0,a1,a2,a3,a4,a5⟩:=DQ l k;rw[dm];unfold kg;simp only;repeat' split
  all_goals constructor<;>(try simp only)<;>omega
theorem yN (l:List En) (ht:∀x∈l,0≤x.tick∧x.tick≤1048576) (a:Nat):∀k:Nat,k≤l.length→0≤(cE l a k).t∧(cE l a k).t≤1048576
 |0,_=>by simp[cE,z0]
 |k+1,hk=>by
  have ih:=yN l ht a k (by omega);have hx:=ht _ (bX (d:=zx) (show k<l.length by omega));rw[cE];split
  ·unfold jn;simp only;split
   ·exact hx
   exact ih
  exact ih
theorem DR (l:List En) (ht:∀x∈l,0≤x.tick∧x.tick≤1048576) (ss:List Nat) (hss:∀a∈ss,a<l.length) (N:Nat) (hN:N=ss.length):∀vis:List Nat,(∀i∈vis,i<N)→SB (yM l l.length ss (dm l l.length) vis) (2000000*vis.length)
 |[],_=>DQ l _
 |j::vis,h=>by
  have ih:=DR l ht ss hss N hN vis fun i hi=>h i (List.mem_cons_of_mem _ hi)
  have hj:j<ss.length:=by have:=h j List.mem_cons_self;omega
  have hm:=hss _ (bX (d:=0) hj);have h1:=yN l ht (ss.getD j 0) l.length (Nat.le_refl _);have h2:=ht _ (bX (d:=zx) hm);have:=Ko (F:=cE l (ss.getD j 0) l.length) (tick:=(l.getD (ss.getD j 0) zx).tick) ih ⟨by omega,by omega⟩;rw[show(2000000*((j::vis).length:Int))=2000000*(vis.length:Int)+2000000 by simp;omega];exact this
theorem sH:∀(ss ps:List Nat),ss.length=ps.length→pT ss ps=(List.range ss.length).flatMap fun j=>[AV.pv (.int .i64 (ss.getD j 0)),.ptr (ps.getD j 0+5) 0 0]
 |[],[],_=>rfl
 |a::ss,p::ps,h=>by
  rw[pT,sH ss ps (by simpa using h),List.length_cons,List.range_succ_eq_map,List.flatMap_cons,List.flatMap_map];rfl
 |[],_::_,h=>by simp at h
 |_::_,[],h=>by simp at h
theorem vi (h:Hi) (hs:h.state.length≤1000000000) (hl:h.l.length≤1000000000) (hx:∀x∈h.l,jJ x) (r:Fi)
  (hr:∀vis:List Nat,vis.Nodup→(∀i,i∈vis↔i<(bO h.l h.l.length).length)→yM h.l h.l.length (bO h.l h.l.length) (dm h.l h.l.length) vis=r) :
  ah ctx 18 [eA h] (.tup [.agg (cg (if bS h=true then r else zf)),.int .i64 (if bS h=true then 0 else 1)]):=by
 have f1:=aU h.state;have f2:=iw h.l;have hV:=sG h hs hl hx;cases hv:bS h with
 |false =>
  rw[hv]at hV;unfold eA gy aa bp at hV;rw[if_neg (by simp),if_neg (by simp)];refine aj (C:=ctx) (Fn.of Nw rfl) rfl ?_;unfold Kn;repeat' (first|((with_reducible show aI _);first|exact True.intro|(simp only[vb,lb];omega)|(simp only[vb,lb,f1,f2,hV];and_intros<;>first|omega|(simp<;>omega))|(simp[vb,f1,f2,hV]<;>omega))|((with_reducible show aP _);first|exact True.intro|((try dsimp only[go_sem]);first|(simp[vb,f1,f2,hV]<;>omega)|(simp only[vb,and_true,true_implies];(repeat' (first|(with_reducible assumption)|(with_reducible apply And.intro)|intro _|((fail_if_success (with_reducible show(_:Int)≤_));assumption)))<;>first|omega|rfl|(simp only[ab,f1,f2,hV];done)|(simp[Nat.mul_one,f1,f2,hV]<;>omega)|(simp_all;done))))|exact(rfl:some _=_)|((fail_if_success refine aZ ?_);refine lA [(41,fun _=>some (.bool false))] ?_;(repeat1' dsimp only[Kn,eA,gy,aa,bp,cg,zf,go_sem]);first|refine ba ?_ ?_ rfl ?_|apply bb|apply bf|(refine bg (fun hc=>?_) fun hc=>?_<;>first|(cases hc;done)|(exfalso;first|(simp at hc<;>omega)|(simp[f1,f2,hV]at hc;done))|(try simp only[bn]at hc;try contradiction))|skip))
 |true =>
  rw[hv]at hV;unfold eA gy aa bp at hV;rw[if_pos rfl,if_pos rfl];have ht:=ln hv;have hle:=tQ hv;have hkd:∀k,k<h.l.length→0≤(h.l.getD k zx).kind∧(h.l.getD k zx).kind≤9:=fun k hk=>by
   have hs:=ll hv k hk;simp only[fT,dF,Bool.and_eq_true,decide_eq_true_eq]at hs;omega
  clear hv;refine aj (C:=ctx) (Fn.of Nw rfl) rfl ?_;unfold Kn;repeat' (first|((with_reducible show aI _);first|exact True.intro|(simp only[vb,lb];omega)|(simp only[vb,lb,f1,f2,hV];and_intros<;>first|omega|(simp<;>omega))|(simp[vb,f1,f2,hV]<;>omega))|((with_reducible show aP _);first|exact True.intro|((try dsimp only[go_sem]);first|(simp[vb,f1,f2,hV]<;>omega)|(simp only[vb,and_true,true_implies];(repeat' (first|(with_reducible assumption)|(with_reducible apply And.intro)|intro _|((fail_if_success (with_reducible show(_:Int)≤_));assumption)))<;>first|omega|rfl|(simp only[ab,f1,f2,hV];done)|(simp[Nat.mul_one,f1,f2,hV]<;>omega)|(simp_all;done))))|exact(rfl:some _=_)|((fail_if_success refine aZ ?_);refine lA [(41,fun _=>some (.bool true))] ?_;(repeat1' dsimp only[Kn,eA,gy,aa,bp,go_sem]);first|refine ba ?_ ?_ rfl ?_|apply bb|apply bf|(refine bg (fun hc=>?_) fun hc=>?_<;>first|(cases hc;done)|(exfalso;first|(simp at hc<;>omega)|(simp[f1,f2,hV]at hc;done))|(try simp only[bn]at hc;try contradiction))|skip))
  ·simp[aI,bY,bP,bj,iL,eh]
  refine vY (σ:=Nat×AM×List Nat) (fun s=>s.1≤h.l.length∧oG h.l s.1 s.2.1 s.2.2) (fun s=>jo h s.1)
   (fun s=>firstM h s.1 s.2.1 s.2.2) (fun s=>h.l.length-s.1) (0,[],[]) ⟨Nat.zero_le _,oG.zero _⟩ (by unfold jo;(repeat' (first|exact trivial|refine And.intro (by first|rfl|(simp[get,Nat.beq]<;>omega)|(dsimp only[get];congr 1<;>first|rfl|omega|(simp<;>omega))) ?_))) rfl ?_
  rintro⟨k,T,ps⟩ ⟨hk,hI⟩;simp only at hk hI ⊢;by_cases hkn:k=h.l.length
  ·subst hkn;unfold jo firstM;iterate 5 first
    |refine⟨fun h=>by simp at h<;>omega,fun _=>?_⟩
    |refine⟨by simp[vb]<;>omega,by simp[vb]<;>omega,?_⟩
    |(refine bJ ?_;iterate 2 (try dsimp only[go_sem]))
   refine cK ?_;have hsl:∀a∈bO h.l h.l.length,a<h.l.length:=fun a ha=>(oH.mp ha).1
   have hN:(bO h.l h.l.length).length≤h.l.length:=by
    have:=uD h.l.length _ (vh h.l h.l.length) hsl;exact this
   refine wq (x:=5) (d0:=142) (d1:=143) (d2:=144) (d3:=145) (d4:=146) (d5:=147) (d6:=148) (d7:=13) (d8:=14) (m':=5) (ty:=92) (b:=3) (g:=0) (k:=mI (bO h.l h.l.length) ps)
    ⟨_,_,_,rfl,.inl rfl,rfl,rfl,rfl,rfl,rfl⟩ ⟨_,_,_,rfl,rfl,rfl,rfl,rfl,rfl,rfl⟩ ⟨_,_,_,_,_,_,rfl,rfl,rfl,rfl,rfl,rfl,rfl,rfl,rfl,rfl,.inr rfl,rfl,rfl,.inr rfl,rfl,rfl⟩
    (by decide) (by decide) ⟨3,95,by kernel_rfl⟩ rfl rfl rfl rfl (by decide) (by decide)
    (bO h.l h.l.length).length (fun j=>.pv (.int .i64 ((bO h.l h.l.length).getD j 0))) (fun j=>.ptr (ps.getD j 0+5) 0 0) (sH _ _ hI.len.symm)
    (fun _=>Kp) (fun vis=>cL h::dC zf::dC (yM h.l h.l.length (bO h.l h.l.length) (dm h.l h.l.length) vis)::{mI (bO h.l h.l.length) ps with frozen:=true}::ch::T) ?_ (by unfold Kp;(repeat' (first|exact trivial|refine And.intro (by first|rfl|(simp[get,Nat.beq]<;>omega)|(dsimp only[get];congr 1<;>first|rfl|omega|(simp<;>omega))) ?_))) rfl (fun _=>rfl) ?_ ?_
   ·intro vis p hp;simp only[Kp,List.mem_cons,List.not_mem_nil,or_false]at hp;rcases hp with rfl|rfl|rfl<;>simp
   ·intro vis j v hnd hlt hj hnv;have hb:=DR h.l ht _ hsl _ rfl vis hlt;have hvl:=uD _ vis hnd hlt;have hjs:(bO h.l h.l.length)[j]?=some ((bO h.l h.l.length).getD j 0):=by rw[List.getD,List.getElem?_eq_getElem hj];rfl
    have hjp:ps[j]?=some (ps.getD j 0):=by rw[List.getD,List.getElem?_eq_getElem (by rw[hI.len];exact hj)];rfl
    have hT:=hI.at_ j _ _ hjs hjp;have ha:=hsl _ (bX (d:=0) hj);have h1:=yN h.l ht ((bO h.l h.l.length).getD j 0) h.l.length (Nat.le_refl _);have h2:=ht _ (bX (d:=zx) ha);refine DP h _ _ T _ _ ha hl rfl hT (dC zf) {mI (bO h.l h.l.length) ps with frozen:=true} _ ?_ ⟨by omega,by omega⟩ v;obtain⟨a0,a1,a2,a3,a4,a5⟩:=hb;constructor<;>omega
   intro vis hnd hall;rw[hr vis hnd hall];show Aw _ _ _ _ _ _ _ _;unfold Kp;refine bJ ?_;dsimp only[dC,cg,List.map_cons,List.map_nil,zf,go_sem];try dsimp only[dC,cg,List.map_cons,List.map_nil,zf,go_sem]
   refine⟨(by simp[vb]<;>omega),(by simp[vb]<;>omega),?_⟩;refine bJ ?_;dsimp only[dC,cg,List.map_cons,List.map_nil,zf,go_sem];exact⟨by simp[aI],rfl⟩
  have hlt:k<h.l.length:=by omega
  obtain⟨k0,k9⟩:=hkd k hlt;refine yL h k T ps hlt hl k0 k9 hI fun f' T' ps' hs' hI'=>?_
  exact⟨(k+1,T',ps'),by simp only;omega,⟨by simp only;omega,hI'⟩,hs',rfl⟩
end
end Pur
end
section
namespace Pur
open Go.RowKit
section
open Tr
theorem xf (F:Ft) (tick:Int) (f:Fi):cy F tick f =
  (
   let g:=if F.e=true then {f with executed:=f.executed+1,ticks:=f.ticks+(F.t-tick),longest:=max f.longest (F.t-tick)} else if F.r=true then {f with refused:=f.refused+1} else {f with opn:=f.opn+1}
   if F.w=true then {g with waited:=g.waited+1} else g):=by
 unfold cy;rw[vf]
theorem Kq {f g:Fi} (h:f.submitted=g.submitted∧f.executed=g.executed∧f.refused=g.refused∧f.waited=g.waited∧f.opn=g.opn∧f.events=g.events∧f.deliveries=g.deliveries∧f.reads=g.reads∧f.waits=g.waits∧f.busy=g.busy∧f.crashes=g.crashes∧f.restarts=g.restarts∧f.full=g.full∧f.ticks=g.ticks∧f.longest=g.longest):f=g:=by
 obtain⟨h1,h2,h3,h4,h5,h6,h7,h8,h9,h10,h11,h12,h13,h14,h15⟩:=h;cases f;cases g;simp_all
theorem tU (F F':Ft) (t t':Int) (f:Fi):cy F t (cy F' t' f)=cy F' t' (cy F t f):=by
 simp only[xf];obtain⟨w,e,r,s,u⟩:=F;obtain⟨w',e',r',s',u'⟩:=F';refine Kq ?_;cases w<;>cases e<;>cases r<;>cases w'<;>cases e'<;>cases r'<;>simp<;>omega
def cR (p:Nat→Bool):Nat→Int
 |0=> -1
 |m+1=>if 0≤cR p m then cR p m else if p m=true then (m:Int) else -1
theorem mE (p:Nat→Bool):∀m,(∀i,i<m→p i=false)→cR p m= -1
 |0,_=>rfl
 |m+1,h=>by
  rw[cR,mE p m (fun i hi=>h i (by omega)),if_neg (by omega),h m (by omega)];rfl
theorem lq (p:Nat→Bool):∀m,-1≤cR p m
 |0=>by simp[cR]
 |m+1=>by
  have:=lq p m;rw[cR];split
  ·omega
  split<;>omega
def fp (l:List En) (k i:Nat):Bool:=decide ((l.getD i zx).kind=1)&&decide (gz l i i=k)
def gZ (l:List En) (k i:Nat):Bool:=fp l k i&&decide ((l.getD i zx).out.kind=0)
def jt (l:List En) (k i:Nat):Bool:=fp l k i&&decide ((l.getD i zx).out.kind=1)
theorem vj {l:List En} {k i:Nat} (h:i≤k):fp l k i=false:=by
 unfold fp;rcases lp l i with hz|⟨a,hz,ha,-⟩
 ·rw[hz,show decide ((-1:Int)=k)=false from decide_eq_false (by omega),Bool.and_false]
 rw[hz,show decide ((a:Int)=k)=false from decide_eq_false (by omega),Bool.and_false]
theorem xg (l:List En) (k:Nat):∀(m:Nat) (s:Int×Int×Int),ic l k m s=(if 0≤cR (fp l k) m then cR (fp l k) m else s.1,if 0≤cR (gZ l k) m then cR (gZ l k) m else s.2.1,if 0≤cR (jt l k) m then cR (jt l k) m else s.2.2)
 |0,s=>by simp[ic,cR]
 |m+1,s=>by
  rw[ic];by_cases hm:m≤k
  ·rw[if_pos hm,mE (fp l k) (m+1) (fun i hi=>vj (by omega)),mE (gZ l k) (m+1) (fun i hi=>by rw[gZ,vj (by omega)];rfl),mE (jt l k) (m+1) (fun i hi=>by rw[jt,vj (by omega)];rfl)];simp
  rw[if_neg hm,xg l k m,cR,cR,cR];by_cases hp:(l.getD m zx).kind=1∧gz l m m=k
  ·have h1:fp l k m=true:=by unfold fp;rw[decide_eq_true hp.1,decide_eq_true hp.2];rfl
   rw[if_pos hp,gZ,jt,h1];simp only[Bool.true_and,decide_eq_true_eq,if_true];refine Prod.ext ?_ (Prod.ext ?_ ?_)<;>simp only<;>repeat' split<;>first|rfl|omega
  have h1:fp l k m=false:=by
   rw[Bool.eq_false_iff];intro h;simp only[fp,Bool.and_eq_true,decide_eq_true_eq]at h;exact hp h
  rw[if_neg hp,gZ,jt,h1];simp only[Bool.false_and,Bool.false_eq_true,if_false];refine Prod.ext ?_ (Prod.ext ?_ ?_)<;>simp only<;>repeat' split<;>first|rfl|omega
structure DS (l:List En) (k m:Nat) (F:Ft):Prop where
 s:F.s=decide (0≤cR (fp l k) m)
 w:F.w=(decide (0≤cR (fp l k) m)&&decide ((l.getD (cR (fp l k) m).toNat zx).out.kind=2))
 e:F.e=decide (0≤cR (gZ l k) m)
 t:F.e=true→F.t=(l.getD (cR (gZ l k) m).toNat zx).tick
 r:F.r=decide (0≤cR (jt l k) m)
theorem xh (l:List En) (k:Nat):∀m:Nat,DS l k m (cE l k m)
 |0=>⟨rfl,rfl,rfl,(fun h=>Bool.noConfusion (show false=true from h)),rfl⟩
 |m+1=>by
  obtain⟨h1,h2,h3,h4,h5⟩:=xh l k m;have q1:cR (fp l k) (m+1)=if 0≤cR (fp l k) m then cR (fp l k) m else if fp l k m=true then (m:Int) else -1:=rfl
  have q2:cR (gZ l k) (m+1)=if 0≤cR (gZ l k) m then cR (gZ l k) m else if gZ l k m=true then (m:Int) else -1:=rfl
  have q3:cR (jt l k) (m+1)=if 0≤cR (jt l k) m then cR (jt l k) m else if jt l k m=true then (m:Int) else -1:=rfl
  rw[cE];by_cases hp:(l.getD m zx).kind=1∧gz l m m=k
  ·have ho:fp l k m=true:=by unfold fp;rw[decide_eq_true hp.1,decide_eq_true hp.2];rfl
   rw[if_pos hp];rw[gZ,ho,Bool.true_and]at q2;rw[jt,ho,Bool.true_and]at q3;rw[ho,if_pos rfl]at q1;generalize cE l k m=F at *;obtain⟨w,e,r,s,t⟩:=F;simp only at h1 h2 h3 h4 h5;subst h1 h2 h3 h5;obtain⟨x,hxm⟩:∃x,l.getD m zx=x:=⟨_,rfl⟩
   have hxm':l[m]?.getD zx=x:=by rw[←hxm,List.getD]
   rw[hxm]at q2 q3 ⊢;clear ho hp;refine⟨?_,?_,?_,?_,?_⟩
   ·simp only[jn,q1];symm;rw[decide_eq_true_eq];split<;>omega
   ·simp only[jn,q1];by_cases g:0≤cR (fp l k) m
    ·simp[g]
    simp[g,hxm']
   ·simp only[jn,q2];by_cases g:0≤cR (gZ l k) m
    ·simp[g]
    by_cases g2:x.out.kind=0<;>simp[g,g2]
   ·simp only[jn,q2];intro he;by_cases g:0≤cR (gZ l k) m
    ·simp only[g,decide_true,if_true]at h4 ⊢;simp[h4]
    by_cases g2:x.out.kind=0
    ·simp[g,g2,hxm']
    simp[g,g2]at he
   simp only[jn,q3];by_cases g:0≤cR (jt l k) m
   ·simp[g]
   by_cases g2:x.out.kind=1<;>simp[g,g2]
  have ho:fp l k m=false:=by
   rw[Bool.eq_false_iff];intro h;simp only[fp,Bool.and_eq_true,decide_eq_true_eq]at h;exact hp h
  rw[if_neg hp];have e1:cR (fp l k) (m+1)=cR (fp l k) m:=by
   rw[q1,ho];split
   ·rfl
   have:=lq (fp l k) m;simp;omega
  have e2:cR (gZ l k) (m+1)=cR (gZ l k) m:=by
   rw[q2,gZ,ho];split
   ·rfl
   have:=lq (gZ l k) m;simp;omega
  have e3:cR (jt l k) (m+1)=cR (jt l k) m:=by
   rw[q3,jt,ho];split
   ·rfl
   have:=lq (jt l k) m;simp;omega
  exact⟨by rw[e1];exact h1,by rw[e1];exact h2,by rw[e2];exact h3,by rw[e2];exact h4,by rw[e3];exact h5⟩
theorem Bp (l:List En) (k:Nat) (f:Fi):ve l k f=cy (cE l k l.length) (l.getD k zx).tick {f with submitted:=f.submitted+1}:=by
 obtain⟨h1,h2,h3,h4,h5⟩:=xh l k l.length;have g1:=lq (fp l k) l.length;have g2:=lq (gZ l k) l.length;have g3:=lq (jt l k) l.length;rw[xf];unfold ve;rw[xg];simp only;have s1:(if 0≤cR (fp l k) l.length then cR (fp l k) l.length else -1)=cR (fp l k) l.length:=by split<;>omega
 have s2:(if 0≤cR (gZ l k) l.length then cR (gZ l k) l.length else -1)=cR (gZ l k) l.length:=by split<;>omega
 have s3:(if 0≤cR (jt l k) l.length then cR (jt l k) l.length else -1)=cR (jt l k) l.length:=by split<;>omega
 rw[s1,s2,s3];generalize cE l k l.length=F at *;obtain⟨w,e,r,s,t⟩:=F;simp only at h1 h2 h3 h4 h5;generalize l.getD (cR (fp l k) l.length).toNat zx=y1 at *;generalize l.getD (cR (gZ l k) l.length).toNat zx=y2 at *;generalize l.getD k zx=y3 at *;generalize cR (fp l k) l.length=z1 at *;generalize cR (gZ l k) l.length=z2 at *;generalize cR (jt l k) l.length=z3 at *;by_cases c1:0≤z1∧y1.out.kind=2
 ·have hw:w=true:=by rw[h2];simp only[Bool.and_eq_true,decide_eq_true_eq];exact c1
  subst hw;by_cases c2:0≤z2
  ·have he:e=true:=by rw[h3];simpa using c2
   subst he;rw[h4 rfl];simp[c1,c2]
  have he:e=false:=by rw[h3];simpa using c2
  subst he;by_cases c3:0≤z3
  ·have hr:r=true:=by rw[h5];simpa using c3
   subst hr;simp[c1,c2,c3]
  have hr:r=false:=by rw[h5];simpa using c3
  subst hr;simp[c1,c2,c3]
 have hw:w=false:=by
  rw[h2,Bool.eq_false_iff];intro h;simp only[Bool.and_eq_true,decide_eq_true_eq]at h;exact c1 h
 subst hw;by_cases c2:0≤z2
 ·have he:e=true:=by rw[h3];simpa using c2
  subst he;rw[h4 rfl];simp[c1,c2]
 have he:e=false:=by rw[h3];simpa using c2
 subst he;by_cases c3:0≤z3
 ·have hr:r=true:=by rw[h5];simpa using c3
  subst hr;simp[c1,c2,c3]
 have hr:r=false:=by rw[h5];simpa using c3
 subst hr;simp[c1,c2,c3]
def pw (l:List En) (a:Nat) (f:Fi):Fi:=cy (cE l a l.length) (l.getD a zx).tick f
theorem sI (F:Ft) (t:Int) (f:Fi):({cy F t f with submitted:=(cy F t f).submitted+1}:Fi)=cy F t {f with submitted:=f.submitted+1}:=by
 obtain⟨w,e,r,s,u⟩:=F;cases w<;>cases e<;>cases r<;>rfl
theorem xi (F:Ft) (t:Int) (f:Fi):({cy F t f with events:=(cy F t f).events+1}:Fi)=cy F t {f with events:=f.events+1}:=by
 obtain⟨w,e,r,s,u⟩:=F;cases w<;>cases e<;>cases r<;>rfl
theorem pU (F:Ft) (t:Int) (f:Fi):({cy F t f with deliveries:=(cy F t f).deliveries+1}:Fi)=cy F t {f with deliveries:=f.deliveries+1}:=by
 obtain⟨w,e,r,s,u⟩:=F;cases w<;>cases e<;>cases r<;>rfl
theorem yO (F:Ft) (t:Int) (f:Fi):({cy F t f with reads:=(cy F t f).reads+1}:Fi)=cy F t {f with reads:=f.reads+1}:=by
 obtain⟨w,e,r,s,u⟩:=F;cases w<;>cases e<;>cases r<;>rfl
theorem yP (F:Ft) (t:Int) (f:Fi):({cy F t f with waits:=(cy F t f).waits+1}:Fi)=cy F t {f with waits:=f.waits+1}:=by
 obtain⟨w,e,r,s,u⟩:=F;cases w<;>cases e<;>cases r<;>rfl
theorem Bq (F:Ft) (t:Int) (f:Fi):({cy F t f with busy:=(cy F t f).busy+1}:Fi)=cy F t {f with busy:=f.busy+1}:=by
 obtain⟨w,e,r,s,u⟩:=F;cases w<;>cases e<;>cases r<;>rfl
theorem vk (F:Ft) (t:Int) (f:Fi):({cy F t f with crashes:=(cy F t f).crashes+1}:Fi)=cy F t {f with crashes:=f.crashes+1}:=by
 obtain⟨w,e,r,s,u⟩:=F;cases w<;>cases e<;>cases r<;>rfl
theorem tg (F:Ft) (t:Int) (f:Fi):({cy F t f with restarts:=(cy F t f).restarts+1}:Fi)=cy F t {f with restarts:=f.restarts+1}:=by
 obtain⟨w,e,r,s,u⟩:=F;cases w<;>cases e<;>cases r<;>rfl
theorem Br (F:Ft) (t:Int) (f:Fi):({cy F t f with full:=(cy F t f).full+1}:Fi)=cy F t {f with full:=f.full+1}:=by
 obtain⟨w,e,r,s,u⟩:=F;cases w<;>cases e<;>cases r<;>rfl
theorem DT (l:List En) (k:Nat) (F:Ft) (t:Int) (f:Fi):kg l k (cy F t f)=cy F t (kg l k f):=by
 unfold kg;simp only;generalize l.getD k zx=x;by_cases h0:x.kind=0
 ·rw[if_pos h0,if_pos h0];exact sI F t f
 rw[if_neg h0,if_neg h0];by_cases h2:x.kind=2
 ·rw[if_pos h2,if_pos h2];by_cases hr:x.ev.rep=x.rep
  ·rw[if_pos hr,if_pos hr];exact xi F t f
  rw[if_neg hr,if_neg hr];exact pU F t f
 rw[if_neg h2,if_neg h2];by_cases h3:x.kind=3
 ·rw[if_pos h3,if_pos h3];exact yO F t f
 rw[if_neg h3,if_neg h3];by_cases h4:x.kind=4
 ·rw[if_pos h4,if_pos h4];exact yP F t f
 rw[if_neg h4,if_neg h4];by_cases h9:x.kind=9
 ·rw[if_pos h9,if_pos h9];exact Bq F t f
 rw[if_neg h9,if_neg h9];by_cases h5:x.kind=5
 ·rw[if_pos h5,if_pos h5];exact vk F t f
 rw[if_neg h5,if_neg h5];by_cases h6:x.kind=6
 ·rw[if_pos h6,if_pos h6];exact tg F t f
 rw[if_neg h6,if_neg h6];by_cases h8:x.kind=8
 ·rw[if_pos h8,if_pos h8];exact Br F t f
 rw[if_neg h8,if_neg h8]
theorem tV (l:List En) (k:Nat):∀(ss:List Nat) (g:Fi),kg l k (ss.foldr (pw l) g)=ss.foldr (pw l) (kg l k g)
 |[],_=>rfl
 |a::ss,g=>by
  rw[List.foldr_cons,List.foldr_cons,pw,DT,tV l k ss g];rfl
theorem sJ (l:List En) (a:Nat):∀(ss:List Nat) (g:Fi),pw l a (ss.foldr (pw l) g)=ss.foldr (pw l) (pw l a g)
 |[],_=>rfl
 |b::ss,g=>by
  rw[List.foldr_cons,List.foldr_cons,←sJ l a ss g];exact tU _ _ _ _ _
theorem DU (l:List En) (k:Nat) (f:Fi):addN l k f=if (l.getD k zx).kind=0 then pw l k (kg l k f) else kg l k f:=by
 unfold addN kg;simp only;split
 ·rw[Bp];rfl
 rfl
theorem nv (l:List En):∀k:Nat,gT l k=(bO l k).foldr (pw l) (dm l k)
 |0=>rfl
 |k+1=>by
  rw[gT,nv l k,DU,eH,tV,dm];split
  ·rw[List.foldr_append,sJ];rfl
  rfl
theorem sK (l:List En) (ss:List Nat) (g:Fi):∀vis:List Nat,yM l l.length ss g vis=vis.foldr (fun j f=>pw l (ss.getD j 0) f) g
 |[]=>rfl
 |j::vis=>by rw[yM,List.foldr_cons,sK l ss g vis];rfl
theorem FI (l:List En) (vis:List Nat) (hnd:vis.Nodup) (hall:∀i,i∈vis↔i<(bO l l.length).length):yM l l.length (bO l l.length) (dm l l.length) vis=gT l l.length:=by
 rw[sK,nv];generalize bO l l.length=ss at *;have hp:vis.Perm (List.range ss.length):=(List.perm_ext_iff_of_nodup hnd List.nodup_range).mpr fun i=>by rw[hall,List.mem_range]
 have hf:∀(a b:List Nat),a.Perm b→∀g:Fi,a.foldr (fun j f=>pw l (ss.getD j 0) f) g=b.foldr (fun j f=>pw l (ss.getD j 0) f) g:=by
  intro a b hab;induction hab with
  |nil=>intro g;rfl
  |cons x _ ih=>intro g;rw[List.foldr_cons,List.foldr_cons,ih]
  |swap x y r=>intro g;exact tU _ _ _ _ _
  |trans _ _ ih1 ih2=>intro g;rw[ih1,ih2]
 rw[hf _ _ hp];have hm:(List.range ss.length).map (fun j=>ss.getD j 0)=ss:=by
  refine List.ext_getElem (by simp) fun i h1 h2=>?_
  simp[List.getD,List.getElem?_eq_getElem h2]
 conv=>rhs;rw[←hm]
 rw[List.foldr_map]
theorem nw (h:Hi) (hs:h.state.length≤1000000000) (hl:h.l.length≤1000000000) (hx:∀x∈h.l,jJ x):ah ctx 18 [eA h] (.tup [.agg (gU (if bS h=true then gT h.l h.l.length else zf)),.int .i64 (if bS h=true then 0 else 1)]) :=
 vi h hs hl hx _ fun vis hnd hall=>FI h.l vis hnd hall
end
end Pur
end
section
namespace Pur
open Go.RowKit
section
open Tr
def Nx:af:=(⟨_,by conv=>(lhs;reduce;try simp only[bD,Int.cast_ofNat_Int,Int.reduceNegSucc,UInt8.reduceOfNat])⟩:{x // codeOf Tryz.prog 14 (fun _=>false)=some x}).1
theorem OS:aD Tryz.prog 14 (fun _=>false)=some (Nx,[.t 4],26,true):=by kernel_rfl
theorem DV (l:List (List UInt8)):(l.map PV.str).length=l.length:=by simp
theorem FJ (l:List (List UInt8)) (k:Nat) (h:k<l.length):(l.map PV.str)[k]?=some (.str (l.getD k [])):=by
 simp[List.getD,List.getElem?_eq_getElem h]
theorem zR (a:List (List UInt8)) (ha:a.length≤1000000000):ah ctx 14 [gS a,gS a] (.bool true):=by
 have f1:=DV a;refine aj (C:=ctx) (Fn.of OS rfl) rfl ?_;unfold Nx;repeat' (first|((with_reducible first|show aI _|show aP _);simp[vb]<;>omega)|exact(rfl:some _=_)|((fail_if_success refine aZ ?_);refine bJ ?_;(repeat1' dsimp only[Nx,gS,go_sem]);first|refine ba ?_ ?_ rfl ?_|apply bb|apply bf|(refine bg (fun hc=>?_) fun hc=>?_<;>first|(cases hc;done)|(exfalso;simp at hc<;>omega)|(try simp only[bn]at hc;try contradiction))|skip))
 refine de a.length (fun k=>True) (fun k=>[(0,.pv (gS a)),(1,.pv (gS a)),(12,.pv (.int .i64 a.length)),(13,.pv (.int .i64 k))]) (fun _=>[]) trivial (by (repeat' (first|exact trivial|refine And.intro (by first|rfl|(simp[get,Nat.beq]<;>omega)|(dsimp only[get];congr 1<;>first|rfl|omega|(simp<;>omega))) ?_))) ⟨[],rfl⟩ (fun _=>⟨Nat.zero_le _,rfl,rfl⟩) fun k hk hP=>?_
 by_cases hlt:k<a.length
 ·have e1:=FJ a k hlt;generalize a.getD k []=x at *;repeat' (first|((with_reducible show aI _);first|exact True.intro|(simp only[vb,lb];omega)|(simp only[vb,lb,e1,f1,hlt];and_intros<;>first|omega|(simp<;>omega))|(simp[vb,e1,f1,hlt]<;>omega))|((with_reducible show aP _);first|exact True.intro|((try dsimp only[go_sem]);first|(simp[vb,e1,f1,hlt]<;>omega)|(simp only[vb,and_true,true_implies];(repeat' (first|(with_reducible assumption)|(with_reducible apply And.intro)|intro _|((fail_if_success (with_reducible show(_:Int)≤_));assumption)))<;>first|omega|rfl|(simp only[ab,e1,f1,hlt];done)|(simp[Nat.mul_one,e1,f1,hlt]<;>omega)|(simp_all;done))))|exact(rfl:some _=_)|((fail_if_success refine aZ ?_);refine cu [ξ 19 (.str x),ξ 23 (.str x)] ?_;(repeat1' dsimp only[Nx,gS,go_sem]);first|refine ba ?_ ?_ rfl ?_|apply bb|apply bf|(refine bg (fun hc=>?_) fun hc=>?_<;>first|(cases hc;done)|(exfalso;first|(simp at hc<;>omega)|(simp[e1,f1,hlt]at hc;done))|(try simp only[bn]at hc;try contradiction))|skip))
  exact⟨hlt,trivial,by (repeat' (first|exact trivial|refine And.intro (by first|rfl|(simp[get,Nat.beq]<;>omega)|(dsimp only[get];congr 1<;>first|rfl|omega|(simp<;>omega))) ?_)),_,rfl⟩
 obtain rfl:k=a.length:=by omega
 repeat' (first|((with_reducible show aI _);first|exact True.intro|(simp only[vb,lb];omega)|(simp only[vb,lb,hlt];and_intros<;>first|omega|(simp<;>omega))|(simp[vb,hlt]<;>omega))|((with_reducible show aP _);first|exact True.intro|((try dsimp only[go_sem]);first|(simp[vb,hlt]<;>omega)|(simp only[vb,and_true,true_implies];(repeat' (first|(with_reducible assumption)|(with_reducible apply And.intro)|intro _|((fail_if_success (with_reducible show(_:Int)≤_));assumption)))<;>first|omega|rfl|(simp only[ab,hlt];done)|(simp[Nat.mul_one,hlt]<;>omega)|(simp_all;done))))|exact(rfl:some _=_)|((fail_if_success refine aZ ?_);refine bJ ?_;(repeat1' dsimp only[Nx,gS,go_sem]);first|refine ba ?_ ?_ rfl ?_|apply bb|apply bf|(refine bg (fun hc=>?_) fun hc=>?_<;>first|(cases hc;done)|(exfalso;first|(simp at hc<;>omega)|(simp[hlt]at hc;done))|(try simp only[bn]at hc;try contradiction))|skip))
theorem xj:∀(l:List (List Int)) (v:List Int),v∈l→v.length≤(l.flatMap an).length
 |a::l,v,h=>by
  rw[List.flatMap_cons,List.length_append];rcases List.mem_cons.mp h with h|h
  ·subst h;simp only[an,List.length_cons];omega
  have:=xj l v h;omega
theorem sL:∀(l:List (List Int)),l.length≤(l.flatMap an).length
 |[]=>by simp
 |a::l=>by
  rw[List.flatMap_cons,List.length_append,List.length_cons];have:=sL l;simp only[an,List.length_cons];omega
theorem DW (x:En):(cf x).length≤(bV x).length:=by
 unfold cf bV;simp only[List.length_append];(repeat' split)<;>simp<;>omega
theorem zS (x:En) (h:(bV x).length≤200):jJ x:=by
 have hf:=DW x;have e1:∀l:List Nd,(l.flatMap bu).length=l.length*4:=fun l=>by induction l with
  |nil=>rfl
  |cons a l ih=>rw[List.flatMap_cons,List.length_append,ih];simp[bu];omega
 have e2:∀l:List Qu,(l.flatMap pP).length=l.length*2:=fun l=>by induction l with
  |nil=>rfl
  |cons a l ih=>rw[List.flatMap_cons,List.length_append,ih];simp[pP];omega
 have e3:=sL x.vals;have e4:=xj x.vals;have e5:=e1 x.out.needs;have e6:=e2 x.qs;have e7:∀n:Nd,(bu n).length=4:=fun _=>rfl
 have e8:∀l:List Int,(an l).length=l.length+1:=fun l=>by simp[an]
 have h':=h;unfold bV bT eQ cx bA at h';simp only[List.length_append,List.length_cons,List.length_nil,e5,e6,e7,e8]at h';refine⟨by omega,by omega,by omega,by omega,fun v hv=>?_,by omega,?_⟩
 ·have:=e4 v hv;omega
 rw[bz];simp only[List.length_append,List.length_cons,List.length_nil];omega
theorem FK {f:Fi} {k:Nat} (h:BF f k) (hk:k≤1000000):pI f :=
 ⟨fun n hn=>by have:=h n hn;omega,fun n hn=>by have:=h n hn;omega⟩
theorem xk {h:Hi} {m:Int} (hs:kU h m=true):∀x∈h.l,jJ x:=fun x hx=>by
 simp only[kU,Cu,Bool.and_eq_true]at hs;exact zS x (of_decide_eq_true (List.all_eq_true.mp hs.1.1 x hx))
theorem tW {h:Hi} {m:Int} (hs:kU h m=true):(h.l.length:Int)≤m:=by
 simp only[kU,Bool.and_eq_true]at hs;exact of_decide_eq_true hs.1.2
def Kr:List bx:=[
 ⟨(some 2),.box 38 (.t 0) 4,none⟩,
 ⟨(some 3),.box 49 (.t 1) 15,none⟩,
 ⟨(some 4),.mv (.c (.bool false)),none⟩]
def Ks:List bx:=[
 ⟨(some 9),.call 8 [],none⟩,
 ⟨(some 10),.un .not (.t 9),none⟩]
def Kt:List bx:=[
 ⟨(some 4),.mv (.c (.bool false)),none⟩]
def Ku:List bx:=[
 ⟨(some 11),.load (.t 2) 4 true,none⟩,
 ⟨(some 12),.call 17 [(.t 11),(.c (.int .i64 40))],none⟩,
 ⟨(some 13),.un .not (.t 12),none⟩]
def Kv:List bx:=[
 ⟨(some 4),.mv (.c (.bool true)),none⟩]
def Kw:List bx:=[
 ⟨(some 15),.load (.t 2) 4 true,none⟩,
 ⟨(some 16),.call 18 [(.t 15)],none⟩,
 ⟨(some 14),.mv (.t 16),none⟩,
 ⟨(some 17),.extract (.t 14) 0,none⟩,
 ⟨(some 18),.extract (.t 14) 1,none⟩,
 ⟨(some 5),.alloc 49 [(.int .i64 0),(.int .i64 0),(.int .i64 0),(.int .i64 0),(.int .i64 0),(.int .i64 0),(.int .i64 0),(.int .i64 0),(.int .i64 0),(.int .i64 0),(.int .i64 0),(.int .i64 0),(.int .i64 0),(.int .i64 0),(.int .i64 0)],none⟩,
 ⟨none,.store (.t 5) (.t 17) 15,none⟩,
 ⟨(some 6),.mv (.t 18),none⟩]
def Kx:List bx:=[
 ⟨(some 20),.load (.t 2) 4 true,none⟩,
 ⟨(some 21),.call 19 [(.t 20)],none⟩,
 ⟨(some 19),.mv (.t 21),none⟩,
 ⟨(some 22),.extract (.t 19) 0,none⟩,
 ⟨(some 23),.extract (.t 19) 1,none⟩,
 ⟨(some 7),.alloc 49 [(.int .i64 0),(.int .i64 0),(.int .i64 0),(.int .i64 0),(.int .i64 0),(.int .i64 0),(.int .i64 0),(.int .i64 0),(.int .i64 0),(.int .i64 0),(.int .i64 0),(.int .i64 0),(.int .i64 0),(.int .i64 0),(.int .i64 0)],none⟩,
 ⟨none,.store (.t 7) (.t 22) 15,none⟩,
 ⟨(some 8),.mv (.t 23),none⟩]
def Ky:List bx:=[
 ⟨(some 24),.mv (.t 6),none⟩,
 ⟨(some 25),.mv (.t 8),none⟩,
 ⟨(some 26),.bin .eql (.t 24) (.t 25),none⟩,
 ⟨(some 27),.mv (.t 26),none⟩,
 ⟨(some 28),.load (.t 5) 15 true,some (27,true)⟩,
 ⟨(some 29),.load (.t 7) 15 true,some (27,true)⟩,
 ⟨(some 30),.eqA false [(0,0),(1,0),(2,0),(3,0),(4,0),(5,0),(6,0),(7,0),(8,0),(9,0),(10,0),(11,0),(12,0),(13,0),(14,0)] (.t 28) (.t 29),some (27,true)⟩,
 ⟨(some 31),.pick (.t 27) (.t 30) (.c (.bool false)),none⟩,
 ⟨(some 32),.mv (.t 31),none⟩,
 ⟨(some 33),.load (.t 3) 15 true,some (32,true)⟩,
 ⟨(some 34),.call 20 [(.t 33)],some (32,true)⟩,
 ⟨(some 35),.load (.t 3) 15 true,some (32,true)⟩,
 ⟨(some 36),.call 21 [(.t 35)],some (32,true)⟩,
 ⟨(some 37),.call 14 [(.t 34),(.t 36)],some (32,true)⟩,
 ⟨(some 38),.pick (.t 32) (.t 37) (.c (.bool false)),none⟩,
 ⟨(some 39),.mv (.t 38),none⟩,
 ⟨(some 40),.load (.t 5) 15 true,some (39,true)⟩,
 ⟨(some 41),.call 20 [(.t 40)],some (39,true)⟩,
 ⟨(some 42),.load (.t 5) 15 true,some (39,true)⟩,
 ⟨(some 43),.call 21 [(.t 42)],some (39,true)⟩,
 ⟨(some 44),.call 14 [(.t 41),(.t 43)],some (39,true)⟩,
 ⟨(some 45),.pick (.t 39) (.t 44) (.c (.bool false)),none⟩,
 ⟨(some 4),.mv (.t 45),none⟩]
def c5:af:=(.seq (.region false Kr) (.seq (.seq (.region false Ks) (.cond (.t 10) (.seq (.region false Kt) .ret) .skip)) (.seq (.seq (.region false Ku) (.cond (.t 13) (.seq (.region false Kv) .ret) .skip)) (.seq (.region false Kw) (.seq (.region false Kx) (.seq (.region true Ky) .ret))))))
theorem O1:aD Tryz.prog 5 (fun _=>false)=some (c5,[.t 4],46,true):=by kernel_rfl
theorem yQ (hA:ah ctx 8 [] (.bool true)) (h:Hi) (f:Fi) (hw:∀x∈h.l,zK x) (hs:h.state.length≤1000000000) (hl:h.l.length≤1000000000) (hf:pI f):ah ctx 5 [eA h,.agg (gU f)] (.bool true):=by
 have f1:=aU h.state;have f2:=bW aR h.l;have x1:=sC h 40 hw hl;cases hb:kU h 40 with
 |false =>
  rw[hb]at x1;refine aj (C:=ctx) (Fn.of O1 rfl) rfl ?_;unfold c5;repeat' (first|((with_reducible show aI _);first|exact True.intro|(simp only[vb,lb];omega)|(simp only[vb,lb,hA,x1,f1,f2];and_intros<;>first|omega|(simp<;>omega))|(simp[vb,hA,x1,f1,f2]<;>omega))|((with_reducible show aP _);first|exact True.intro|((try dsimp only[go_sem]);first|(simp[vb,hA,x1,f1,f2]<;>omega)|(simp only[vb,and_true,true_implies];(repeat' (first|(with_reducible assumption)|(with_reducible apply And.intro)|intro _|((fail_if_success (with_reducible show(_:Int)≤_));assumption)))<;>first|omega|rfl|(simp only[ab,hA,x1,f1,f2];done)|(simp[Nat.mul_one,hA,x1,f1,f2]<;>omega)|(simp_all;done))))|exact(rfl:some _=_)|((fail_if_success refine aZ ?_);refine lA [(8,fun _=>some (.bool true)),(17,fun _=>some (.bool false))] ?_;(repeat1' dsimp only[c5,Kr,Ks,Kt,Ku,Kv,Kw,Kx,Ky,eA,gy,aa,bp,gU,aW,go_sem]);first|refine ba ?_ ?_ rfl ?_|apply bb|apply bf|(refine bg (fun hc=>?_) fun hc=>?_<;>first|(cases hc;done)|(exfalso;first|(simp at hc<;>omega)|(simp[hA,x1,f1,f2]at hc;done))|(try simp only[bn]at hc;try contradiction))|skip))
 |true =>
  rw[hb]at x1;have x2:=nw h hs hl (xk hb);have x3:=vg h hw hs hl;have hn:=tW hb;obtain⟨g,hg⟩:∃g,g=if bS h=true then gT h.l h.l.length else zf:=⟨_,rfl⟩
  obtain⟨e,he⟩:∃e:Int,e=if bS h=true then 0 else 1:=⟨_,rfl⟩
  rw[←hg,←he]at x2 x3;have hgk:pI g:=by
   rw[hg];split
   ·rename_i hv;exact FK (qm h.l (ln hv) ((fun i j=>jm hv i j)) _ (Nat.le_refl _)) (by omega)
   refine⟨?_,?_⟩<;>rw[fU]<;>simp[zf]
  clear hg;have x4:=pt f hf;have x5:=oE f hf;have x6:=pt g hgk;have x7:=oE g hgk;have l1:(eC f).length≤1000000000:=by simp[eC,C7]
  have l2:(eC g).length≤1000000000:=by simp[eC,C7]
  have x8:=zR (eC f) l1;have x9:=zR (eC g) l2;generalize eC f=rf at *;generalize eC g=rg at *;refine aj (C:=ctx) (Fn.of O1 rfl) rfl ?_;unfold c5;repeat' (first|((with_reducible show aI _);first|exact True.intro|(simp only[vb,lb];omega)|(simp only[vb,lb,hA,x1,f1,f2,x2,x3,x4,x5,x6,x7,x8,x9];and_intros<;>first|omega|(simp<;>omega))|(simp[vb,hA,x1,f1,f2,x2,x3,x4,x5,x6,x7,x8,x9]<;>omega))|((with_reducible show aP _);first|exact True.intro|((try dsimp only[go_sem]);first|(simp[vb,hA,x1,f1,f2,x2,x3,x4,x5,x6,x7,x8,x9]<;>omega)|(simp only[vb,and_true,true_implies];(repeat' (first|(with_reducible assumption)|(with_reducible apply And.intro)|intro _|((fail_if_success (with_reducible show(_:Int)≤_));assumption)))<;>first|omega|rfl|(simp only[ab,hA,x1,f1,f2,x2,x3,x4,x5,x6,x7,x8,x9];done)|(simp[Nat.mul_one,hA,x1,f1,f2,x2,x3,x4,x5,x6,x7,x8,x9]<;>omega)|(simp_all;done))))|exact(rfl:some _=_)|((fail_if_success refine aZ ?_);refine dS [(8,fun _=>some (.bool true)),(17,fun _=>some (.bool true)),(18,fun _=>some (.tup [.agg (gU g),.int .i64 e])),(19,fun _=>some (.tup [.agg (gU g),.int .i64 e]))] [ξ 34 (gS rf),ξ 36 (gS rf),ξ 37 (.bool true),ξ 41 (gS rg),ξ 43 (gS rg),ξ 44 (.bool true)] ?_;(repeat1' dsimp only[c5,Kr,Ks,Kt,Ku,Kv,Kw,Kx,Ky,eA,gy,aa,bp,gU,aW,gS,go_sem]);first|refine ba ?_ ?_ rfl ?_|apply bb|apply bf|(refine bg (fun hc=>?_) fun hc=>?_<;>first|(cases hc;done)|(exfalso;first|(simp at hc<;>omega)|(simp[hA,x1,f1,f2,x2,x3,x4,x5,x6,x7,x8,x9]at hc;done))|(try simp only[bn]at hc;try contradiction))|skip))
  simp
end
end Pur
end
end Go.Proofs.YtfgcmogbdcifeaaGreatDoor