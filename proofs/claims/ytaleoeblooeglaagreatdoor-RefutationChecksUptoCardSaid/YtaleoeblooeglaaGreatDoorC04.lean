/-
  RefutationChecks: both libraries check alike, for any system and tree whose bulk is at most 1048576 (the tables laid); names shortened by a program (RfPa RfG RfM RfY RfH RfZ RfZA RfMA RfG2 RfG3 RfI RfZB RfMB RfPb RfMC RfAx RfAy RfMD RfG4)
-/
import Derived.Test.YtaleoeblooeglaaGreatDoorC03
import Derived.WalkKit
import Derived.Tactics
import Derived.Tactics2
import Derived.Defers
import Derived.Recover
import Derived.Lib.ItoaLen
set_option maxRecDepth 10000
set_option linter.unusedSimpArgs false
set_option linter.unusedVariables false
namespace Go.Proofs.YtaleoeblooeglaaGreatDoor
section
namespace Pur
open Go.RowKit
attribute [local go_sem] bG eW bN bu dt fP List.map a8 aH get put tmpsOf dD iL gy im conds ev cond_true cond_false Nat.beq Nat.ble Nat.add quiet dE cB cC ox List.append_eq List.nil_append List.cons_append dC cf cg cj ck cp cu eV eQ di iN dB calm quiet.isCallK cF List.getElem?_cons_zero List.getElem?_cons_succ bk bW cellsOf List.all bA List.length_cons List.length_nil eI bc List.drop List.take List.getD Option.getD_some qc qd pz qe qf qg ef fZ eg eh setAt List.set Nat.reduceAdd Nat.reduceMul cx bq refsOf bD bJ scalar cw dZ bT cv aM after freeze gV gF aS dm dK dd ew cR cS bZ cT cU cX cY cZ c6 c7 c8 da db dc b6 b7 b8 dj iO bytesOf bE cM aR bB dP bw bO cG still bM dY du dR bL ey List.isEmpty b9 ca cd Int.reduceToNat Nat.mul_one Nat.reduceSub nY cN bY dL cE look dM strip guarded fC eA eH cL dQ dk gP cV cW Bool.or_false Bool.or_true Bool.and_true Bool.and_false Nat.blt fQ fq fU dG idxOf gG gH iM eT aM my
section
open Rf
theorem yx (p q:Value) (w:World) :
  CallsD Tryz.prog 54 #[p,q] .returning w fun e u' w'=>e= .returned (.tuple #[])∧u'= .returning∧w'=w:=by
 refine callsD_of_wpS Tryz.func54 rfl fun c₀ cs hu=>?_
 apply wpS_seq;apply wpS_region;simp[wpOpsS,go_sem,recoverD,hu,Tryz.ntmps54,Exit.thenS];refine wpS_of_wp ?_;go_wp2
 cases c₀;simp_all [bodyPostS,results,Tryz.results54]
def vd:Code→List Nat→Code
 | .seq a _,0::l=>vd a l
 | .seq _ b,_::l=>vd b l
 | .cond _ a _,0::l=>vd a l
 | .cond _ _ b,_::l=>vd b l
 | .block _ a,_::l=>vd a l
 | .loop a,_::l=>vd a l
 |x,_=>x
def yy (P:Program) (f:FuncId):Code:=match P.funcs[f]? with
 |some fn=>match fn.body with
  |some c=>c
  |none=>.skip
 |none=>.skip
def no:Nat→Bool:=fun _=>false
def F4:az:=(⟨_,by conv=>(lhs;reduce;try simp only[ei,Int.cast_ofNat_Int,Int.reduceNegSucc,UInt8.reduceOfNat])⟩:{x // comp Tryz.prog no 12 (vd (yy Tryz.prog 54) [1,0,1,1,1,0,1])=some x}).1
theorem F5:comp Tryz.prog no 12 (vd (yy Tryz.prog 54) [1,0,1,1,1,0,1])=some F4:=by kernel_rfl
def gY (n:Int):fF:=⟨[.pv (.int .i64 n)],0,1,39,false⟩
def Gy (a b c d e:PV):fF:=⟨[.pv a,.pv b,.pv c,.pv d,.pv e],0,5,25,false⟩
theorem Ek (a b c d e:PV) (n:Int):Aw ctx no 12 2 F4 (fun e _ μ=>e= .normal∧∃junk,μ=[bf,gY 3]++junk) [(0,.ptr 0 0 0),(1,.ptr 1 0 0)] [Gy a b c d e,gY n]:=by
 unfold F4;refine a7 ?_;dsimp only[Gy,gY,go_sem];try dsimp only[Gy,gY,go_sem]
 refine⟨(by simp[vb]<;>omega),(by simp[vb]<;>omega),?_⟩;exact⟨rfl,[],rfl⟩
theorem Wd.more {C:Ctx} {w0 w w':World} {S:Nat→Prop} {γ:Gh} {μ:AM} (hW:Wd C w0 S γ μ w) (hb:Below w.heap.size w w'):Ext w S γ w' S γ∧Wd C w0 S γ μ w':=by
 have hE:Ext w S γ w' S γ:=⟨⟨fun _ h=>h,fun g hg=>hb.block g (hW.live g hg)⟩,fun _ e h=>⟨e,h,Nat.le_refl _,fun _=>rfl⟩,fun _ h=>.inl h,fun b e h=>.inl ⟨b,e,h,rfl⟩,hb.size,fun g hg _=>hb.block g hg⟩
 exact⟨hE,hW.mem.stay hE.z (fun b e _ hlt=>hb.block _ hlt) (fun _ _ _ _ _ _ _ h=>h),hW.below.trans (hb.mono hW.below.size),fun g hg=>Nat.lt_of_lt_of_le (hW.live g hg) hb.size,hW.env⟩
theorem wT {w0 w:World} {S:Nat→Prop} {γ:Gh} (p q:Value) (a b c d e:PV) (n:Int) (hW:Wd ctx w0 S γ [Gy a b c d e,gY n] w) (hp:VR w S γ (.ptr 0 0 0) p) (hq:VR w S γ (.ptr 1 0 0) q) :
  CallsD Tryz.prog 54 #[p,q] (.panicking Pur.dy) w fun e u' w'=>e= .returned (.tuple #[])∧u'= .panicking [{v:=.iface 84 (.agg #[]),recovered:=true}]∧∃S' γ' junk,Ext w S γ w' S' γ'∧Wd ctx w0 S' γ' ([bf,gY 3]++junk) w':=by
 refine callsD_of_wpS Tryz.func54 rfl fun c₀ cs hu=>?_
 apply wpS_seq;apply wpS_region;simp[wpOpsS,go_sem,recoverD,hu,Tryz.ntmps54,Exit.thenS,Pur.dy];refine wpS_of_wp ?_;have hta:∀w:World,(Instr.typeAssert (.iface 84 (.agg #[])) 20 84 true).run Tryz.prog w= .ok (.tuple #[.agg #[],.bool true]) w:=fun _=>by kernel_rfl
 iterate 19 (go_step<;>try go_simp)
 refine wp_cond_true rfl ?_;iterate 8 (go_step<;>try go_simp)
 obtain⟨hE1,hW1⟩:=hW.more (w':=w.alloc (.cells #[] 84)) ((Below.refl _ w).alloc (Nat.le_refl _) _);refine wp_mono (Ek a b c d e n _ F5 w0 S γ _ _ hW1 ⟨by simp,rfl,fun t=>?_⟩) fun ex a' w' hh=>?_
 ·match t with
  |0=>simpa [Act.eval,get,Nat.beq]using hp.ext hE1
  |1=>simpa [Act.eval,get,Nat.beq]using hq.ext hE1
  |t+2=>exact .any _
 ·obtain⟨S',γ',f',μ',g1,g2,g3,rfl,junk,rfl⟩:=hh;refine⟨g3.defers,_,rfl,.tuple #[],by simp[results,Tryz.results54],rfl,rfl,S',γ',?_,junk,g2⟩;refine hE1.trans ⟨g1.stay,fun b e hb=>g1.gh b e ?_ hb,g1.more,g1.cbs,g1.size,g1.frame⟩;exact Nat.lt_of_not_le fun h=>by rw[hW1.mem.none b (by simpa using h)]at hb;cases hb
end
section
open Rf
def c85:az:=(⟨_,by conv=>(lhs;reduce;try simp only[ei,Int.cast_ofNat_Int,Int.reduceNegSucc,UInt8.reduceOfNat])⟩:{x // codeOf Tryz.prog 85 (fun _=>false)=some x}).1
theorem kD (n:Int) (h0: -10000000000≤n) (h1:n≤10000000000):(Lib.itoa n).length≤21:=by
 have hl:=Lib.decDigits_length n.natAbs;have hl2:=Lib.nDigits_le20 n.natAbs (by omega);unfold Lib.itoa;split
 ·rw[List.length_cons];omega
 ·rw[show n.toNat=n.natAbs by omega];omega
end
end Pur
end
section
namespace Rf
def jV {α:Type} (p:α→Bool) (l:List α):Int:=match l.findIdx? p with
 |some i=>i
 |none=> -1
theorem o6 {α:Type} (p:α→Bool) (l:List α) (k:Nat) (d:α) (hk:k<l.length) (h:(l.take k).all (fun x=>!p x)=true) (hp:p (l.getD k d)=true):jV p l=k:=by
 have:l.findIdx? p=some k:=by
  rw[List.findIdx?_eq_some_iff_getElem];refine⟨hk,by rw[List.getD,List.getElem?_eq_getElem hk]at hp;exact hp,fun j hj=>?_⟩;have:=List.all_eq_true.mp h (l[j]'(by omega)) (by
   rw[List.mem_take_iff_getElem];exact⟨j,by omega,rfl⟩)
  simpa using this
 rw[jV,this]
theorem nj {α:Type} (p:α→Bool) (l:List α) (h:l.all (fun x=>!p x)=true):jV p l= -1:=by
 have:l.findIdx? p=none:=by
  rw[List.findIdx?_eq_none_iff];intro x hx;have:=List.all_eq_true.mp h x hx;simpa using this
 rw[jV,this]
theorem qN {α:Type} (p:α→Bool) (l:List α):decide (0≤jV p l)=l.any p:=by
 cases h:l.findIdx? p with
 |none =>
  rw[List.findIdx?_eq_none_iff]at h;have:l.any p=false:=List.any_eq_false.mpr fun x hx=>by rw[h x hx];simp
  rw[this,jV,List.findIdx?_eq_none_iff.mpr h];rfl
 |some i =>
  rw[jV,h];rw[List.findIdx?_eq_some_iff_getElem]at h;obtain⟨h1,h2,-⟩:=h;rw[show l.any p=true from List.any_eq_true.mpr ⟨_,List.getElem_mem h1,h2⟩];simp
end Rf
namespace Pur
open Go.RowKit
attribute [local go_sem] bG eW bN bu dt fP List.map a8 aH get put tmpsOf dD iL gy im conds ev cond_true cond_false Nat.beq Nat.ble Nat.add quiet dE cB cC ox List.append_eq List.nil_append List.cons_append dC cf cg cj ck cp cu eV eQ di iN dB calm quiet.isCallK cF List.getElem?_cons_zero List.getElem?_cons_succ bk bW cellsOf List.all bA List.length_cons List.length_nil eI bc List.drop List.take List.getD Option.getD_some qc qd pz qe qf qg ef fZ eg eh setAt List.set Nat.reduceAdd Nat.reduceMul cx bq refsOf bD bJ scalar cw dZ bT cv aM after freeze gV gF aS dm dK dd ew cR cS bZ cT cU cX cY cZ c6 c7 c8 da db dc b6 b7 b8 dj iO bytesOf bE cM aR bB dP bw bO cG still bM dY du dR bL ey List.isEmpty b9 ca cd Int.reduceToNat Nat.mul_one Nat.reduceSub nY cN bY dL cE look dM strip guarded fC eA eH cL dQ dk gP cV cW Bool.or_false Bool.or_true Bool.and_true Bool.and_false Nat.blt fQ fq fU dG idxOf gG gH iM eT aM my
open Rf
theorem je {α:Type} {g:α→List PV} {f:α→PV} (hg:∀x,g x=[f x]) (l:List α) (k:Nat) (d:α) (e:PV) (hk:k<l.length):(l.flatMap g)[k]?.getD e=f (l.getD k d):=by
 have:=eo (g:=g) (m:=1) (fun x=>by rw[hg];rfl) l k d 0 hk (by omega);rw[Nat.mul_one,Nat.add_zero]at this;rw[this,hg];rfl
theorem aL.IK {C:Ctx} {g:FuncId} {p r:PV} {B:fF} {ps:List PV} (hB:B.cells=ps.map .pv) (h:aL C g [.pv p,.ptr 0 0 0] [B] (.pv r) [B]) {μ:AM} {j:Nat} (hj:μ[j]?=some B):aL C g [.pv p,.ptr j 0 0] μ (.pv r) μ:=by
 have he:∀aB n,rO aB n B=B:=fun aB n=>by
  obtain⟨cs,a,b,c,d⟩:=B;simp only at hB;subst hB;simp[rO,pD,Function.comp_def]
 have hlt:=(List.getElem?_eq_some_iff.mp hj).1;have h1:=h.frame [j] μ (by simp) (by simpa using hlt) ⟨by rw[he];exact hj,trivial⟩ (by simp[aP,hB,dJ]) (by simp[dJ,Nat.blt]) (by simp);have h2:μ.set j B=μ:=by
  refine List.ext_getElem? fun i=>?_
  by_cases hi:j=i
  ·subst hi;rw[List.getElem?_set_self hlt,hj]
  ·rw[List.getElem?_set_ne hi]
 simpa [pD,oT,xq,he,h2]using h1
set_option maxHeartbeats 1000000 in
theorem AZ (g:FuncId) (l:List Rg) (hl:l.length≤1000000000) (p:Rg→Bool) (h:∀x∈l,ai ctx g [.agg [.int .i64 x.lo,.int .i64 x.hi]] (.bool (p x))) :
  ai ctx 126 [ah l,.val (.func (.func g) #[] #[])] (.int .i64 (jV p l)):=by
 have f1:=cz l;refine af (C:=ctx) (Fn.of E8 rfl) rfl ?_;unfold AX;repeat' (first
  |((with_reducible first|show aF _|show aO _);simp[vb]<;>omega)
  |exact(rfl:some _=_)
  |(
   fail_if_success refine aV ?_
   refine a7 ?_;repeat1' dsimp only[AX,ah,go_sem]
   first
   |refine aW ?_ ?_ rfl ?_
   |apply aX
   |apply aY
   |(refine aZ (fun hc=>?_) fun hc=>?_<;>first|(cases hc;done)|(exfalso;simp at hc<;>omega)|(try simp only[bn]at hc;try contradiction))
   |skip))
 refine bK l.length (fun k=>(l.take k).all (fun x=>!p x)=true) (fun k=>[(0,.pv (ah l)),(1,.pv (.val (.func (.func g) #[] #[]))),(7,.pv (.int .i64 l.length)),(8,.pv (.int .i64 k))]) (fun _=>[]) rfl (by (repeat' (first|exact trivial|refine And.intro (by first|rfl|(simp[get,Nat.beq];done)|(simp[get,Nat.beq];omega)|(dsimp only[get];congr 1<;>first|rfl|omega|(simp;done)|(simp;omega))) ?_))) ⟨[],rfl⟩ (fun _=>⟨Nat.zero_le _,rfl,rfl⟩) fun k hk hP=>?_
 by_cases hlt:k<l.length
 ·have e:=cK jb l k zr hlt;have h1:=eK (fun x=>!p x) l k zr hlt;have h2:=o6 p l k zr hlt hP;have hx:=h (l.getD k zr) (aQ hlt);rw[hP,Bool.true_and]at h1;clear h;generalize l.getD k zr=x at *;generalize p x=px at *;repeat' (first
   |((with_reducible first|show aF _|show aO _);(try dsimp only[go_sem]);first|(simp[vb,e,f1,hlt,hx,gZ]<;>omega)|(simp only[vb,and_true,true_implies];(repeat' (first|(with_reducible assumption)|(with_reducible apply And.intro)|intro _|((fail_if_success (with_reducible show(_:Int)≤_));assumption)))<;>first|omega|(simp only[ab,e,f1,hlt,hx,gZ];done)|(simp[e,f1,hlt,hx,gZ]<;>omega)))
   |exact(rfl:some _=_)
   |(
    fail_if_success refine aV ?_
    refine bI [(15,{val:=some (.pv (.agg [.int .i64 x.lo,.int .i64 x.hi]))}),(16,{val:=some (.pv (.bool px))})] ?_;repeat1' dsimp only[AX,ah,go_sem]
    first
    |refine aW ?_ ?_ rfl ?_
    |apply aX
    |apply aY
    |(refine aZ (fun hc=>?_) fun hc=>?_<;>first|(cases hc;done)|(exfalso;simp[e,f1,hlt,hx,gZ]at hc<;>omega)|(try simp only[bn]at hc;try contradiction))
    |skip))
  all_goals first
   |(rw[h2 hc];done)
   |(
    refine⟨hlt,?_,by (repeat' (first|exact trivial|refine And.intro (by first|rfl|(simp[get,Nat.beq];done)|(simp[get,Nat.beq];omega)|(dsimp only[get];congr 1<;>first|rfl|omega|(simp;done)|(simp;omega))) ?_)),[],rfl⟩;rw[h1,hc];rfl)
 ·obtain rfl:k=l.length:=by omega
  rw[List.take_length]at hP;rw[nj p l hP];repeat' (first
   |((with_reducible first|show aF _|show aO _);simp[vb,hlt]<;>omega)
   |exact(rfl:some _=_)
   |(
    fail_if_success refine aV ?_
    refine a7 ?_;repeat1' dsimp only[AX,ah,go_sem]
    first
    |refine aW ?_ ?_ rfl ?_
    |apply aX
    |apply aY
    |(refine aZ (fun hc=>?_) fun hc=>?_<;>first|(cases hc;done)|(exfalso;simp[hlt]at hc<;>omega)|(try simp only[bn]at hc;try contradiction))
    |skip))
theorem A0 (g:FuncId) (l:List Rg) (hl:l.length≤1000000000) (p:Rg→Bool) (h:∀x∈l,ai ctx g [.agg [.int .i64 x.lo,.int .i64 x.hi]] (.bool (p x))) :
  ai ctx 101 [ah l,.val (.func (.func g) #[] #[])] (.bool (l.any p)):=by
 have hx:=AZ g l hl p h;rw[←qN];generalize jV p l=r at *;unfold ah at hx;refine af (C:=ctx) (Fn.of E0 rfl) rfl ?_;unfold Ed;repeat' (first
  |((with_reducible first|show aF _|show aO _);simp[vb,hx,ah]<;>omega)
  |exact(rfl:some _=_)
  |(
   fail_if_success refine aV ?_
   refine iu [(126,fun _=>some (.int .i64 r))] ?_;repeat1' dsimp only[Ed,ah,go_sem]
   first
   |refine aW ?_ ?_ rfl ?_
   |apply aX
   |apply aY
   |(refine aZ (fun hc=>?_) fun hc=>?_<;>first|(cases hc;done)|(exfalso;simp[hx,ah]at hc<;>omega)|(try simp only[bn]at hc;try contradiction))
   |skip))
set_option maxHeartbeats 1000000 in
theorem A1 (g:FuncId) (l:List Int) (hl:l.length≤1000000000) (p:Int→Bool) (h:∀x∈l,ai ctx g [.int .i64 x] (.bool (p x))) :
  ai ctx 127 [aj l,.val (.func (.func g) #[] #[])] (.int .i64 (jV p l)):=by
 have f1:=eM l;refine af (C:=ctx) (Fn.of E9 rfl) rfl ?_;unfold c127;repeat' (first
  |((with_reducible first|show aF _|show aO _);simp[vb]<;>omega)
  |exact(rfl:some _=_)
  |(
   fail_if_success refine aV ?_
   refine a7 ?_;repeat1' dsimp only[c127,aj,go_sem]
   first
   |refine aW ?_ ?_ rfl ?_
   |apply aX
   |apply aY
   |(refine aZ (fun hc=>?_) fun hc=>?_<;>first|(cases hc;done)|(exfalso;simp at hc<;>omega)|(try simp only[bn]at hc;try contradiction))
   |skip))
 refine bK l.length (fun k=>(l.take k).all (fun x=>!p x)=true) (fun k=>[(0,.pv (aj l)),(1,.pv (.val (.func (.func g) #[] #[]))),(7,.pv (.int .i64 l.length)),(8,.pv (.int .i64 k))]) (fun _=>[]) rfl (by (repeat' (first|exact trivial|refine And.intro (by first|rfl|(simp[get,Nat.beq];done)|(simp[get,Nat.beq];omega)|(dsimp only[get];congr 1<;>first|rfl|omega|(simp;done)|(simp;omega))) ?_))) ⟨[],rfl⟩ (fun _=>⟨Nat.zero_le _,rfl,rfl⟩) fun k hk hP=>?_
 by_cases hlt:k<l.length
 ·have e:=je (g:=cA) (fun _=>rfl) l k 0 default hlt;have h1:=eK (fun x=>!p x) l k 0 hlt;have h2:=o6 p l k 0 hlt hP;have hx:=h (l.getD k 0) (aQ hlt);rw[hP,Bool.true_and]at h1;clear h;generalize l.getD k 0=x at *;generalize p x=px at *;repeat' (first
   |((with_reducible first|show aF _|show aO _);(try dsimp only[go_sem]);first|(simp[vb,e,f1,hlt,hx,cA]<;>omega)|(simp only[vb,and_true,true_implies];(repeat' (first|(with_reducible assumption)|(with_reducible apply And.intro)|intro _|((fail_if_success (with_reducible show(_:Int)≤_));assumption)))<;>first|omega|(simp only[ab,e,f1,hlt,hx,cA];done)|(simp[e,f1,hlt,hx,cA]<;>omega)))
   |exact(rfl:some _=_)
   |(
    fail_if_success refine aV ?_
    refine bI [(15,{val:=some (.pv (.int .i64 x))}),(16,{val:=some (.pv (.bool px))})] ?_;repeat1' dsimp only[c127,aj,go_sem]
    first
    |refine aW ?_ ?_ rfl ?_
    |apply aX
    |apply aY
    |(refine aZ (fun hc=>?_) fun hc=>?_<;>first|(cases hc;done)|(exfalso;simp[e,f1,hlt,hx,cA]at hc<;>omega)|(try simp only[bn]at hc;try contradiction))
    |skip))
  all_goals first
   |(rw[h2 hc];done)
   |(
    refine⟨hlt,?_,by (repeat' (first|exact trivial|refine And.intro (by first|rfl|(simp[get,Nat.beq];done)|(simp[get,Nat.beq];omega)|(dsimp only[get];congr 1<;>first|rfl|omega|(simp;done)|(simp;omega))) ?_)),[],rfl⟩;rw[h1,hc];rfl)
 ·obtain rfl:k=l.length:=by omega
  rw[List.take_length]at hP;rw[nj p l hP];repeat' (first
   |((with_reducible first|show aF _|show aO _);simp[vb,hlt]<;>omega)
   |exact(rfl:some _=_)
   |(
    fail_if_success refine aV ?_
    refine a7 ?_;repeat1' dsimp only[c127,aj,go_sem]
    first
    |refine aW ?_ ?_ rfl ?_
    |apply aX
    |apply aY
    |(refine aZ (fun hc=>?_) fun hc=>?_<;>first|(cases hc;done)|(exfalso;simp[hlt]at hc<;>omega)|(try simp only[bn]at hc;try contradiction))
    |skip))
theorem A2 (g:FuncId) (l:List Int) (hl:l.length≤1000000000) (p:Int→Bool) (h:∀x∈l,ai ctx g [.int .i64 x] (.bool (p x))) :
  ai ctx 103 [aj l,.val (.func (.func g) #[] #[])] (.bool (l.any p)):=by
 have hx:=A1 g l hl p h;rw[←qN];generalize jV p l=r at *;unfold aj at hx;refine af (C:=ctx) (Fn.of E2 rfl) rfl ?_;unfold Ef;repeat' (first
  |((with_reducible first|show aF _|show aO _);simp[vb,hx,aj]<;>omega)
  |exact(rfl:some _=_)
  |(
   fail_if_success refine aV ?_
   refine iu [(127,fun _=>some (.int .i64 r))] ?_;repeat1' dsimp only[Ef,aj,go_sem]
   first
   |refine aW ?_ ?_ rfl ?_
   |apply aX
   |apply aY
   |(refine aZ (fun hc=>?_) fun hc=>?_<;>first|(cases hc;done)|(exfalso;simp[hx,aj]at hc<;>omega)|(try simp only[bn]at hc;try contradiction))
   |skip))
set_option maxHeartbeats 1000000 in
theorem A3 (g:FuncId) (μ:AM) (hμ:aP μ μ.length=true) (j:Nat) (hj:j<μ.length) (l:List Rw) (hl:l.length≤1000000000) (p:Rw→Bool) (h:∀x∈l,aL ctx g [.pv (.agg [av x.terms,.int .i64 x.bound]),.ptr j 0 0] μ (.pv (.bool (p x))) μ) :
  aL ctx 125 [.pv (ay l),.fn g [.ptr j 0 0]] μ (.pv (.int .i64 (jV p l))) μ:=by
 have f1:=gT l;refine bz (C:=ctx) (Fn.of E6 rfl) rfl (by simp) rfl hμ ?_;unfold AT;repeat' (first
  |((with_reducible first|show aF _|show aO _);simp[vb]<;>omega)
  |exact(rfl:some _=_)
  |(
   fail_if_success refine aV ?_
   refine a7 ?_;repeat1' dsimp only[AT,ay,go_sem]
   first
   |refine aW ?_ ?_ rfl ?_
   |apply aX
   |apply aY
   |(refine aZ (fun hc=>?_) fun hc=>?_<;>first|(cases hc;done)|(exfalso;simp at hc<;>omega)|(try simp only[bn]at hc;try contradiction))
   |skip))
 refine bK l.length (fun k=>(l.take k).all (fun x=>!p x)=true) (fun k=>[(0,.pv (ay l)),(1,.fn g [.ptr j 0 0]),(7,.pv (.int .i64 l.length)),(8,.pv (.int .i64 k))]) (fun _=>μ) rfl (by (repeat' (first|exact trivial|refine And.intro (by first|rfl|(simp[get,Nat.beq];done)|(simp[get,Nat.beq];omega)|(dsimp only[get];congr 1<;>first|rfl|omega|(simp;done)|(simp;omega))) ?_))) ⟨[],(List.append_nil _).symm⟩ (fun _=>⟨Nat.le_refl _,by simp[gj,dJ,Nat.blt];omega,hμ⟩) fun k hk hP=>?_
 by_cases hlt:k<l.length
 ·have e:=cK kT l k zw hlt;have h1:=eK (fun x=>!p x) l k zw hlt;have h2:=o6 p l k zw hlt hP;have hx:=h (l.getD k zw) (aQ hlt);rw[hP,Bool.true_and]at h1;clear h;generalize l.getD k zw=x at *;generalize p x=px at *;repeat' (first
   |((with_reducible first|show aF _|show aO _);(try dsimp only[go_sem]);first|(simp[vb,e,f1,hlt,hx,ff]<;>omega)|(simp only[vb,and_true,true_implies];(repeat' (first|(with_reducible assumption)|(with_reducible apply And.intro)|intro _|((fail_if_success (with_reducible show(_:Int)≤_));assumption)))<;>first|omega|(simp only[ab,e,f1,hlt,hx,ff];done)|(simp[e,f1,hlt,hx,ff]<;>omega)))
   |exact(rfl:some _=_)
   |(
    fail_if_success refine aV ?_
    refine bI [(15,{val:=some (.pv (.agg [av x.terms,.int .i64 x.bound]))}),(16,{val:=some (.pv (.bool px)),ro:=true})] ?_;repeat1' dsimp only[AT,ay,go_sem]
    first
    |refine aW ?_ ?_ rfl ?_
    |apply aX
    |apply aY
    |(refine aZ (fun hc=>?_) fun hc=>?_<;>first|(cases hc;done)|(exfalso;simp[e,f1,hlt,hx,ff]at hc<;>omega)|(try simp only[bn]at hc;try contradiction))
    |skip))
  all_goals first
   |(rw[h2 hc];exact⟨⟨trivial,rfl⟩,[],(List.append_nil _).symm⟩)
   |(
    refine⟨hlt,?_,by (repeat' (first|exact trivial|refine And.intro (by first|rfl|(simp[get,Nat.beq];done)|(simp[get,Nat.beq];omega)|(dsimp only[get];congr 1<;>first|rfl|omega|(simp;done)|(simp;omega))) ?_)),[],(List.append_nil _).symm⟩;rw[h1,hc];rfl)
 ·obtain rfl:k=l.length:=by omega
  rw[List.take_length]at hP;rw[nj p l hP];repeat' (first
   |((with_reducible first|show aF _|show aO _);simp[vb,hlt]<;>omega)
   |exact(rfl:some _=_)
   |(
    fail_if_success refine aV ?_
    refine a7 ?_;repeat1' dsimp only[AT,ay,go_sem]
    first
    |refine aW ?_ ?_ rfl ?_
    |apply aX
    |apply aY
    |(refine aZ (fun hc=>?_) fun hc=>?_<;>first|(cases hc;done)|(exfalso;simp[hlt]at hc<;>omega)|(try simp only[bn]at hc;try contradiction))
    |skip))
  all_goals exact⟨⟨trivial,rfl⟩,[],(List.append_nil _).symm⟩
theorem CI (g:FuncId) (μ:AM) (hμ:aP μ μ.length=true) (j:Nat) (hj:j<μ.length) (l:List Rw) (hl:l.length≤1000000000) (p:Rw→Bool) (h:∀x∈l,aL ctx g [.pv (.agg [av x.terms,.int .i64 x.bound]),.ptr j 0 0] μ (.pv (.bool (p x))) μ) :
  aL ctx 98 [.pv (ay l),.fn g [.ptr j 0 0]] μ (.pv (.bool (l.any p))) μ:=by
 have hx:=A3 g μ hμ j hj l hl p h;rw[←qN];generalize jV p l=r at *;unfold ay at hx;refine bz (C:=ctx) (Fn.of G0 rfl) rfl (by simp) rfl hμ ?_;unfold Hw;repeat' (first
  |((with_reducible first|show aF _|show aO _);simp[vb,hx,ay]<;>omega)
  |exact(rfl:some _=_)
  |(
   fail_if_success refine aV ?_
   refine bI [(7,{val:=some (.pv (.int .i64 r)),ro:=true})] ?_;repeat1' dsimp only[Hw,ay,go_sem]
   first
   |refine aW ?_ ?_ rfl ?_
   |apply aX
   |apply aY
   |(refine aZ (fun hc=>?_) fun hc=>?_<;>first|(cases hc;done)|(exfalso;simp[hx,ay]at hc<;>omega)|(try simp only[bn]at hc;try contradiction))
   |skip))
 all_goals exact⟨⟨trivial,rfl⟩,[],(List.append_nil _).symm⟩
set_option maxHeartbeats 1000000 in
theorem A4 (g:FuncId) (μ:AM) (hμ:aP μ μ.length=true) (j:Nat) (hj:j<μ.length) (l:List (List Rw)) (hl:l.length≤1000000000) (p:(List Rw)→Bool) (h:∀x∈l,aL ctx g [.pv (ay x),.ptr j 0 0] μ (.pv (.bool (p x))) μ) :
  aL ctx 105 [.pv (aA l),.fn g [.ptr j 0 0]] μ (.pv (.int .i64 (jV p l))) μ:=by
 have f1:=l9 l;refine bz (C:=ctx) (Fn.of E4 rfl) rfl (by simp) rfl hμ ?_;unfold c105;repeat' (first
  |((with_reducible first|show aF _|show aO _);simp[vb]<;>omega)
  |exact(rfl:some _=_)
  |(
   fail_if_success refine aV ?_
   refine a7 ?_;repeat1' dsimp only[c105,aA,go_sem]
   first
   |refine aW ?_ ?_ rfl ?_
   |apply aX
   |apply aY
   |(refine aZ (fun hc=>?_) fun hc=>?_<;>first|(cases hc;done)|(exfalso;simp at hc<;>omega)|(try simp only[bn]at hc;try contradiction))
   |skip))
 refine bK l.length (fun k=>(l.take k).all (fun x=>!p x)=true) (fun k=>[(0,.pv (aA l)),(1,.fn g [.ptr j 0 0]),(7,.pv (.int .i64 l.length)),(8,.pv (.int .i64 k))]) (fun _=>μ) rfl (by (repeat' (first|exact trivial|refine And.intro (by first|rfl|(simp[get,Nat.beq];done)|(simp[get,Nat.beq];omega)|(dsimp only[get];congr 1<;>first|rfl|omega|(simp;done)|(simp;omega))) ?_))) ⟨[],(List.append_nil _).symm⟩ (fun _=>⟨Nat.le_refl _,by simp[gj,dJ,Nat.blt];omega,hμ⟩) fun k hk hP=>?_
 by_cases hlt:k<l.length
 ·have e:=je (g:=sf) (fun _=>rfl) l k [] default hlt;have h1:=eK (fun x=>!p x) l k [] hlt;have h2:=o6 p l k [] hlt hP;have hx:=h (l.getD k []) (aQ hlt);rw[hP,Bool.true_and]at h1;clear h;generalize l.getD k []=x at *;generalize p x=px at *;repeat' (first
   |((with_reducible first|show aF _|show aO _);(try dsimp only[go_sem]);first|(simp[vb,e,f1,hlt,hx,sf]<;>omega)|(simp only[vb,and_true,true_implies];(repeat' (first|(with_reducible assumption)|(with_reducible apply And.intro)|intro _|((fail_if_success (with_reducible show(_:Int)≤_));assumption)))<;>first|omega|(simp only[ab,e,f1,hlt,hx,sf];done)|(simp[e,f1,hlt,hx,sf]<;>omega)))
   |exact(rfl:some _=_)
   |(
    fail_if_success refine aV ?_
    refine bI [(15,{val:=some (.pv (ay x))}),(16,{val:=some (.pv (.bool px)),ro:=true})] ?_;repeat1' dsimp only[c105,aA,go_sem]
    first
    |refine aW ?_ ?_ rfl ?_
    |apply aX
    |apply aY
    |(refine aZ (fun hc=>?_) fun hc=>?_<;>first|(cases hc;done)|(exfalso;simp[e,f1,hlt,hx,sf]at hc<;>omega)|(try simp only[bn]at hc;try contradiction))
    |skip))
  all_goals first
   |(rw[h2 hc];exact⟨⟨trivial,rfl⟩,[],(List.append_nil _).symm⟩)
   |(
    refine⟨hlt,?_,by (repeat' (first|exact trivial|refine And.intro (by first|rfl|(simp[get,Nat.beq];done)|(simp[get,Nat.beq];omega)|(dsimp only[get];congr 1<;>first|rfl|omega|(simp;done)|(simp;omega))) ?_)),[],(List.append_nil _).symm⟩;rw[h1,hc];rfl)
 ·obtain rfl:k=l.length:=by omega
  rw[List.take_length]at hP;rw[nj p l hP];repeat' (first
   |((with_reducible first|show aF _|show aO _);simp[vb,hlt]<;>omega)
   |exact(rfl:some _=_)
   |(
    fail_if_success refine aV ?_
    refine a7 ?_;repeat1' dsimp only[c105,aA,go_sem]
    first
    |refine aW ?_ ?_ rfl ?_
    |apply aX
    |apply aY
    |(refine aZ (fun hc=>?_) fun hc=>?_<;>first|(cases hc;done)|(exfalso;simp[hlt]at hc<;>omega)|(try simp only[bn]at hc;try contradiction))
    |skip))
  all_goals exact⟨⟨trivial,rfl⟩,[],(List.append_nil _).symm⟩
theorem CJ (g:FuncId) (μ:AM) (hμ:aP μ μ.length=true) (j:Nat) (hj:j<μ.length) (l:List (List Rw)) (hl:l.length≤1000000000) (p:(List Rw)→Bool) (h:∀x∈l,aL ctx g [.pv (ay x),.ptr j 0 0] μ (.pv (.bool (p x))) μ) :
  aL ctx 75 [.pv (aA l),.fn g [.ptr j 0 0]] μ (.pv (.bool (l.any p))) μ:=by
 have hx:=A4 g μ hμ j hj l hl p h;rw[←qN];generalize jV p l=r at *;unfold aA at hx;refine bz (C:=ctx) (Fn.of GV rfl) rfl (by simp) rfl hμ ?_;unfold c75;repeat' (first
  |((with_reducible first|show aF _|show aO _);simp[vb,hx,aA]<;>omega)
  |exact(rfl:some _=_)
  |(
   fail_if_success refine aV ?_
   refine bI [(7,{val:=some (.pv (.int .i64 r)),ro:=true})] ?_;repeat1' dsimp only[c75,aA,go_sem]
   first
   |refine aW ?_ ?_ rfl ?_
   |apply aX
   |apply aY
   |(refine aZ (fun hc=>?_) fun hc=>?_<;>first|(cases hc;done)|(exfalso;simp[hx,aA]at hc<;>omega)|(try simp only[bn]at hc;try contradiction))
   |skip))
 all_goals exact⟨⟨trivial,rfl⟩,[],(List.append_nil _).symm⟩
set_option maxHeartbeats 1000000 in
theorem A5 (g:FuncId) (μ:AM) (hμ:aP μ μ.length=true) (j:Nat) (hj:j<μ.length) (l:List Tm) (hl:l.length≤1000000000) (p:Tm→Bool) (h:∀x∈l,aL ctx g [.pv (.agg [.int .i64 x.cell,.int .i64 x.fac]),.ptr j 0 0] μ (.pv (.bool (p x))) μ) :
  aL ctx 147 [.pv (av l),.fn g [.ptr j 0 0]] μ (.pv (.int .i64 (jV p l))) μ:=by
 have f1:=iK l;refine bz (C:=ctx) (Fn.of Ff rfl) rfl (by simp) rfl hμ ?_;unfold AY;repeat' (first
  |((with_reducible first|show aF _|show aO _);simp[vb]<;>omega)
  |exact(rfl:some _=_)
  |(
   fail_if_success refine aV ?_
   refine a7 ?_;repeat1' dsimp only[AY,av,go_sem]
   first
   |refine aW ?_ ?_ rfl ?_
   |apply aX
   |apply aY
   |(refine aZ (fun hc=>?_) fun hc=>?_<;>first|(cases hc;done)|(exfalso;simp at hc<;>omega)|(try simp only[bn]at hc;try contradiction))
   |skip))
 refine bK l.length (fun k=>(l.take k).all (fun x=>!p x)=true) (fun k=>[(0,.pv (av l)),(1,.fn g [.ptr j 0 0]),(7,.pv (.int .i64 l.length)),(8,.pv (.int .i64 k))]) (fun _=>μ) rfl (by (repeat' (first|exact trivial|refine And.intro (by first|rfl|(simp[get,Nat.beq];done)|(simp[get,Nat.beq];omega)|(dsimp only[get];congr 1<;>first|rfl|omega|(simp;done)|(simp;omega))) ?_))) ⟨[],(List.append_nil _).symm⟩ (fun _=>⟨Nat.le_refl _,by simp[gj,dJ,Nat.blt];omega,hμ⟩) fun k hk hP=>?_
 by_cases hlt:k<l.length
 ·have e:=cK l8 l k zm hlt;have h1:=eK (fun x=>!p x) l k zm hlt;have h2:=o6 p l k zm hlt hP;have hx:=h (l.getD k zm) (aQ hlt);rw[hP,Bool.true_and]at h1;clear h;generalize l.getD k zm=x at *;generalize p x=px at *;repeat' (first
   |((with_reducible first|show aF _|show aO _);(try dsimp only[go_sem]);first|(simp[vb,e,f1,hlt,hx,ke]<;>omega)|(simp only[vb,and_true,true_implies];(repeat' (first|(with_reducible assumption)|(with_reducible apply And.intro)|intro _|((fail_if_success (with_reducible show(_:Int)≤_));assumption)))<;>first|omega|(simp only[ab,e,f1,hlt,hx,ke];done)|(simp[e,f1,hlt,hx,ke]<;>omega)))
   |exact(rfl:some _=_)
   |(
    fail_if_success refine aV ?_
    refine bI [(15,{val:=some (.pv (.agg [.int .i64 x.cell,.int .i64 x.fac]))}),(16,{val:=some (.pv (.bool px)),ro:=true})] ?_;repeat1' dsimp only[AY,av,go_sem]
    first
    |refine aW ?_ ?_ rfl ?_
    |apply aX
    |apply aY
    |(refine aZ (fun hc=>?_) fun hc=>?_<;>first|(cases hc;done)|(exfalso;simp[e,f1,hlt,hx,ke]at hc<;>omega)|(try simp only[bn]at hc;try contradiction))
    |skip))
  all_goals first
   |(rw[h2 hc];exact⟨⟨trivial,rfl⟩,[],(List.append_nil _).symm⟩)
   |(
    refine⟨hlt,?_,by (repeat' (first|exact trivial|refine And.intro (by first|rfl|(simp[get,Nat.beq];done)|(simp[get,Nat.beq];omega)|(dsimp only[get];congr 1<;>first|rfl|omega|(simp;done)|(simp;omega))) ?_)),[],(List.append_nil _).symm⟩;rw[h1,hc];rfl)
 ·obtain rfl:k=l.length:=by omega
  rw[List.take_length]at hP;rw[nj p l hP];repeat' (first
   |((with_reducible first|show aF _|show aO _);simp[vb,hlt]<;>omega)
   |exact(rfl:some _=_)
   |(
    fail_if_success refine aV ?_
    refine a7 ?_;repeat1' dsimp only[AY,av,go_sem]
    first
    |refine aW ?_ ?_ rfl ?_
    |apply aX
    |apply aY
    |(refine aZ (fun hc=>?_) fun hc=>?_<;>first|(cases hc;done)|(exfalso;simp[hlt]at hc<;>omega)|(try simp only[bn]at hc;try contradiction))
    |skip))
  all_goals exact⟨⟨trivial,rfl⟩,[],(List.append_nil _).symm⟩
end Pur
end
section
namespace Rf
open Pur
def El (k:Int) (_:Int) (t:Tree):Bool×Int:=(true,IntKind.i64.wrap (k+t.steps.length))
def G3 (k:Int) (lev:Int) (_:Tree):Bool×Int:=(true,if k<lev then lev else k)
theorem zB {n:Int} (h1:0≤n) (h2:n≤4000000000):IntKind.i64.wrap n=n:=iB (by unfold lD;omega) (by unfold hJ;omega)
mutual
theorem zC:∀(t:Tree) (k lev:Int),0≤k→k+wt t≤3000000000→qz El k lev t=(true,k+kx t)
 | .node kd s c a l,k,lev,h0,h1=>by
  rw[cJ]at h1;rw[qz,mY];show(match El k lev (.node kd s c a l) with|(false,k1)=>(false,k1)|(true,k1)=>iZ El k1 (lev+1) l)=_;have hs:El k lev (.node kd s c a l)=(true,k+s.length):=by
   simp only[El,Tree.steps];rw[zB (by omega) (by omega)]
  rw[hs];show iZ El _ _ l=_;rw[wU l _ _ (by omega) (by push_cast at h1;omega)];simp only[Prod.mk.injEq,true_and];push_cast;omega
theorem wU:∀(l:List Tree) (k lev:Int),0≤k→k+iH l≤3000000000→iZ El k lev l=(true,k+jz l)
 |[],k,lev,h0,h1=>by rw[iZ];simp[jz]
 |t::r,k,lev,h0,h1=>by
  rw[iH]at h1;have:=AB t;rw[iZ,zC t k lev h0 (by push_cast at h1;omega)];show iZ El _ _ r=_;rw[wU r _ _ (by omega) (by push_cast at h1;omega),jz];simp only[Prod.mk.injEq,true_and];push_cast;omega
end
mutual
theorem zD:∀(t:Tree) (k lev:Int),lev-1≤k→qz G3 k lev t=(true,if k<lev+eE t-1 then lev+eE t-1 else k)
 | .node kd s c a l,k,lev,h0=>by
  rw[qz,jL];show iZ G3 (if k<lev then lev else k) (lev+1) l=_;rw[wV l _ _ (by split<;>omega)];simp only[Prod.mk.injEq,true_and];(repeat' split)<;>omega
theorem wV:∀(l:List Tree) (k lev:Int),lev-1≤k→iZ G3 k lev l=(true,if k<lev+cy l-1 then lev+cy l-1 else k)
 |[],k,lev,h0=>by
  rw[iZ];simp only[cy,Prod.mk.injEq,true_and];(repeat' split)<;>omega
 |t::r,k,lev,h0=>by
  rw[iZ,zD t k lev h0];show iZ G3 _ lev r=_;rw[wV r _ _ (by split<;>omega),cy];simp only[Prod.mk.injEq,true_and];rcases Nat.le_total (eE t) (cy r) with h|h
  ·rw[Nat.max_eq_right h];(repeat' split)<;>omega
  ·rw[Nat.max_eq_left h];(repeat' split)<;>omega
end
def tY (k:Int×Bool) (lev:Int) (t:Tree):Bool×Int×Bool :=
 let c:=IntKind.i64.wrap (k.1+(1+t.steps.length))
 let bad:=bif decide (lev>4096) then true else bif decide (c>65536) then true else !qp t
 (!bad,c,bad)
theorem F6 (a b:Bool):(bif a then true else b)=(a||b):=by cases a<;>rfl
mutual
theorem zE:∀(t:Tree) (c lev:Int),0≤c→c+wt t≤3000000000→(qz tY (c,false) lev t).2.2= !(qz tY (c,false) lev t).1 ∧
  ((qz tY (c,false) lev t).1=true↔(lev+eE t≤4097∧c+wt t≤65536∧ec t=true))∧((qz tY (c,false) lev t).1=true→(qz tY (c,false) lev t).2=(c+wt t,false))
 | .node kd s x a l,c,lev,h0,h1=>by
  rw[cJ]at h1 ⊢;rw[qz,jL,dO];have hs:tY (c,false) lev (.node kd s x a l)=(!(decide (lev>4096)||(decide (c+(1+s.length)>65536)|| !(s.all br&&cD kd x a l.length))),c+(1+s.length),decide (lev>4096)||(decide (c+(1+s.length)>65536)|| !(s.all br&&cD kd x a l.length))):=by
   have hw:IntKind.i64.wrap (c+(1+s.length))=c+(1+s.length):=zB (by omega) (by push_cast at h1;omega);simp only[tY,qp,Tree.steps,Tree.kind,Tree.cell,Tree.pos,Tree.kids,F6,hw]
  rw[hs];cases hb:decide (lev>4096)||(decide (c+(1+s.length)>65536)|| !(s.all br&&cD kd x a l.length)) with
  |true =>
   refine⟨rfl,⟨(fun h=>by cases h),fun ⟨g1,g2,g3⟩=>?_⟩,(fun h=>by cases h)⟩;exfalso;simp only[Bool.and_eq_true]at g3;simp only[Bool.or_eq_true,decide_eq_true_eq,Bool.not_eq_true',Bool.and_eq_false_iff]at hb;rw[g3.1.1,g3.1.2]at hb;push_cast at g1 g2;simp at hb;omega
  |false =>
   simp only[Bool.or_eq_false_iff,decide_eq_false_iff_not,Bool.not_eq_false']at hb;obtain⟨b1,b2,b3⟩:=hb;obtain⟨q1,q2,q3⟩:=wW l (c+(1+s.length)) (lev+1) (by omega) (by push_cast at h1;omega) (by omega) (by omega);refine⟨q1,q2.trans ?_,fun h=>(q3 h).trans ?_⟩
   ·rw[b3,Bool.true_and];push_cast;constructor
    ·rintro⟨g1,g2,g3⟩;exact⟨by omega,by omega,g3⟩
    ·rintro⟨g1,g2,g3⟩;exact⟨by omega,by omega,g3⟩
   ·push_cast;rw[Prod.mk.injEq];exact⟨by omega,rfl⟩
theorem wW:∀(l:List Tree) (c lev:Int),0≤c→c+iH l≤3000000000→c≤65536→lev≤4097→(iZ tY (c,false) lev l).2.2= !(iZ tY (c,false) lev l).1 ∧
  ((iZ tY (c,false) lev l).1=true↔(lev+cy l≤4097∧c+iH l≤65536∧l.all ec=true))∧((iZ tY (c,false) lev l).1=true→(iZ tY (c,false) lev l).2=(c+iH l,false))
 |[],c,lev,h0,h1,h2,h3=>by
  rw[iZ];refine⟨rfl,⟨fun _=>⟨by simp[cy];omega,by simp[iH];omega,rfl⟩,fun _=>rfl⟩,fun _=>by simp[iH]⟩
 |t::r,c,lev,h0,h1,h2,h3=>by
  rw[iH]at h1 ⊢;rw[iZ,cy,List.all_cons];obtain⟨q1,q2,q3⟩:=zE t c lev h0 (by push_cast at h1;omega);generalize qz tY (c,false) lev t=v at *;obtain⟨b,k1⟩:=v;simp only at q1 q2 q3;cases b with
  |false =>
   refine⟨q1,⟨(fun h=>by cases h),fun ⟨g1,g2,g3⟩=>?_⟩,(fun h=>by cases h)⟩;rw[Bool.and_eq_true]at g3;have:=Nat.le_max_left (eE t) (cy r);exact absurd (q2.mpr ⟨by omega,by push_cast at g2;omega,g3.1⟩) (by simp)
  |true =>
   obtain⟨g1,g2,g3⟩:=q2.mp rfl;obtain rfl:=q3 rfl;obtain⟨p1,p2,p3⟩:=wW r (c+wt t) lev (by omega) (by push_cast at h1;omega) (by omega) h3;refine⟨p1,p2.trans ?_,fun h=>(p3 h).trans ?_⟩
   ·rw[g3,Bool.true_and];push_cast;constructor
    ·rintro⟨e1,e2,e3⟩;exact⟨by rcases Nat.le_total (eE t) (cy r) with h|h<;>simp only[Nat.max_eq_right h,Nat.max_eq_left h]<;>omega,by omega,e3⟩
    ·rintro⟨e1,e2,e3⟩;exact⟨by have:=Nat.le_max_right (eE t) (cy r);omega,by omega,e3⟩
   ·push_cast;rw[Prod.mk.injEq];exact⟨by omega,rfl⟩
end
theorem CK (t:Tree) (h:wt t≤1000000000):(qz tY (0,false) 1 t).2.2= !gz t:=by
 obtain⟨q1,q2,-⟩:=zE t 0 1 (by omega) (by omega);rw[q1];congr 1;rw[Bool.eq_iff_iff,q2];simp only[gz,Bool.and_eq_true,decide_eq_true_eq];constructor
 ·rintro⟨a,b,c⟩;exact⟨⟨by omega,by omega⟩,c⟩
 ·rintro⟨⟨a,b⟩,c⟩;exact⟨by omega,by omega,c⟩
end Rf
namespace Pur
open Go.RowKit
attribute [local go_sem] bG eW bN bu dt fP List.map a8 aH get put tmpsOf dD iL gy im conds ev cond_true cond_false Nat.beq Nat.ble Nat.add quiet dE cB cC ox List.append_eq List.nil_append List.cons_append dC cf cg cj ck cp cu eV eQ di iN dB calm quiet.isCallK cF List.getElem?_cons_zero List.getElem?_cons_succ bk bW cellsOf List.all bA List.length_cons List.length_nil eI bc List.drop List.take List.getD Option.getD_some qc qd pz qe qf qg ef fZ eg eh setAt List.set Nat.reduceAdd Nat.reduceMul cx bq refsOf bD bJ scalar cw dZ bT cv aM after freeze gV gF aS dm dK dd ew cR cS bZ cT cU cX cY cZ c6 c7 c8 da db dc b6 b7 b8 dj iO bytesOf bE cM aR bB dP bw bO cG still bM dY du dR bL ey List.isEmpty b9 ca cd Int.reduceToNat Nat.mul_one Nat.reduceSub nY cN bY dL cE look dM strip guarded fC eA eH cL dQ dk gP cV cW Bool.or_false Bool.or_true Bool.and_true Bool.and_false Nat.blt fQ fq fU dG idxOf gG gH iM eT aM my
open Rf
def iz (k:Int):fF:=⟨[.pv (.int .i64 k)],0,1,3,false⟩
theorem zF (k:Int):∀b∈[iz k],Au b:=by
 intro b hb;rw[List.mem_singleton.mp hb];exact⟨by simp[iz,wj],rfl,rfl,by simp[iz]⟩
set_option maxHeartbeats 2000000 in
theorem CL (t:Tree) (hw:wt t≤1000000000):ai ctx 15 [aE t] (.int .i64 (kx t)):=by
 refine oc (C:=ctx) (Fn.of HP rfl) rfl ?_;unfold HO;refine ik (gr fun D=>?_);refine a7 ?_;dsimp only[aE,go_sem];try dsimp only[aE,go_sem]
 refine⟨(by simp[vb]<;>omega),(by simp[vb]<;>omega),?_⟩;refine ik (gr fun D=>?_);refine a7 ?_;dsimp only[aE,go_sem];try dsimp only[aE,go_sem]
 refine⟨(by simp[vb]<;>omega),(by simp[vb]<;>omega),?_⟩;refine ik (ik (gr fun D=>?_));have hn:=(sa t [ae t,iz 0] rfl).DQ D;refine bI [(7,{val:=some (.fn 67 [.ptr 2 0 0]),mem:=some ([ae t,iz 0]++[ae t])})] ?_;dsimp only[aE,ae,iz,go_sem];try dsimp only[aE,ae,iz,go_sem]
 refine⟨(by simp[vb]<;>omega),?_,?_⟩
 ·exact⟨hn,trivial⟩
 refine rW [1,2] rfl ?_;dsimp only[fQ,fq,fU,dG,idxOf,go_sem]
 refine pH (pI (σ:=Int) (q:=1) (bt:=1) (k0:=0) (k':=kx t) (fo:=fun k=>[iz k]) (stop:=fun _=>false) (junk:=[ae t]) (kb:=ae t) (cells:=[.int .i64 t.kind,aa t.steps,.int .i64 t.cell,.int .i64 t.pos,an t.kids]) (g0:=[(3,.ptr 0 0 0)]) (rv:=.pv (.tup [])) rfl (by omega) rfl rfl rfl (by simp[ae]) (by kernel_rfl) (fun _=>rfl) zF rfl rfl (by (repeat' (first|exact trivial|refine And.intro (by first|rfl|(simp[get,Nat.beq];done)|(simp[get,Nat.beq];omega)|(dsimp only[get];congr 1<;>first|rfl|omega|(simp;done)|(simp;omega))) ?_))) (by omega) (by omega) (by omega) ?_ (fun _=>?_) (fun h=>by cases h))
 ·intro w0 w1 S γ l L hX hround;have:=pL (X:=⟨_,hX.hE,_⟩) l El (fun _=>True) (fun _ _ _ _ _=>trivial) (fun k lev u μ _ hμ hwu hl0 hl1=>hround (.int .i64 lev) (aE u) k _ true μ rfl rfl ?_) t hw 0 trivial
  ·rw[zC t 0 1 (by omega) (by omega)]at this;rw[Int.zero_add]at this;exact this
  ·refine ka false [] ?_;dsimp only[aE,aa,an,iz,cB,go_sem];refine⟨by simp[aF],by simp[aO],?_⟩;refine pG (ka false [(4,{mode:=1})] ?_);dsimp only[aE,aa,an,iz,cB,go_sem];refine⟨by simp[aF],by simp[aO],?_⟩;exact⟨rfl,_,rfl⟩
 ·refine gr fun D=>?_
  repeat' (first
   |((with_reducible first|show aF _|show aO _);simp[vb]<;>omega)
   |exact(rfl:some _=_)
   |(
    fail_if_success refine aV ?_
    refine a7 ?_;repeat1' dsimp only[HO,iz,go_sem]
    first
    |refine aW ?_ ?_ rfl ?_
    |apply aX
    |apply aY
    |(refine aZ (fun hc=>?_) fun hc=>?_<;>first|(cases hc;done)|(exfalso;simp at hc<;>omega)|(try simp only[bn]at hc;try contradiction))
    |skip))
set_option maxHeartbeats 2000000 in
theorem CM (t:Tree) (hw:wt t≤1000000000):ai ctx 17 [aE t] (.int .i64 (eE t)):=by
 refine oc (C:=ctx) (Fn.of HR rfl) rfl ?_;unfold HQ;refine ik (gr fun D=>?_);refine a7 ?_;dsimp only[aE,go_sem];try dsimp only[aE,go_sem]
 refine⟨(by simp[vb]<;>omega),(by simp[vb]<;>omega),?_⟩;refine ik (gr fun D=>?_);refine a7 ?_;dsimp only[aE,go_sem];try dsimp only[aE,go_sem]
 refine⟨(by simp[vb]<;>omega),(by simp[vb]<;>omega),?_⟩;refine ik (ik (gr fun D=>?_));have hn:=(sa t [ae t,iz 0] rfl).DQ D;refine bI [(6,{val:=some (.fn 67 [.ptr 2 0 0]),mem:=some ([ae t,iz 0]++[ae t])})] ?_;dsimp only[aE,ae,iz,go_sem];try dsimp only[aE,ae,iz,go_sem]
 refine⟨(by simp[vb]<;>omega),?_,?_⟩
 ·exact⟨hn,trivial⟩
 refine rW [1,2] rfl ?_;dsimp only[fQ,fq,fU,dG,idxOf,go_sem]
 refine pH (pI (σ:=Int) (q:=1) (bt:=1) (k0:=0) (k':=eE t) (fo:=fun k=>[iz k]) (stop:=fun _=>false) (junk:=[ae t]) (kb:=ae t) (cells:=[.int .i64 t.kind,aa t.steps,.int .i64 t.cell,.int .i64 t.pos,an t.kids]) (g0:=[(3,.ptr 0 0 0)]) (rv:=.pv (.tup [])) rfl (by omega) rfl rfl rfl (by simp[ae]) (by kernel_rfl) (fun _=>rfl) zF rfl rfl (by (repeat' (first|exact trivial|refine And.intro (by first|rfl|(simp[get,Nat.beq];done)|(simp[get,Nat.beq];omega)|(dsimp only[get];congr 1<;>first|rfl|omega|(simp;done)|(simp;omega))) ?_))) (by omega) (by omega) (by omega) ?_ (fun _=>?_) (fun h=>by cases h))
 ·intro w0 w1 S γ l L hX hround;have:=pL (X:=⟨_,hX.hE,_⟩) l G3 (fun _=>True) (fun _ _ _ _ _=>trivial) (fun k lev u μ _ hμ hwu hl0 hl1=>hround (.int .i64 lev) (aE u) k _ true μ rfl rfl ?_) t hw 0 trivial
  ·rw[zD t 0 1 (by omega)]at this;have e:(if (0:Int)<1+eE t-1 then (1:Int)+eE t-1 else 0)=eE t:=by split<;>omega
   rw[e]at this;exact this
  ·refine ka false [] ?_;dsimp only[aE,aa,an,iz,cB,go_sem];refine⟨by simp[aF],by simp[aO],?_⟩;refine pG (ka false [] ?_);dsimp only[aE,aa,an,iz,cB,go_sem];refine⟨by simp[aF],by simp[aO],?_⟩;exact⟨rfl,[],rfl⟩
 ·refine gr fun D=>?_
  repeat' (first
   |((with_reducible first|show aF _|show aO _);simp[vb]<;>omega)
   |exact(rfl:some _=_)
   |(
    fail_if_success refine aV ?_
    refine a7 ?_;repeat1' dsimp only[HQ,iz,go_sem]
    first
    |refine aW ?_ ?_ rfl ?_
    |apply aX
    |apply aY
    |(refine aZ (fun hc=>?_) fun hc=>?_<;>first|(cases hc;done)|(exfalso;simp at hc<;>omega)|(try simp only[bn]at hc;try contradiction))
    |skip))
def o7 (k:Int×Bool):AM:=[⟨[.pv (.bool false)],0,1,4,false⟩,iz k.1]
theorem Em (k:Int×Bool):∀b∈o7 k,Au b:=by
 intro b hb;simp only[o7,List.mem_cons,List.not_mem_nil,or_false]at hb;rcases hb with rfl|rfl
 ·exact⟨by simp[wj],rfl,rfl,by simp⟩
 ·exact⟨by simp[iz,wj],rfl,rfl,by simp[iz]⟩
set_option maxHeartbeats 4000000 in
theorem so (t:Tree) (hw:wt t≤1000000000):ai ctx 13 [aE t] (.bool (gz t)):=by
 refine oc (C:=ctx) (Fn.of HT rfl) rfl ?_;unfold HS;refine ik (gr fun D=>?_);refine a7 ?_;dsimp only[aE,go_sem];try dsimp only[aE,go_sem]
 refine⟨(by simp[vb]<;>omega),(by simp[vb]<;>omega),?_⟩;refine ik (gr fun D=>?_);refine a7 ?_;dsimp only[aE,go_sem];try dsimp only[aE,go_sem]
 refine⟨(by simp[vb]<;>omega),(by simp[vb]<;>omega),?_⟩;refine ik (ik (gr fun D=>?_));have hn:=(sa t ([ae t]++o7 (0,false)) rfl).DQ D;refine bI [(7,{val:=some (.fn 67 [.ptr 3 0 0]),mem:=some (([ae t]++o7 (0,false))++[ae t])})] ?_;dsimp only[aE,ae,iz,o7,go_sem];try dsimp only[aE,ae,iz,o7,go_sem]
 refine⟨(by simp[vb]<;>omega),?_,?_⟩
 ·exact⟨hn,trivial⟩
 refine rW [1,2,3] rfl ?_;dsimp only[fQ,fq,fU,dG,idxOf,go_sem];have hve:=CK t hw
 refine pH (pI (σ:=Int×Bool) (q:=2) (bt:=2) (k0:=(0,false)) (k':=(qz tY (0,false) 1 t).2) (fo:=o7) (stop:=fun k=>k.2) (junk:=[ae t]) (kb:=ae t) (cells:=[.int .i64 t.kind,aa t.steps,.int .i64 t.cell,.int .i64 t.pos,an t.kids]) (g0:=[(2,.ptr 0 0 0),(3,.ptr 1 0 0)]) (rv:=.pv (.tup [])) rfl (by omega) rfl rfl rfl (by simp[ae]) (by kernel_rfl) (fun _=>rfl) Em rfl rfl (by (repeat' (first|exact trivial|refine And.intro (by first|rfl|(simp[get,Nat.beq];done)|(simp[get,Nat.beq];omega)|(dsimp only[get];congr 1<;>first|rfl|omega|(simp;done)|(simp;omega))) ?_))) (by omega) (by omega) (by omega) ?_ (fun hst=>?_) (fun hst=>?_))
 ·intro w0 w1 S γ l L hX hround;refine pL (X:=⟨_,hX.hE,_⟩) l tY (fun k=>k.2=false) (fun k lev u hk hst=>?_) (fun k lev u μ hk hμ hwu hl0 hl1=>hround (.int .i64 lev) (aE u) k _ (tY k lev u).1 μ hk ?_ ?_) t hw (0,false) rfl
  ·simp only[tY,Bool.not_eq_true']at hst ⊢;exact hst
  ·simp only[tY,Bool.not_not]
  ·refine qJ (ka false [] ?_);dsimp only[aE,aa,an,iz,o7,cB,go_sem];refine⟨by simp[aF],by simp[aO],?_⟩;refine ka false [] ?_;dsimp only[aE,aa,an,iz,o7,cB,go_sem];refine⟨by simp[aF],by simp[aO],?_⟩;have hnode:=D9 u hwu;refine pG (qJ (ka false [(5,{mode:=1})] ?_));dsimp only[aE,aa,an,iz,o7,cB,go_sem];have hsl:u.steps.length≤1000000000:=by
    obtain⟨kd,s,c,a,ks⟩:=u;rw[cJ]at hwu;simp only[Tree.steps];omega
   refine⟨by simp[aF,lD,hJ];omega,by simp[aO],?_⟩;have hst:tY k lev u=(!(bif decide (4096<lev) then true else bif decide (65536<IntKind.i64.wrap (k.1+(1+(u.steps.length:Int)))) then true else !qp u),IntKind.i64.wrap (k.1+(1+u.steps.length)),bif decide (4096<lev) then true else bif decide (65536<IntKind.i64.wrap (k.1+(1+(u.steps.length:Int)))) then true else !qp u):=rfl;rw[hst];unfold aE aa an at hnode;refine qJ (ka true [(8,{val:=some (.pv (.bool (qp u)))})] ?_);dsimp only[aE,aa,an,iz,o7,cB,go_sem];generalize decide (4096<lev)=A
   generalize decide (65536<IntKind.i64.wrap (k.1+(1+(u.steps.length:Int))))=B;generalize qp u=N at *;refine⟨by simp[aF],by cases A<;>cases B<;>simp[aO,aF]<;>exact hnode,?_⟩;refine B4 rfl ?_;cases A<;>cases B<;>cases N;all_goals first
    |(
     refine B5 ?_;exact⟨rfl,_,rfl⟩)
    |(
     refine qJ (ka false [] ?_);dsimp only[aE,aa,an,iz,o7,cB,go_sem];refine⟨by simp[aF],by simp[aO],?_⟩;refine DN ?_;exact⟨rfl,_,rfl⟩)
 ·rw[hve,Bool.not_eq_false']at hst;refine gr fun D=>?_
  repeat' (first
   |((with_reducible first|show aF _|show aO _);simp[vb]<;>omega)
   |exact(rfl:some _=_)
   |(
    fail_if_success refine aV ?_
    refine a7 ?_;repeat1' dsimp only[HS,iz,o7,go_sem]
    first
    |refine aW ?_ ?_ rfl ?_
    |apply aX
    |apply aY
    |(refine aZ (fun hc=>?_) fun hc=>?_<;>first|(cases hc;done)|(exfalso;simp at hc<;>omega)|(try simp only[bn]at hc;try contradiction))
    |skip))
  rw[hst]
 ·rw[hve,Bool.not_eq_true']at hst;rw[hst];dsimp only[cC,cB,o7,iz,go_sem];exact⟨by simp[aF],rfl⟩
end Pur
end
section
namespace Rf
def mc (x:bj):List UInt8:=(if x.kind=1 then [103,114,97,112,104,32] else [114,111,119,32])++Lib.itoa x.index++[32]++Lib.itoa x.cell++[10]
def jO (k c a:Int) (n:Nat):List UInt8 :=
 if k=1 then [115,112,108,105,116,32]++Lib.itoa c++[32]++Lib.itoa a++[10]
 else if k=2 then [99,97,115,101,115,32]++Lib.itoa n++[10]
 else [99,108,111,115,101,100,10]
def ga:Tree→List UInt8
 | .node k s c a l=>(s.map mc).flatten++jO k c a l.length++(l.attach.map fun x=>ga x.1).flatten
decreasing_by
 have:=List.sizeOf_lt_of_mem x.2;simp;omega
theorem ju (k:Int) (s:List bj) (c a:Int) (l:List Tree):ga (.node k s c a l)=(s.map mc).flatten++jO k c a l.length++(l.map ga).flatten:=by
 rw[ga,attach_map]
end Rf
namespace Pur
open Go.RowKit
attribute [local go_sem] bG eW bN bu dt fP List.map a8 aH get put tmpsOf dD iL gy im conds ev cond_true cond_false Nat.beq Nat.ble Nat.add quiet dE cB cC ox List.append_eq List.nil_append List.cons_append dC cf cg cj ck cp cu eV eQ di iN dB calm quiet.isCallK cF List.getElem?_cons_zero List.getElem?_cons_succ bk bW cellsOf List.all bA List.length_cons List.length_nil eI bc List.drop List.take List.getD Option.getD_some qc qd pz qe qf qg ef fZ eg eh setAt List.set Nat.reduceAdd Nat.reduceMul cx bq refsOf bD bJ scalar cw dZ bT cv aM after freeze gV gF aS dm dK dd ew cR cS bZ cT cU cX cY cZ c6 c7 c8 da db dc b6 b7 b8 dj iO bytesOf bE cM aR bB dP bw bO cG still bM dY du dR bL ey List.isEmpty b9 ca cd Int.reduceToNat Nat.mul_one Nat.reduceSub nY cN bY dL cE look dM strip guarded fC eA eH cL dQ dk gP cV cW Bool.or_false Bool.or_true Bool.and_true Bool.and_false Nat.blt fQ fq fU dG idxOf gG gH iM eT aM my
open Rf
theorem me {x:bj} (h:br x=true):(0≤x.index∧x.index≤2048)∧(-1≤x.cell∧x.cell≤127):=by
 simp only[br,aK,Bool.and_eq_true,decide_eq_true_eq]at h;split at h<;>omega
theorem nk {k c a:Int} {n:Nat} (h:cD k c a n=true):(0≤c∧c≤127)∧(-1000000≤a∧a≤1000000):=by
 simp only[cD,aK]at h;(repeat' split at h)<;>simp only[Bool.and_eq_true,decide_eq_true_eq,Bool.false_eq_true]at h<;>omega
theorem wX {x:bj} (h:br x=true):(mc x).length≤60:=by
 have h1:=me h;have h2:=kD x.index (by omega) (by omega);have h3:=kD x.cell (by omega) (by omega);unfold mc;split<;>simp only[List.length_append,List.length_cons,List.length_nil]<;>omega
theorem pV {k c a:Int} {n:Nat} (h:cD k c a n=true) (hn:n≤1000000000):(jO k c a n).length≤60:=by
 have h1:=nk h;have h2:=kD c (by omega) (by omega);have h3:=kD a (by omega) (by omega);have h4:=kD n (by omega) (by omega);unfold jO;(repeat' split)<;>simp only[List.length_append,List.length_cons,List.length_nil]<;>omega
theorem sq:∀(s:List bj),s.all br=true→(s.map mc).flatten.length≤60*s.length
 |[],_=>by simp
 |x::r,h=>by
  rw[List.all_cons,Bool.and_eq_true]at h;have h1:=wX h.1;have h2:=sq r h.2;rw[List.map_cons,List.flatten_cons,List.length_append,List.length_cons];omega
theorem tZ:∀(l:List Tree),(∀t∈l,(ga t).length≤60*wt t)→(l.map ga).flatten.length≤60*iH l
 |[],_=>by simp
 |t::r,h=>by
  have h1:=h t (by simp);have h2:=tZ r fun x hx=>h x (by simp[hx])
  rw[List.map_cons,List.flatten_cons,List.length_append,iH];omega
theorem A6:∀(t:Tree),ec t=true→wt t≤1000000000→(ga t).length≤60*wt t:=by
 refine Tree.ind fun k s c a l ih h hw=>?_
 rw[dO,Bool.and_eq_true,Bool.and_eq_true]at h;rw[cJ]at hw;have hl:=il l;have h1:=sq s h.1.1;have h2:=pV h.1.2 (by omega);have:∀(l:List Tree),(∀t∈l,ec t=true→wt t≤1000000000→(ga t).length≤60*wt t)→l.all ec=true→iH l≤1000000000→(l.map ga).flatten.length≤60*iH l:=fun l=>by
  induction l with
  |nil=>intro _ _ _;simp
  |cons t r ihr =>
   intro hh ha hb;rw[List.all_cons,Bool.and_eq_true]at ha;rw[iH]at hb ⊢;have h3:=hh t (by simp) ha.1 (by omega);have h4:=ihr (fun x hx=>hh x (by simp[hx])) ha.2 (by omega);rw[List.map_cons,List.flatten_cons,List.length_append];omega
 have h5:=this l ih h.2 (by omega);rw[ju,cJ];simp only[List.length_append];omega
def c53:az:=(⟨_,by conv=>(lhs;reduce;try simp only[ei,Int.cast_ofNat_Int,Int.reduceNegSucc,UInt8.reduceOfNat])⟩:{x // codeOf Tryz.prog 53 (fun _=>false)=some x}).1
end Pur
end
section
namespace Rf
def dw (w:List UInt8) (ns:List Int):List UInt8:=w++(ns.map fun n=>32::Lib.itoa n).flatten++[10]
def mr (ns:List Int):List UInt8:=(ns.map fun n=>32::Lib.itoa n).flatten
theorem ss (l:List Int) (n:Int):mr (l++[n])=mr l++32::Lib.itoa n:=by simp[mr]
end Rf
namespace Pur
open Go.RowKit
attribute [local go_sem] bG eW bN bu dt fP List.map a8 aH get put tmpsOf dD iL gy im conds ev cond_true cond_false Nat.beq Nat.ble Nat.add quiet dE cB cC ox List.append_eq List.nil_append List.cons_append dC cf cg cj ck cp cu eV eQ di iN dB calm quiet.isCallK cF List.getElem?_cons_zero List.getElem?_cons_succ bk bW cellsOf List.all bA List.length_cons List.length_nil eI bc List.drop List.take List.getD Option.getD_some qc qd pz qe qf qg ef fZ eg eh setAt List.set Nat.reduceAdd Nat.reduceMul cx bq refsOf bD bJ scalar cw dZ bT cv aM after freeze gV gF aS dm dK dd ew cR cS bZ cT cU cX cY cZ c6 c7 c8 da db dc b6 b7 b8 dj iO bytesOf bE cM aR bB dP bw bO cG still bM dY du dR bL ey List.isEmpty b9 ca cd Int.reduceToNat Nat.mul_one Nat.reduceSub nY cN bY dL cE look dM strip guarded fC eA eH cL dQ dk gP cV cW Bool.or_false Bool.or_true Bool.and_true Bool.and_false Nat.blt fQ fq fU dG idxOf gG gH iM eT aM my
open Rf
def fT (μ:AM) (b g r:Nat) (out:List UInt8) (j:Nat):AM:=(μ.set r (eF out j)).set b (dA (.ptr b g 0) (.ref r j 0 out.length) g)
def ba (b g:Nat):fF:=⟨[.ptr b g 0],0,1,75,false⟩
theorem cI {μ:AM} {b g r j:Nat} {out:List UInt8}:(fT μ b g r out j).length=μ.length:=by simp[fT]
theorem G4 {μ:AM} {b g r j:Nat} {out:List UInt8} (hb:b<μ.length):(fT μ b g r out j)[b]?=some (dA (.ptr b g 0) (.ref r j 0 out.length) g):=by
 unfold fT;exact List.getElem?_set_self (by simpa using hb)
theorem G5 {μ:AM} {b g r j:Nat} {out:List UInt8} (hr:r<μ.length) (hne:r≠b):(fT μ b g r out j)[r]?=some (eF out j):=by
 unfold fT;rw[List.getElem?_set_ne (Ne.symm hne)];exact List.getElem?_set_self hr
theorem zG {μ:AM} {b g r j c:Nat} {out:List UInt8} (hb:c≠b) (hr:c≠r):(fT μ b g r out j)[c]?=μ[c]?:=by
 unfold fT;rw[List.getElem?_set_ne (Ne.symm hb),List.getElem?_set_ne (Ne.symm hr)]
theorem En {μ:AM} {b g r j j':Nat} {out out':List UInt8} (hne:r≠b):fT (fT μ b g r out j) b g r out' j'=fT μ b g r out' j':=by
 unfold fT;rw[List.set_comm _ _ (Ne.symm hne),List.set_set,List.set_set]
theorem k6 {μ:AM} {b g r j m:Nat} {out:List UInt8} (h:aP μ m=true) (hb:b<m) (hr:r<m):aP (fT μ b g r out j) m=true:=by
 unfold fT;refine lr (lr h (pM _ _)) ?_;simp[dA,dJ,Nat.blt_eq,hb,hr,Nat.blt,Nat.ble_eq,Nat.succ_le_iff]
theorem pW {μ:AM} (hμ:aP μ μ.length=true) {b g r j:Nat} {old:List UInt8} (hb:b<μ.length) (hr:r<μ.length) (hne:r≠b) (l:List UInt8) (hl:old.length+l.length≤140737488355328) :
  aL ctx 83 [.ptr b g 0,.pv (.str l)] (fT μ b g r old j) (.pv (.tup [.int .i64 l.length,.val .nilIface])) (fT μ b g r (old++l) (j+1)):=by
 have:=ym (μ:=fT μ b g r old j) (by rw[cI];exact k6 hμ hb hr) hne (G4 hb) (G5 hr hne) l hl;have e:((fT μ b g r old j).set r (eF (old++l) (j+1))).set b (dA (.ptr b g 0) (.ref r (j+1) 0 (old.length+l.length)) g)=fT μ b g r (old++l) (j+1):=by
  have:=En (μ:=μ) (b:=b) (g:=g) (r:=r) (j:=j) (j':=j+1) (out:=old) (out':=old++l) hne;rw[←this];conv=>rhs;unfold fT
  rw[List.length_append];rfl
 rw[e]at this;exact this
def H9:az:=(⟨_,by conv=>(lhs;reduce;try simp only[ei,Int.cast_ofNat_Int,Int.reduceNegSucc,UInt8.reduceOfNat])⟩:{x // codeOf Tryz.prog 82 (fun _=>false)=some x}).1
theorem G6:bF Tryz.prog 82 (fun _=>false)=some (H9,[],24,true):=by kernel_rfl
def G7:az:=(⟨_,by conv=>(lhs;reduce;try simp only[ei,Int.cast_ofNat_Int,Int.reduceNegSucc,UInt8.reduceOfNat])⟩:{x // (codeOf Tryz.prog 82 (fun _=>false)).map (fun y=>y.sub [1])=some x}).1
theorem CN (ns:List Int) (hns:∀n∈ns,-10000000000≤n∧n≤10000000000):∀k,k≤ns.length→(mr (ns.take k)).length≤22*k:=by
 intro k;induction k with
 |zero=>intro _;simp[mr]
 |succ k ih =>
  intro hk;rw[aU ns k 0 (by omega),ss,List.length_append,List.length_cons];have:=kD (ns.getD k 0) (hns _ (aQ (by omega))).1 (hns _ (aQ (by omega))).2;have:=ih (by omega);omega
set_option maxHeartbeats 4000000 in
theorem ua {μ:AM} (hμ:aP μ μ.length=true) {m b g r j c:Nat} {old:List UInt8} (hmm:m≤μ.length) (hb:b<μ.length) (hr:r<μ.length) (hne:r≠b) (hcb:c≠b) (hcr:c≠r) (hc:μ[c]?=some (ba b g)) (ns:List Int) (hn:ns.length≤1000) (hns:∀n∈ns,-10000000000≤n∧n≤10000000000) (ho:old.length≤10000001000) {f:AF} (hf:Sub [(1,.pv (.sl ns.length (ns.map (.int .i64)))),(2,.ptr c 0 0)] f) :
  Aw ctx (fun _=>false) 24 m G7 (eA [] (.pv (.tup [])) (fT μ b g r (old++mr ns++[10]) (j+(ns.length+1)))) f (fT μ b g r old j):=by
 have hcl:c<μ.length:=(List.getElem?_eq_some_iff.mp hc).1;have hcell:∀o i,(fT μ b g r o i)[c]?=some (ba b g):=fun o i=>(zG hcb hcr).trans hc
 have hnl:=CN ns hns;refine bH _ hf ?_;unfold G7;refine a7 ?_;simp only[hcell,ba,ax,aq,ar,au,aw,mem_set,aD,go_sem];try simp only[hcell,ba,ax,aq,ar,au,aw,mem_set,aD,go_sem]
 refine⟨(by simp[vb]<;>omega),(by simp[vb]<;>omega),?_⟩;refine cH ?_
 refine bK ns.length (fun _=>True) (fun k=>[(2,.ptr c 0 0),(10,.pv (.sl ns.length (ns.map (.int .i64)))),(11,.pv (.int .i64 ns.length)),(12,.pv (.int .i64 k))]) (fun k=>fT μ b g r (old++mr (ns.take k)) (j+k)) trivial (by (repeat' (first|exact trivial|refine And.intro (by first|rfl|(simp[get,Nat.beq];done)|(simp[get,Nat.beq];omega)|(dsimp only[get];congr 1<;>first|rfl|omega|(simp;done)|(simp;omega))) ?_))) ⟨[],by simp[mr]⟩ (fun k=>⟨by rw[cI];omega,by simp[gj,dJ,cI,Nat.blt,Nat.succ_le_iff,hcl],by rw[cI];exact k6 hμ hb hr⟩) fun k hk _=>?_
 by_cases hlt:k<ns.length
 ·have hnk:=hns _ (aQ (d:=0) hlt);have e:(ns.map (PV.int .i64))[k]?=some (.int .i64 (ns.getD k 0)):=by rw[List.getElem?_map,List.getD,List.getElem?_eq_getElem hlt];rfl
  have e2:=aU ns k 0 hlt;have e0:ns[k]=ns.getD k 0:=by rw[List.getD,List.getElem?_eq_getElem hlt];rfl
  have hli:=kD (ns.getD k 0) hnk.1 hnk.2;have hi:=DV (ns.getD k 0) (by omega) (by omega);have hnum:=hnl k hk;generalize ns.getD k 0=n at *;have h2:=pW (g:=g) (j:=j+k) (old:=old++mr (ns.take k)) hμ hb hr hne (32::Lib.itoa n) (by simp only[List.length_append,List.length_cons];omega);iterate 7 first
   |refine⟨fun _=>?_,fun h=>by simp at h<;>omega⟩
   |refine⟨by simp[vb,e,e0,hlt]<;>omega,by simp[vb,e,e0,hlt]<;>omega,?_⟩
   |(refine bI [(15,{val:=some (.pv (.int .i64 n))})] ?_;iterate 2 (try simp only[hcell,ba,ax,aq,ar,au,aw,mem_set,aD,go_sem]))
  refine kQ (T:=[(84,fun _=>some (.str (Lib.itoa n)))]) (H:=[(20,{val:=some (.pv (.tup [.int .i64 (32::Lib.itoa n).length,.val .nilIface])),mem:=some (fT μ b g r (old++mr (ns.take k)++32::Lib.itoa n) (j+k+1))})]) (by rfl) ?_;simp only[eB,go_sem,hcell,ba];refine⟨by simp[aF,hJ];omega,⟨h2,hi,trivial⟩,?_⟩;refine a7 ?_;simp only[hcell,ba,ax,aq,ar,au,aw,mem_set,aD,go_sem];try simp only[hcell,ba,ax,aq,ar,au,aw,mem_set,aD,go_sem]
  refine⟨(by simp[vb]<;>omega),(by simp[vb]<;>omega),?_⟩;exact⟨hlt,trivial,by (repeat' (first|exact trivial|refine And.intro (by first|rfl|(simp[get,Nat.beq];done)|(simp[get,Nat.beq];omega)|(dsimp only[get];congr 1<;>first|rfl|omega|(simp;done)|(simp;omega))) ?_)),[],by rw[e2,ss,List.append_nil,List.append_assoc,Nat.add_assoc j k 1]⟩
 ·obtain rfl:k=ns.length:=by omega
  rw[List.take_length];have h3:=pW (g:=g) (j:=j+ns.length) (old:=old++mr ns) hμ hb hr hne [10] (by have:=hnl _ (Nat.le_refl _);rw[List.take_length]at this;simp only[List.length_append,List.length_cons,List.length_nil];omega);iterate 5 first
   |refine⟨fun h=>by simp at h<;>omega,fun _=>?_⟩
   |refine⟨by simp[vb]<;>omega,by simp[vb]<;>omega,?_⟩
   |(refine a7 ?_;iterate 2 (try simp only[hcell,ba,ax,aq,ar,au,aw,mem_set,aD,go_sem]))
  refine bI [(23,{val:=some (.pv (.tup [.int .i64 1,.val .nilIface])),mem:=some (fT μ b g r (old++mr ns++[10]) (j+ns.length+1))})] ?_;simp only[hcell,ba,ax,aq,ar,au,aw,mem_set,aD,go_sem];try simp only[hcell,ba,ax,aq,ar,au,aw,mem_set,aD,go_sem]
  refine⟨(by simp[vb]<;>omega),?_,?_⟩
  ·exact⟨h3,trivial⟩
  exact⟨⟨trivial,trivial⟩,[],by simp[Nat.add_assoc]⟩
set_option maxHeartbeats 4000000 in
theorem G8 {μ:AM} (hμ:aP μ μ.length=true) {b g r j c:Nat} {old:List UInt8} (hb:b<μ.length) (hr:r<μ.length) (hne:r≠b) (hcb:c≠b) (hcr:c≠r) (hc:μ[c]?=some (ba b g)) (w:List UInt8) (ns:List Int) (hn:ns.length≤1000) (hns:∀n∈ns,-10000000000≤n∧n≤10000000000) (hw:w.length≤100) (ho:old.length≤10000000000) :
  aL ctx 82 [.pv (.str w),.pv (.sl ns.length (ns.map (.int .i64))),.ptr c 0 0] (fT μ b g r old j) (.pv (.tup [])) (fT μ b g r (old++dw w ns) (j+(ns.length+2))):=by
 have hcell:∀o i,(fT μ b g r o i)[c]?=some (ba b g):=fun o i=>(zG hcb hcr).trans hc
 refine bz (C:=ctx) (Fn.of G6 rfl) rfl (by rw[cI,cI];omega) rfl (by rw[cI];exact k6 hμ hb hr) ?_;rw[cI];unfold H9;have h1:=pW (g:=g) (j:=j) (old:=old) hμ hb hr hne w (by omega);refine bI [(9,{val:=some (.pv (.tup [.int .i64 w.length,.val .nilIface])),mem:=some (fT μ b g r (old++w) (j+1))})] ?_;simp only[hcell,ba,ax,aq,ar,au,aw,mem_set,aD,go_sem];try simp only[hcell,ba,ax,aq,ar,au,aw,mem_set,aD,go_sem]
 refine⟨(by simp[vb]<;>omega),?_,?_⟩
 ·exact⟨h1,trivial⟩
 have:=ua hμ (m:=μ.length) (b:=b) (g:=g) (r:=r) (j:=j+1) (c:=c) (old:=old++w) (Nat.le_refl _) hb hr hne hcb hcr hc ns hn hns (by rw[List.length_append];omega) (f:=[(9,.pv (.tup [.int .i64 w.length,.val .nilIface])),(8,.pv (.str w)),(7,.ptr b g 0),(0,.pv (.str w)),(1,.pv (.sl ns.length (ns.map (.int .i64)))),(2,.ptr c 0 0)]) (by (repeat' (first|exact trivial|refine And.intro (by first|rfl|(simp[get,Nat.beq];done)|(simp[get,Nat.beq];omega)|(dsimp only[get];congr 1<;>first|rfl|omega|(simp;done)|(simp;omega))) ?_)))
 rw[List.append_assoc old w,List.append_assoc old,show j+1+(ns.length+1)=j+(ns.length+2) by omega]at this;exact this
set_option maxHeartbeats 4000000 in
theorem Fl {μ:AM} (hμ:aP μ μ.length=true) {b g c:Nat} (hk:μ[b]?=some (dA (.pv (.val (.pointer none))) (.pv .nilsl) g)) (hcb:c≠b) (hc:μ[c]?=some (ba b g)) (w:List UInt8) (ns:List Int) (hn:ns.length≤1000) (hns:∀n∈ns,-10000000000≤n∧n≤10000000000) (hw0:1≤w.length) (hw:w.length≤100) :
  aL ctx 82 [.pv (.str w),.pv (.sl ns.length (ns.map (.int .i64))),.ptr c 0 0] μ (.pv (.tup [])) (fT (μ++[eF [] 0]) b g μ.length (dw w ns) (ns.length+1)):=by
 have hb:b<μ.length:=(List.getElem?_eq_some_iff.mp hk).1;have hcl:c<μ.length:=(List.getElem?_eq_some_iff.mp hc).1;have hl:(μ++[eF [] 0]).length=μ.length+1:=by simp
 have hok:aP (μ++[eF [] 0]) (μ++[eF [] 0]).length=true:=by rw[hl];exact ki (jt hμ (by omega)) rfl
 have hc1:(μ++[eF [] 0])[c]?=some (ba b g):=by rw[List.getElem?_append_left hcl];exact hc
 have h1:=wI hμ hk w hw0 (by omega);have e:μ.set b (dA (.ptr b g 0) (.ref μ.length 0 0 w.length) g)++[eF w 0]=fT (μ++[eF [] 0]) b g μ.length w 0:=by
  unfold fT;rw[mem_set,List.set_append_left _ _ hb]
 rw[e]at h1;refine bz (C:=ctx) (Fn.of G6 rfl) rfl (by rw[cI,hl];omega) rfl (by rw[cI];exact k6 hok (by omega) (by omega)) ?_;unfold H9;refine bI [(9,{val:=some (.pv (.tup [.int .i64 w.length,.val .nilIface])),mem:=some (fT (μ++[eF [] 0]) b g μ.length w 0)})] ?_;simp only[hc,ba,ax,aq,ar,au,aw,mem_set,aD,go_sem];try simp only[hc,ba,ax,aq,ar,au,aw,mem_set,aD,go_sem]
 refine⟨(by simp[vb]<;>omega),?_,?_⟩
 ·exact⟨h1,trivial⟩
 have:=ua hok (m:=μ.length) (b:=b) (g:=g) (r:=μ.length) (j:=0) (c:=c) (old:=w) (by omega) (by omega) (by omega) (by omega) hcb (by omega) hc1 ns hn hns (by omega) (f:=[(9,.pv (.tup [.int .i64 w.length,.val .nilIface])),(8,.pv (.str w)),(7,.ptr b g 0),(0,.pv (.str w)),(1,.pv (.sl ns.length (ns.map (.int .i64)))),(2,.ptr c 0 0)]) (by (repeat' (first|exact trivial|refine And.intro (by first|rfl|(simp[get,Nat.beq];done)|(simp[get,Nat.beq];omega)|(dsimp only[get];congr 1<;>first|rfl|omega|(simp;done)|(simp;omega))) ?_)));rw[Nat.zero_add]at this;exact this
theorem aL.Ab {C:Ctx} {g:FuncId} {al al':List AV} {μ μ':AM} {r:AV} (h:aL C g al μ r μ') (hw:PW CW al' al):aL C g al' μ r μ' :=
 ⟨h.1,fun w0 S γ w vs hW hp=>h.2 w0 S γ w vs hW ⟨hw.len.symm.trans hp.len,fun i a v ha hv=>by
  have hi:i<al'.length:=by rw[hw.len];exact(List.getElem?_eq_some_iff.mp ha).1
  exact hw.at_ i _ a (List.getElem?_eq_getElem hi) ha w S γ v (hp.at_ i _ v (List.getElem?_eq_getElem hi) hv)⟩⟩
end Pur
end
section
namespace Rf
def jP (k:Int):Nat:=if k=1 then 4 else if k=2 then 3 else 2
def fK:Tree→Nat
 | .node k s c a l=>4*s.length+jP k+(l.attach.map fun x=>fK x.1).sum
decreasing_by
 have:=List.sizeOf_lt_of_mem x.2;simp;omega
theorem o8 (k:Int) (s:List bj) (c a:Int) (l:List Tree):fK (.node k s c a l)=4*s.length+jP k+(l.map fK).sum:=by
 rw[fK,attach_map]
def lA (l:List Tree):List UInt8:=(l.map ga).flatten
theorem yz (l:List Tree) (t:Tree):lA (l++[t])=lA l++ga t:=by simp[lA]
def j0 (l:List Tree):Nat:=(l.map fK).sum
theorem yA (l:List Tree) (t:Tree):j0 (l++[t])=j0 l+fK t:=by simp[j0]
def fS (s:List bj):List UInt8:=(s.map mc).flatten
theorem np (s:List bj) (x:bj):fS (s++[x])=fS s++mc x:=by simp[fS]
theorem ub (x:bj):mc x=if x.kind=1 then dw [103,114,97,112,104] [x.index,x.cell] else dw [114,111,119] [x.index,x.cell]:=by
 unfold mc dw;split<;>simp
theorem su (k c a:Int) (n:Nat):jO k c a n=if k=1 then dw [115,112,108,105,116] [c,a] else if k=2 then dw [99,97,115,101,115] [(n:Int)] else dw [99,108,111,115,101,100] []:=by
 unfold jO dw;split
 ·simp
 ·split<;>simp
end Rf
namespace Pur
open Go.RowKit
attribute [local go_sem] bG eW bN bu dt fP List.map a8 aH get put tmpsOf dD iL gy im conds ev cond_true cond_false Nat.beq Nat.ble Nat.add quiet dE cB cC ox List.append_eq List.nil_append List.cons_append dC cf cg cj ck cp cu eV eQ di iN dB calm quiet.isCallK cF List.getElem?_cons_zero List.getElem?_cons_succ bk bW cellsOf List.all bA List.length_cons List.length_nil eI bc List.drop List.take List.getD Option.getD_some qc qd pz qe qf qg ef fZ eg eh setAt List.set Nat.reduceAdd Nat.reduceMul cx bq refsOf bD bJ scalar cw dZ bT cv aM after freeze gV gF aS dm dK dd ew cR cS bZ cT cU cX cY cZ c6 c7 c8 da db dc b6 b7 b8 dj iO bytesOf bE cM aR bB dP bw bO cG still bM dY du dR bL ey List.isEmpty b9 ca cd Int.reduceToNat Nat.mul_one Nat.reduceSub nY cN bY dL cE look dM strip guarded fC eA eH cL dQ dk gP cV cW Bool.or_false Bool.or_true Bool.and_true Bool.and_false Nat.blt fQ fq fU dG idxOf gG gH iM eT aM my
open Rf
theorem qO {μ:AM} {b g r j:Nat} {o:List UInt8} (hb:b<μ.length) (hr:r<μ.length) (tl:AM):fT μ b g r o j++tl=fT (μ++tl) b g r o j:=by
 unfold fT;rw[List.set_append_left _ _ hr,List.set_append_left _ _ (by simpa using hb)]
def Ia:az:=(⟨_,by conv=>(lhs;reduce;try simp only[ei,Int.cast_ofNat_Int,Int.reduceNegSucc,UInt8.reduceOfNat])⟩:{x // codeOf Tryz.prog 50 (fun _=>false)=some x}).1
theorem G9:bF Tryz.prog 50 (fun _=>false)=some (Ia,[],67,true):=by kernel_rfl
def Ha:az:=(⟨_,by conv=>(lhs;reduce;try simp only[ei,Int.cast_ofNat_Int,Int.reduceNegSucc,UInt8.reduceOfNat])⟩:{x // (codeOf Tryz.prog 50 (fun _=>false)).map (fun y=>y.sub [1,1,0,1,0,0])=some x}).1
def Eo:az:=(⟨_,by conv=>(lhs;reduce;try simp only[ei,Int.cast_ofNat_Int,Int.reduceNegSucc,UInt8.reduceOfNat])⟩:{x // (codeOf Tryz.prog 50 (fun _=>false)).map (fun y=>y.sub [1,1,1])=some x}).1
def Hb:az:=(⟨_,by conv=>(lhs;reduce;try simp only[ei,Int.cast_ofNat_Int,Int.reduceNegSucc,UInt8.reduceOfNat])⟩:{x // (codeOf Tryz.prog 50 (fun _=>false)).map (fun y=>y.sub [1,1,1,1])=some x}).1
structure td (μ:AM) (b g r:Nat) (t:Tree):Prop where
 ok:aP μ μ.length=true
 hb:b<μ.length
 hr:r<μ.length
 ne:r≠b
 hf:ec t=true
 hw:wt t≤1000000
def j3 (μ:AM) (b g:Nat) (t:Tree):AM:=μ++[ba b g,ae t]
section
variable {μ:AM} {b g r:Nat} {t:Tree}
theorem o9:(j3 μ b g t).length=μ.length+2:=by simp[j3]
theorem CO (h:td μ b g r t) (o:List UInt8) (i:Nat):(fT (j3 μ b g t) b g r o i)[μ.length]?=some (ba b g):=by
 rw[zG (by have:=h.hb;omega) (by have:=h.hr;omega),j3,List.getElem?_append_right (Nat.le_refl _),Nat.sub_self];rfl
theorem CP (h:td μ b g r t) (o:List UInt8) (i:Nat):(fT (j3 μ b g t) b g r o i)[μ.length+1]?=some (ae t):=by
 rw[zG (by have:=h.hb;omega) (by have:=h.hr;omega),j3,List.getElem?_append_right (by omega),show μ.length+1-μ.length=1 by omega];rfl
theorem pX (h:td μ b g r t):aP (j3 μ b g t) (j3 μ b g t).length=true:=by
 rw[o9];have h1:=jt h.ok (m':=μ.length+2) (by omega);have h2:=ki (k:=ba b g) h1 (by have:=h.hb;simp only[ba,List.all_cons,List.all_nil,Bool.and_true,dJ];exact Nat.blt_eq.mpr (by omega));have h3:=ki (k:=ae t) h2 rfl;simpa [j3]using h3
theorem yB {x:fF} {o:List UInt8} {i q:Nat} (hq:q<(j3 μ b g t).length):(fT (j3 μ b g t) b g r o i++[x])[q]?=(fT (j3 μ b g t) b g r o i)[q]?:=List.getElem?_append_left (by rw[cI];exact hq)
end
def vl (x:bj):fF:=⟨[.pv (.int .i64 x.kind),.pv (.int .i64 x.index),.pv (.int .i64 x.cell)],0,3,66,false⟩
def zH (n:Nat) (s:List bj) (k:Nat):AF:=[(2,.ptr n 0 0),(3,.ptr (n+1) 0 0),(4,.fn 82 [.ptr n 0 0]),(11,.pv (.sl s.length (s.flatMap aG))),(12,.pv (.int .i64 s.length)),(13,.pv (.int .i64 k))]
theorem ve {μ:AM} {b g r:Nat} {t:Tree} (h:td μ b g r t) (tl:AM) (htl:aP (j3 μ b g t++tl) (j3 μ b g t++tl).length=true) (w:List UInt8) (ns:List Int) (o:List UInt8) (j:Nat) (hn:ns.length≤1000) (hns:∀n∈ns,-10000000000≤n∧n≤10000000000) (hw:w.length≤100) (ho:o.length≤10000000000) :
  aL ctx 82 [.pv (.str w),.pv (.sl ns.length (ns.map (.int .i64))),.ptr μ.length 0 0] (fT (j3 μ b g t) b g r o j++tl) (.pv (.tup [])) (fT (j3 μ b g t) b g r (o++dw w ns) (j+(ns.length+2))++tl):=by
 have hl:=o9 (μ:=μ) (b:=b) (g:=g) (t:=t);have hb:=h.hb;have hr:=h.hr;have e:∀o j,fT (j3 μ b g t) b g r o j++tl=fT (j3 μ b g t++tl) b g r o j:=fun o j=>qO (by omega) (by omega) tl
 rw[e,e];refine G8 htl (by rw[List.length_append];omega) (by rw[List.length_append];omega) h.ne (by omega) (by omega) ?_ w ns hn hns hw ho;rw[List.getElem?_append_left (by omega)];simp[j3]
set_option maxHeartbeats 4000000 in
theorem sw {μ:AM} {b g r:Nat} {kd c a:Int} {s:List bj} {ks:List Tree} (h:td μ b g r (.node kd s c a ks)) {m:Nat} {R:Exit→AF→AM→Prop} {o:List UInt8} {j k:Nat} (hlt:k<s.length) (ho:o.length≤1000000000) :
  Aw ctx (fun _=>false) 67 m Ha (cB (fun f' μ'=>Sub (zH μ.length s (k+1)) f'∧∃junk,μ'=fT (j3 μ b g (.node kd s c a ks)) b g r (o++mc (s.getD k zs)) (j+4)++junk) R) (zH μ.length s k) (fT (j3 μ b g (.node kd s c a ks)) b g r o j):=by
 have hf:=h.hf;rw[dO]at hf;simp only[Bool.and_eq_true]at hf;have hxo:br (s.getD k zs)=true:=List.all_eq_true.mp hf.1.1 _ (aQ hlt);have hw:=h.hw;rw[cJ]at hw;have e:=cK dN s k zs hlt;have hle:=iv s;generalize s.getD k zs=x at *;obtain⟨b1,b2⟩:=me hxo;have hkind:x.kind=0∨x.kind=1:=by
  simp[br,aK]at hxo;omega
 have hok3:aP (j3 μ b g (.node kd s c a ks)++[vl x]) (j3 μ b g (.node kd s c a ks)++[vl x]).length=true:=by
  rw[List.length_append,List.length_singleton];exact ki (jt (pX h) (by omega)) rfl
 have hc:=CO h;have hlen:∀o i,(fT (j3 μ b g (.node kd s c a ks)) b g r o i).length=μ.length+2:=fun o i=>by rw[cI,o9]
 unfold Ha zH;obtain⟨xk,xi,xc⟩:=x;simp only at b1 b2 hkind;have hb2:∀n∈[xi,xc],-10000000000≤n∧n≤10000000000:=by
  intro n hn;simp only[List.mem_cons,List.not_mem_nil,or_false]at hn;rcases hn with rfl|rfl<;>omega
 have h6:=ve h [vl ⟨xk,xi,xc⟩] hok3 [114,111,119] [xi,xc] o j (by simp) hb2 (by decide) (by omega);have h7:=ve h [vl ⟨xk,xi,xc⟩] hok3 [103,114,97,112,104] [xi,xc] o j (by simp) hb2 (by decide) (by omega);rw[ub];simp only;rcases hkind with rfl|rfl
 ·iterate 9 first
   |refine⟨fun _=>?_,fun h=>by simp at h<;>omega⟩
   |refine⟨by simp[vb,e,hle,hlt,aG]<;>omega,by simp[vb,e,hle,hlt,aG]<;>omega,?_⟩
   |(refine bI [(16,{val:=some (.pv (.agg (aG ⟨0,xi,xc⟩)))})] ?_;iterate 2 (try simp only[ba,aG,ax,aq,ar,au,aw,mem_set,aD,go_sem]))
  refine bI [(26,{val:=some (.pv (.tup [])),mem:=some (fT (j3 μ b g (.node kd s c a ks)) b g r (o++dw [114,111,119] [xi,xc]) (j+4)++[vl ⟨0,xi,xc⟩])})] ?_;simp only[ba,aG,ax,aq,ar,au,aw,mem_set,aD,go_sem];refine⟨fun _=>?_,fun h=>by simp at h<;>omega⟩;refine bI [(26,{val:=some (.pv (.tup [])),mem:=some (fT (j3 μ b g (.node kd s c a ks)) b g r (o++dw [114,111,119] [xi,xc]) (j+4)++[vl ⟨0,xi,xc⟩])})] ?_;simp only[ba,aG,ax,aq,ar,au,aw,mem_set,aD,go_sem]
  try simp only[ba,aG,ax,aq,ar,au,aw,mem_set,aD,go_sem]
  refine⟨(by simp[vb,e,hle,hlt]<;>omega),?_,?_⟩
  ·exact⟨h6,trivial⟩
  refine a7 ?_;simp only[ba,aG,ax,aq,ar,au,aw,mem_set,aD,go_sem];try simp only[ba,aG,ax,aq,ar,au,aw,mem_set,aD,go_sem]
  refine⟨(by simp[vb,e,hle,hlt]<;>omega),(by simp[vb,e,hle,hlt]<;>omega),?_⟩;exact⟨by (repeat' (first|exact trivial|refine And.intro (by first|rfl|(simp[get,Nat.beq];done)|(simp[get,Nat.beq];omega)|(dsimp only[get];congr 1<;>first|rfl|omega|(simp;done)|(simp;omega))) ?_)),_,rfl⟩
 ·iterate 9 first
   |refine⟨fun _=>?_,fun h=>by simp at h<;>omega⟩
   |refine⟨by simp[vb,e,hle,hlt,aG]<;>omega,by simp[vb,e,hle,hlt,aG]<;>omega,?_⟩
   |(refine bI [(16,{val:=some (.pv (.agg (aG ⟨1,xi,xc⟩)))})] ?_;iterate 2 (try simp only[ba,aG,ax,aq,ar,au,aw,mem_set,aD,go_sem]))
  refine bI [(33,{val:=some (.pv (.tup [])),mem:=some (fT (j3 μ b g (.node kd s c a ks)) b g r (o++dw [103,114,97,112,104] [xi,xc]) (j+4)++[vl ⟨1,xi,xc⟩])})] ?_;simp only[ba,aG,ax,aq,ar,au,aw,mem_set,aD,go_sem];refine⟨fun h=>by simp at h<;>omega,fun _=>?_⟩;refine bI [(33,{val:=some (.pv (.tup [])),mem:=some (fT (j3 μ b g (.node kd s c a ks)) b g r (o++dw [103,114,97,112,104] [xi,xc]) (j+4)++[vl ⟨1,xi,xc⟩])})] ?_;simp only[ba,aG,ax,aq,ar,au,aw,mem_set,aD,go_sem]
  try simp only[ba,aG,ax,aq,ar,au,aw,mem_set,aD,go_sem]
  refine⟨(by simp[vb,e,hle,hlt]<;>omega),?_,?_⟩
  ·exact⟨h7,trivial⟩
  refine a7 ?_;simp only[ba,aG,ax,aq,ar,au,aw,mem_set,aD,go_sem];try simp only[ba,aG,ax,aq,ar,au,aw,mem_set,aD,go_sem]
  refine⟨(by simp[vb,e,hle,hlt]<;>omega),(by simp[vb,e,hle,hlt]<;>omega),?_⟩;exact⟨by (repeat' (first|exact trivial|refine And.intro (by first|rfl|(simp[get,Nat.beq];done)|(simp[get,Nat.beq];omega)|(dsimp only[get];congr 1<;>first|rfl|omega|(simp;done)|(simp;omega))) ?_)),_,rfl⟩
theorem CQ {μ:AM} (h:aP μ μ.length=true) (t:Tree):aP (μ++[ae t]) (μ++[ae t]).length=true:=by
 rw[List.length_append,List.length_singleton];exact ki (jt h (by omega)) rfl
def qP (x:Tree):Prop:=∀(μ:AM) (b g r:Nat) (o:List UInt8) (j:Nat),td μ b g r x→o.length+60*wt x≤1000000000 →
 aL ctx 50 [.ptr b g 0,.pv (aE x)] (fT μ b g r o j) (.pv (.tup [])) (fT μ b g r (o++ga x) (j+fK x))
theorem zI {μ:AM} {b g r:Nat} {t:Tree} (h:td μ b g r t) (o:List UInt8) (j:Nat):fT (j3 μ b g t) b g r o j=fT μ b g r o j++[ba b g,ae t]:=(qO h.hb h.hr _).symm
set_option maxHeartbeats 4000000 in
theorem sy {μ:AM} {b g r:Nat} {kd c a:Int} {s:List bj} {ks:List Tree} (h:td μ b g r (.node kd s c a ks)) {m:Nat} (hm:m≤μ.length) (ih:∀x∈ks,qP x) {o:List UInt8} {j:Nat} (ho:o.length+60*iH ks≤1000000000) {f:AF} (hf:Sub [(2,.ptr μ.length 0 0),(3,.ptr (μ.length+1) 0 0)] f) :
  Aw ctx (fun _=>false) 67 m Hb (eA [] (.pv (.tup [])) (fT μ b g r (o++lA ks) (j+j0 ks))) f (fT (j3 μ b g (.node kd s c a ks)) b g r o j):=by
 have hft:=h.hf;rw[dO]at hft;simp only[Bool.and_eq_true]at hft;have hw:=h.hw;rw[cJ]at hw;have hwl:=il ks;have hb:=h.hb;have hr:=h.hr;have hc:=CO h;have ht:=CP h;have hL:=o9 (μ:=μ) (b:=b) (g:=g) (t:=.node kd s c a ks);have htx:∀l:List Tree,(∀x∈l,x∈ks)→(lA l).length≤60*iH l:=fun l hl=>tZ l fun x hx=>A6 x (List.all_eq_true.mp hft.2 _ (hl x hx)) (by have:=jU (hl x hx);omega)
 refine bH _ hf ?_;unfold Hb;refine a7 ?_;simp only[ht,ae,Tree.kind,Tree.steps,Tree.cell,Tree.pos,Tree.kids,an,ax,aq,ar,au,aw,mem_set,aD,go_sem];try simp only[ht,ae,Tree.kind,Tree.steps,Tree.cell,Tree.pos,Tree.kids,an,ax,aq,ar,au,aw,mem_set,aD,go_sem]
 refine⟨(by simp[vb]<;>omega),(by simp[vb]<;>omega),?_⟩;refine cH ?_
 refine bK ks.length (fun _=>True) (fun k=>[(2,.ptr μ.length 0 0),(57,.pv (.sl ks.length (ks.flatMap gu))),(58,.pv (.int .i64 ks.length)),(59,.pv (.int .i64 k))]) (fun k=>fT (j3 μ b g (.node kd s c a ks)) b g r (o++lA (ks.take k)) (j+j0 (ks.take k))) trivial (by (repeat' (first|exact trivial|refine And.intro (by first|rfl|(simp[get,Nat.beq];done)|(simp[get,Nat.beq];omega)|(dsimp only[get];congr 1<;>first|rfl|omega|(simp;done)|(simp;omega))) ?_))) ⟨[],by simp[lA,j0]⟩ (fun k=>⟨by rw[cI,hL];omega,by simp only[gj,List.all_cons,List.all_nil,dJ,cI,hL,Bool.and_true];exact Nat.blt_eq.mpr (by omega),by rw[cI];exact k6 (pX h) (by omega) (by omega)⟩) fun k hk _=>?_
 by_cases hlt:k<ks.length
 ·have e:=fR ks k hlt;have hle:=gJ ks;have hmem:=aQ (d:=zt) hlt;have hx:=ih _ hmem;have hfx:=List.all_eq_true.mp hft.2 _ hmem;have hwx:=jU hmem;have e2:=aU ks k zt hlt;have htk:=htx (ks.take k) fun x hx=>List.mem_of_mem_take hx
  have hws:iH (ks.take k)+wt (ks.getD k zt)≤iH ks:=by
   have h1:=wE ks (k+1);rw[e2,l5]at h1;simpa [iH]using h1
  generalize ks.getD k zt=x at *;have hok3:=CQ (pX h) x;have hcall:=hx (j3 μ b g (.node kd s c a ks)++[ae x]) b g r (o++lA (ks.take k)) (j+j0 (ks.take k)) ⟨hok3,by rw[List.length_append];omega,by rw[List.length_append];omega,h.ne,hfx,by omega⟩ (by rw[List.length_append];omega);rw[←qO (by omega) (by omega),←qO (by omega) (by omega)]at hcall;obtain⟨xk,xs,xc,xa,xl⟩:=x;simp only[Tree.kind,Tree.steps,Tree.cell,Tree.pos,Tree.kids]at e;iterate 7 first
   |refine⟨fun _=>?_,fun h=>by simp at h<;>omega⟩
   |refine⟨by simp[vb,e,hle,hlt,aa,an]<;>omega,by simp[vb,e,hle,hlt,aa,an]<;>omega,?_⟩
   |(refine bI [(62,{val:=some (.pv (.agg [.int .i64 xk,aa xs,.int .i64 xc,.int .i64 xa,an xl]))})] ?_;iterate 2 (try simp only[ht,ae,aa,an,ax,aq,ar,au,aw,mem_set,aD,go_sem]))
  have hc2:∀(o:List UInt8) (i:Nat) (y:fF),(fT (j3 μ b g (.node kd s c a ks)) b g r o i++[y])[μ.length]?=some (ba b g):=fun o i y=>(yB (by omega)).trans (hc o i)
  refine bI [(65,{val:=some (.pv (.tup [])),mem:=some (fT (j3 μ b g (.node kd s c a ks)) b g r (o++lA (ks.take k)++ga (.node xk xs xc xa xl)) (j+j0 (ks.take k)+fK (.node xk xs xc xa xl))++[ae (.node xk xs xc xa xl)])})] ?_;simp only[hc2,ba,ax,aq,ar,au,aw,mem_set,aD,go_sem];try simp only[hc2,ba,ax,aq,ar,au,aw,mem_set,aD,go_sem]
  refine⟨(by simp[vb]<;>omega),?_,?_⟩
  ·exact⟨hcall,trivial⟩
  refine a7 ?_;simp only[ht,ax,aq,ar,au,aw,mem_set,aD,go_sem];try simp only[ht,ax,aq,ar,au,aw,mem_set,aD,go_sem]
  refine⟨(by simp[vb,hlt]<;>omega),(by simp[vb,hlt]<;>omega),?_⟩;exact⟨hlt,trivial,by (repeat' (first|exact trivial|refine And.intro (by first|rfl|(simp[get,Nat.beq];done)|(simp[get,Nat.beq];omega)|(dsimp only[get];congr 1<;>first|rfl|omega|(simp;done)|(simp;omega))) ?_)),_,by rw[e2,yz,yA,List.append_assoc o,Nat.add_assoc j]⟩
 ·obtain rfl:k=ks.length:=by omega
  rw[List.take_length];iterate 5 first
   |refine⟨fun h=>by simp at h<;>omega,fun _=>?_⟩
   |refine⟨by simp[vb,hlt]<;>omega,by simp[vb,hlt]<;>omega,?_⟩
   |(refine a7 ?_;iterate 2 (try simp only[ht,ax,aq,ar,au,aw,mem_set,aD,go_sem]))
  exact⟨⟨trivial,trivial⟩,_,zI h _ _⟩
theorem sA {k c a:Int} {n:Nat} (h:Rf.cD k c a n=true):(k=0∧n=0)∨k=1∨(k=2∧n≤1024):=by
 unfold Rf.cD at h;split at h
 ·simp at h;omega
 ·split at h
  ·omega
  ·split at h
   ·simp at h;omega
   ·cases h
set_option maxHeartbeats 4000000 in
theorem sB {μ:AM} {b g r:Nat} {kd c a:Int} {s:List bj} {ks:List Tree} (h:td μ b g r (.node kd s c a ks)) {m:Nat} (hm:m≤μ.length) (ih:∀x∈ks,qP x) {o:List UInt8} {j:Nat} (ho:o.length+60+60*iH ks≤1000000000) {f:AF} (hf:Sub [(2,.ptr μ.length 0 0),(3,.ptr (μ.length+1) 0 0),(4,.fn 82 [.ptr μ.length 0 0])] f) :
  Aw ctx (fun _=>false) 67 m Eo (eA [] (.pv (.tup [])) (fT μ b g r (o++jO kd c a ks.length++lA ks) (j+jP kd+j0 ks))) f (fT (j3 μ b g (.node kd s c a ks)) b g r o j):=by
 have hft:=h.hf;rw[dO]at hft;simp only[Bool.and_eq_true]at hft;have hw:=h.hw;rw[cJ]at hw;have hwl:=il ks;have hc:=CO h;have ht:=CP h;obtain⟨b1,b2⟩:=nk hft.1.2;have htl:=pV hft.1.2 (by omega);have hkk:=fun f hf=>sy h (m:=m) hm ih (o:=o++jO kd c a ks.length) (j:=j+jP kd) (by rw[List.length_append];omega) (f:=f) hf
 have hln:=fun w ns hn hns hw=>ve h [] (by rw[List.append_nil];exact pX h) w ns o j hn hns hw (by omega)
 simp only[List.append_nil]at hln;refine bH _ hf ?_;rw[su]at hkk ⊢;unfold Eo;rcases sA hft.1.2 with⟨rfl,h0⟩|rfl|⟨rfl,h2⟩
 ·have h1:=(hln [99,108,111,115,101,100] [] (by simp) (by simp) (by decide)).Ab (al':=[.pv (.str [99,108,111,115,101,100]),.pv .nilsl,.ptr μ.length 0 0]) ⟨rfl,fun i x y hx hy=>by
   match i,hx,hy with
   |0,hx,hy=>injection hx with hx;injection hy with hy;subst hx hy;exact .refl _
   |1,hx,hy=>injection hx with hx;injection hy with hy;subst hx hy;exact CW.nil
   |2,hx,hy=>injection hx with hx;injection hy with hy;subst hx hy;exact .refl _
   |_+3,hx,_=>simp at hx⟩
  refine a7 ?_;simp only[ht,ae,Tree.kind,Tree.steps,Tree.cell,Tree.pos,Tree.kids,ax,aq,ar,au,aw,mem_set,aD,go_sem];try simp only[ht,ae,Tree.kind,Tree.steps,Tree.cell,Tree.pos,Tree.kids,ax,aq,ar,au,aw,mem_set,aD,go_sem]
  refine⟨(by simp[vb]<;>omega),(by simp[vb]<;>omega),?_⟩;refine a7 ?_;simp only[ht,ae,Tree.kind,Tree.steps,Tree.cell,Tree.pos,Tree.kids,ax,aq,ar,au,aw,mem_set,aD,go_sem];try simp only[ht,ae,Tree.kind,Tree.steps,Tree.cell,Tree.pos,Tree.kids,ax,aq,ar,au,aw,mem_set,aD,go_sem]
  refine⟨(by simp[vb]<;>omega),(by simp[vb]<;>omega),?_⟩;refine bI [(46,{val:=some (.pv (.tup [])),mem:=some (fT (j3 μ b g (.node 0 s c a ks)) b g r (o++dw [99,108,111,115,101,100] []) (j+2))})] ?_;simp only[ht,ae,Tree.kind,Tree.steps,Tree.cell,Tree.pos,Tree.kids,ax,aq,ar,au,aw,mem_set,aD,go_sem];refine⟨fun _=>?_,fun h=>by simp at h<;>omega⟩;refine bI [(46,{val:=some (.pv (.tup [])),mem:=some (fT (j3 μ b g (.node 0 s c a ks)) b g r (o++dw [99,108,111,115,101,100] []) (j+2))})] ?_
  simp only[ht,ae,Tree.kind,Tree.steps,Tree.cell,Tree.pos,Tree.kids,ax,aq,ar,au,aw,mem_set,aD,go_sem];try simp only[ht,ae,Tree.kind,Tree.steps,Tree.cell,Tree.pos,Tree.kids,ax,aq,ar,au,aw,mem_set,aD,go_sem]
  refine⟨(by simp[vb]<;>omega),?_,?_⟩
  ·exact⟨h1,trivial⟩
  exact hkk _ (by (repeat' (first|exact trivial|refine And.intro (by first|rfl|(simp[get,Nat.beq];done)|(simp[get,Nat.beq];omega)|(dsimp only[get];congr 1<;>first|rfl|omega|(simp;done)|(simp;omega))) ?_)))
 ·have h1:=hln [115,112,108,105,116] [c,a] (by simp) (by intro n hn;simp only[List.mem_cons,List.not_mem_nil,or_false]at hn;rcases hn with rfl|rfl<;>omega) (by decide);refine a7 ?_;simp only[ht,ae,Tree.kind,Tree.steps,Tree.cell,Tree.pos,Tree.kids,ax,aq,ar,au,aw,mem_set,aD,go_sem];try simp only[ht,ae,Tree.kind,Tree.steps,Tree.cell,Tree.pos,Tree.kids,ax,aq,ar,au,aw,mem_set,aD,go_sem]
  refine⟨(by simp[vb]<;>omega),(by simp[vb]<;>omega),?_⟩;refine a7 ?_;simp only[ht,ae,Tree.kind,Tree.steps,Tree.cell,Tree.pos,Tree.kids,ax,aq,ar,au,aw,mem_set,aD,go_sem];try simp only[ht,ae,Tree.kind,Tree.steps,Tree.cell,Tree.pos,Tree.kids,ax,aq,ar,au,aw,mem_set,aD,go_sem]
  refine⟨(by simp[vb]<;>omega),(by simp[vb]<;>omega),?_⟩;refine a7 ?_;simp only[ht,ae,Tree.kind,Tree.steps,Tree.cell,Tree.pos,Tree.kids,ax,aq,ar,au,aw,mem_set,aD,go_sem];refine⟨fun h=>by simp at h<;>omega,fun _=>?_⟩;refine a7 ?_;simp only[ht,ae,Tree.kind,Tree.steps,Tree.cell,Tree.pos,Tree.kids,ax,aq,ar,au,aw,mem_set,aD,go_sem];try simp only[ht,ae,Tree.kind,Tree.steps,Tree.cell,Tree.pos,Tree.kids,ax,aq,ar,au,aw,mem_set,aD,go_sem]
  refine⟨(by simp[vb]<;>omega),(by simp[vb]<;>omega),?_⟩;refine bI [(55,{val:=some (.pv (.tup [])),mem:=some (fT (j3 μ b g (.node 1 s c a ks)) b g r (o++dw [115,112,108,105,116] [c,a]) (j+4))})] ?_;simp only[ht,ae,Tree.kind,Tree.steps,Tree.cell,Tree.pos,Tree.kids,ax,aq,ar,au,aw,mem_set,aD,go_sem];refine⟨fun _=>?_,fun h=>by simp at h<;>omega⟩;refine bI [(55,{val:=some (.pv (.tup [])),mem:=some (fT (j3 μ b g (.node 1 s c a ks)) b g r (o++dw [115,112,108,105,116] [c,a]) (j+4))})] ?_
  simp only[ht,ae,Tree.kind,Tree.steps,Tree.cell,Tree.pos,Tree.kids,ax,aq,ar,au,aw,mem_set,aD,go_sem];try simp only[ht,ae,Tree.kind,Tree.steps,Tree.cell,Tree.pos,Tree.kids,ax,aq,ar,au,aw,mem_set,aD,go_sem]
  refine⟨(by simp[vb]<;>omega),?_,?_⟩
  ·exact⟨h1,trivial⟩
  exact hkk _ (by (repeat' (first|exact trivial|refine And.intro (by first|rfl|(simp[get,Nat.beq];done)|(simp[get,Nat.beq];omega)|(dsimp only[get];congr 1<;>first|rfl|omega|(simp;done)|(simp;omega))) ?_)))
 ·have h1:=hln [99,97,115,101,115] [(ks.length:Int)] (by simp) (by intro n hn;simp only[List.mem_cons,List.not_mem_nil,or_false]at hn;subst hn;omega) (by decide);refine a7 ?_;simp only[ht,ae,Tree.kind,Tree.steps,Tree.cell,Tree.pos,Tree.kids,an,ax,aq,ar,au,aw,mem_set,aD,go_sem];try simp only[ht,ae,Tree.kind,Tree.steps,Tree.cell,Tree.pos,Tree.kids,an,ax,aq,ar,au,aw,mem_set,aD,go_sem]
  refine⟨(by simp[vb]<;>omega),(by simp[vb]<;>omega),?_⟩;refine a7 ?_;simp only[ht,ae,Tree.kind,Tree.steps,Tree.cell,Tree.pos,Tree.kids,an,ax,aq,ar,au,aw,mem_set,aD,go_sem];try simp only[ht,ae,Tree.kind,Tree.steps,Tree.cell,Tree.pos,Tree.kids,an,ax,aq,ar,au,aw,mem_set,aD,go_sem]
  refine⟨(by simp[vb]<;>omega),(by simp[vb]<;>omega),?_⟩;refine a7 ?_;simp only[ht,ae,Tree.kind,Tree.steps,Tree.cell,Tree.pos,Tree.kids,an,ax,aq,ar,au,aw,mem_set,aD,go_sem];refine⟨fun h=>by simp at h<;>omega,fun _=>?_⟩;refine a7 ?_;simp only[ht,ae,Tree.kind,Tree.steps,Tree.cell,Tree.pos,Tree.kids,an,ax,aq,ar,au,aw,mem_set,aD,go_sem];try simp only[ht,ae,Tree.kind,Tree.steps,Tree.cell,Tree.pos,Tree.kids,an,ax,aq,ar,au,aw,mem_set,aD,go_sem]
  refine⟨(by simp[vb]<;>omega),(by simp[vb]<;>omega),?_⟩;refine bI [(42,{val:=some (.pv (.tup [])),mem:=some (fT (j3 μ b g (.node 2 s c a ks)) b g r (o++dw [99,97,115,101,115] [(ks.length:Int)]) (j+3))})] ?_;simp only[ht,ae,Tree.kind,Tree.steps,Tree.cell,Tree.pos,Tree.kids,an,ax,aq,ar,au,aw,mem_set,aD,go_sem];refine⟨fun h=>by simp at h<;>omega,fun _=>?_⟩;refine bI [(42,{val:=some (.pv (.tup [])),mem:=some (fT (j3 μ b g (.node 2 s c a ks)) b g r (o++dw [99,97,115,101,115] [(ks.length:Int)]) (j+3))})] ?_
  simp only[ht,ae,Tree.kind,Tree.steps,Tree.cell,Tree.pos,Tree.kids,an,ax,aq,ar,au,aw,mem_set,aD,go_sem];try simp only[ht,ae,Tree.kind,Tree.steps,Tree.cell,Tree.pos,Tree.kids,an,ax,aq,ar,au,aw,mem_set,aD,go_sem]
  refine⟨(by simp[vb]<;>omega),?_,?_⟩
  ·exact⟨h1,trivial⟩
  exact hkk _ (by (repeat' (first|exact trivial|refine And.intro (by first|rfl|(simp[get,Nat.beq];done)|(simp[get,Nat.beq];omega)|(dsimp only[get];congr 1<;>first|rfl|omega|(simp;done)|(simp;omega))) ?_)))
end Pur
end
section
namespace Pur
open Go.RowKit
attribute [local go_sem] bG eW bN bu dt fP List.map a8 aH get put tmpsOf dD iL gy im conds ev cond_true cond_false Nat.beq Nat.ble Nat.add quiet dE cB cC ox List.append_eq List.nil_append List.cons_append dC cf cg cj ck cp cu eV eQ di iN dB calm quiet.isCallK cF List.getElem?_cons_zero List.getElem?_cons_succ bk bW cellsOf List.all bA List.length_cons List.length_nil eI bc List.drop List.take List.getD Option.getD_some qc qd pz qe qf qg ef fZ eg eh setAt List.set Nat.reduceAdd Nat.reduceMul cx bq refsOf bD bJ scalar cw dZ bT cv aM after freeze gV gF aS dm dK dd ew cR cS bZ cT cU cX cY cZ c6 c7 c8 da db dc b6 b7 b8 dj iO bytesOf bE cM aR bB dP bw bO cG still bM dY du dR bL ey List.isEmpty b9 ca cd Int.reduceToNat Nat.mul_one Nat.reduceSub nY cN bY dL cE look dM strip guarded fC eA eH cL dQ dk gP cV cW Bool.or_false Bool.or_true Bool.and_true Bool.and_false Nat.blt fQ fq fU dG idxOf gG gH iM eT aM my
section
open Rf
theorem eD {α:Type} (l:List α) (k:Nat) (d:α) (hk:k<l.length):l.drop k=l.getD k d::l.drop (k+1):=by
 rw[List.drop_eq_getElem_cons hk,List.getD,List.getElem?_eq_getElem hk];rfl
theorem sC (x:Rg):ai ctx 102 [.agg [.int .i64 x.lo,.int .i64 x.hi]] (.bool (fw x)):=by
 refine af (C:=ctx) (Fn.of E1 rfl) rfl ?_;unfold Ee;repeat' (first
  |((with_reducible first|show aF _|show aO _);simp[vb]<;>omega)
  |exact(rfl:some _=_)
  |(
   fail_if_success refine aV ?_
   refine a7 ?_;repeat1' dsimp only[Ee,fw,go_sem]
   first
   |refine aW ?_ ?_ rfl ?_
   |apply aX
   |apply aY
   |(refine aZ (fun hc=>?_) fun hc=>?_<;>first|(cases hc;done)|(exfalso;simp at hc<;>omega)|(try simp only[bn]at hc;try contradiction))
   |skip))
theorem wY (b:List Rg) (hb:b.length≤1000000000):ai ctx 72 [ah b] (.bool (eP b)):=by
 have hx:=A0 102 b hb fw fun x _=>sC x
 unfold eP;generalize b.any fw=q at *;unfold ah at hx;refine af (C:=ctx) (Fn.of GS rfl) rfl ?_;unfold c72;repeat' (first
  |((with_reducible first|show aF _|show aO _);simp[vb,hx,ah]<;>omega)
  |exact(rfl:some _=_)
  |(
   fail_if_success refine aV ?_
   refine iu [(101,fun _=>some (.bool q))] ?_;repeat1' dsimp only[c72,ah,go_sem]
   first
   |refine aW ?_ ?_ rfl ?_
   |apply aX
   |apply aY
   |(refine aZ (fun hc=>?_) fun hc=>?_<;>first|(cases hc;done)|(exfalso;simp[hx,ah]at hc<;>omega)|(try simp only[bn]at hc;try contradiction))
   |skip))
theorem F7 (b:List Rg) (hb:b.length≤1000000000):ai ctx 97 [ah b] (.bool (dF b)):=by
 unfold dF;have f1:=cz b;refine af (C:=ctx) (Fn.of GZ rfl) rfl ?_;unfold Gx;repeat' (first
  |((with_reducible first|show aF _|show aO _);simp[vb]<;>omega)
  |exact(rfl:some _=_)
  |(
   fail_if_success refine aV ?_
   refine a7 ?_;repeat1' dsimp only[Gx,ah,go_sem]
   first
   |refine aW ?_ ?_ rfl ?_
   |apply aX
   |apply aY
   |(refine aZ (fun hc=>?_) fun hc=>?_<;>first|(cases hc;done)|(exfalso;simp at hc<;>omega)|(try simp only[bn]at hc;try contradiction))
   |skip))
 refine bK b.length (fun k=>(b.take k).all l7=true) (fun k=>[(0,.pv (ah b)),(5,.pv (ah b)),(6,.pv (.int .i64 b.length)),(7,.pv (.int .i64 k))]) (fun _=>[]) rfl (by (repeat' (first|exact trivial|refine And.intro (by first|rfl|(simp[get,Nat.beq];done)|(simp[get,Nat.beq];omega)|(dsimp only[get];congr 1<;>first|rfl|omega|(simp;done)|(simp;omega))) ?_))) ⟨[],rfl⟩ (fun _=>⟨Nat.zero_le _,rfl,rfl⟩) fun k hk hP=>?_
 by_cases hlt:k<b.length
 ·have e:=cK jb b k zr hlt;have h1:=eK l7 b k zr hlt;have h2:=ky l7 b k zr hlt;rw[h1,hP,Bool.true_and];clear h1;generalize b.getD k zr=x at *;repeat' (first
   |((with_reducible show aF _);first|exact True.intro|(simp only[vb,lb,e,f1,hlt,gZ];and_intros<;>first|omega|(simp<;>omega)))
   |((with_reducible show aO _);first|exact True.intro|((try dsimp only[go_sem]);(simp[vb,e,f1,hlt,gZ]<;>omega)))
   |exact(rfl:some _=_)
   |(
    fail_if_success refine aV ?_
    refine bI [(10,{val:=some (.pv (.agg [.int .i64 x.lo,.int .i64 x.hi]))})] ?_;repeat1' dsimp only[Gx,ah,go_sem]
    first
    |refine aW ?_ ?_ rfl ?_
    |apply aX
    |apply aY
    |(refine aZ (fun hc=>?_) fun hc=>?_<;>first|(cases hc;done)|(exfalso;(simp at hc<;>omega))|(try simp only[bn]at hc;try contradiction))
    |skip))
  all_goals first
   |(rw[h2 (by
     cases h:l7 x with
     |false=>rfl
     |true =>
      exfalso;simp only[l7,aK,Bool.and_eq_true,decide_eq_true_eq]at h;omega),Bool.false_and];done)
   |(
    refine⟨hlt,?_,by (repeat' (first|exact trivial|refine And.intro (by first|rfl|(simp[get,Nat.beq];done)|(simp[get,Nat.beq];omega)|(dsimp only[get];congr 1<;>first|rfl|omega|(simp;done)|(simp;omega))) ?_)),_,rfl⟩;simp only[l7,aK,Bool.and_eq_true,decide_eq_true_eq];omega)
 ·obtain rfl:k=b.length:=by omega
  rw[List.take_length]at hP;repeat' (first
   |((with_reducible show aF _);exact True.intro)
   |((with_reducible show aO _);exact True.intro)
   |exact(rfl:some _=_)
   |(
    fail_if_success refine aV ?_
    refine a7 ?_;repeat1' dsimp only[Gx,ah,go_sem]
    first
    |refine aW ?_ ?_ rfl ?_
    |apply aX
    |apply aY
    |(refine aZ (fun hc=>?_) fun hc=>?_<;>first|(cases hc;done)|(exfalso;(simp at hc<;>omega))|(try simp only[bn]at hc;try contradiction))
    |skip))
  rw[hP,Bool.true_and];simp;omega
set_option maxHeartbeats 4000000 in
theorem Ep (n : Int) (r : Rw) (hr : r.terms.length ≤ 1000000000) : ai ctx 100 [.int .i64 n, .agg [av r.terms, .int .i64 r.bound]] (.bool (ic n r)) := by
  obtain ⟨ts, bd⟩ := r
  unfold ic
  simp only at hr ⊢
  generalize hq : fc n (-1) ts = q
  have f1 := iK ts
  refine af (C := ctx) (Fn.of E7 rfl) rfl ?_
  unfold AU
  repeat' (first
    | ((with_reducible first | show aF _ | show aO _); simp [vb] <;> omega)
    | exact (rfl : some _ = _)
    | (
      fail_if_success refine aV ?_
      refine a7 ?_
      repeat1' dsimp only [AU, av, go_sem]
      first
      | refine aW ?_ ?_ rfl ?_
      | apply aX
      | apply aY
      | (refine aZ (fun hc => ?_) fun hc => ?_ <;> first | (cases hc; done) | (exfalso; simp at hc <;> omega) | (try simp only [bn] at hc; try contradiction))
      | skip))
  refine ek (σ := Nat × Int) (fun s => s.1 ≤ ts.length ∧ fc n s.2 (ts.drop s.1) = q) (fun s => [(0, .pv (.int .i64 n)), (3, .ptr 0 0 0), (5, .pv (.int .i64 s.2)), (9, .pv (av ts)), (10, .pv (.int .i64 ts.length)), (11, .pv (.int .i64 s.1))]) (fun _ => [⟨[.pv (av ts), .pv (.int .i64 bd)], 0, 2, 62, false⟩]) (fun s => ts.length - s.1) (0, -1) ⟨Nat.zero_le _, hq⟩ (by (repeat' (first | exact trivial | refine And.intro (by first | rfl | (simp [get, Nat.beq]; done) | (simp [get, Nat.beq]; omega) | (dsimp only [get]; congr 1 <;> first | rfl | omega | (simp; done) | (simp; omega))) ?_))) ⟨[], rfl⟩ (fun _ _ => ⟨Nat.zero_le _, rfl, rfl⟩) fun s hP => ?_
  obtain ⟨k, last⟩ := s
  obtain ⟨p1, p2⟩ := hP
  simp only at p1 p2
  by_cases hlt : k < ts.length
  · have e := cK l8 ts k zm hlt
    rw [eD ts k zm hlt, fc] at p2
    generalize ts.getD k zm = x at *
    generalize hq2 : fc n x.cell (ts.drop (k + 1)) = q2 at *
    repeat' (first
      | ((with_reducible show aF _); first | exact True.intro | (simp only [vb, lb, e, f1, hlt, ke]; and_intros <;> first | omega | (simp <;> omega)))
      | ((with_reducible show aO _); first | exact True.intro | ((try dsimp only [go_sem]); (simp [vb, e, f1, hlt, ke] <;> omega)))
      | exact (rfl : some _ = _)
      | (
        fail_if_success refine aV ?_
        refine bI [(14, { val := some (.pv (.agg [.int .i64 x.cell, .int .i64 x.fac])) })] ?_
        repeat1' dsimp only [AU, av, go_sem]
        first
        | refine aW ?_ ?_ rfl ?_
        | apply aX
        | apply aY
        | (refine aZ (fun hc => ?_) fun hc => ?_ <;> first | (cases hc; done) | (exfalso; (simp at hc <;> omega)) | (try simp only [bn] at hc; try contradiction))
        | skip))
    all_goals first
      | (rw [← p2, show (decide (last < x.cell) && decide (x.cell < n) && decide (x.fac ≠ 0) && aK x.fac (-1000) 1000) = false from by
          rw [Bool.eq_false_iff]
          simp only [aK, ne_eq, Bool.and_eq_true, decide_eq_true_eq]
          omega]; rfl)
      | (
        refine ⟨(k + 1, x.cell), by show ts.length - (k + 1) < ts.length - k; omega, ⟨by show k + 1 ≤ _; omega, ?_⟩, by (repeat' (first | exact trivial | refine And.intro (by first | rfl | (simp [get, Nat.beq]; done) | (simp [get, Nat.beq]; omega) | (dsimp only [get]; congr 1 <;> first | rfl | omega | (simp; done) | (simp; omega))) ?_)), _, rfl⟩
        show fc n x.cell (ts.drop (k + 1)) = q
        rw [hq2, ← p2, show (decide (last < x.cell) && decide (x.cell < n) && decide (x.fac ≠ 0) && aK x.fac (-1000) 1000) = true from by
         simp only [aK, ne_eq, Bool.and_eq_true, decide_eq_true_eq]
         omega, Bool.true_and])
  · obtain rfl : k = ts.length := by omega
    rw [List.drop_length, fc] at p2
    subst p2
    repeat' (first
      | ((with_reducible show aF _); first | exact True.intro | (simp only [vb, lb, hlt]; and_intros <;> first | omega | (simp <;> omega)))
      | ((with_reducible show aO _); first | exact True.intro | ((try dsimp only [go_sem]); (simp [vb, hlt] <;> omega)))
      | exact (rfl : some _ = _)
      | (
        fail_if_success refine aV ?_
        refine a7 ?_
        repeat1' dsimp only [AU, av, go_sem]
        first
        | refine aW ?_ ?_ rfl ?_
        | apply aX
        | apply aY
        | (refine aZ (fun hc => ?_) fun hc => ?_ <;> first | (cases hc; done) | (exfalso; (simp at hc <;> omega)) | (try simp only [bn] at hc; try contradiction))
        | skip))
    all_goals simp [aK]
theorem A7 (b:List Rg) (r:Rw) (hr:r.terms.length≤1000000000):aL ctx 99 [.pv (.agg [av r.terms,.int .i64 r.bound]),.ptr 0 0 0] [⟨[.pv (ah b)],0,1,31,false⟩] (.pv (.bool (!ic b.length r))) [⟨[.pv (ah b)],0,1,31,false⟩]:=by
 have hx:=Ep b.length r hr;generalize ic b.length r=q at *;unfold av at hx;refine bz (C:=ctx) (Fn.of G1 rfl) rfl (by simp) rfl rfl ?_;unfold Hx;repeat' (first
  |((with_reducible first|show aF _|show aO _);simp[vb,hx]<;>omega)
  |exact(rfl:some _=_)
  |(
   fail_if_success refine aV ?_
   refine bI [(7,{val:=some (.pv (.bool q))})] ?_;repeat1' dsimp only[Hx,ah,av,go_sem]
   first
   |refine aW ?_ ?_ rfl ?_
   |apply aX
   |apply aY
   |(refine aZ (fun hc=>?_) fun hc=>?_<;>first|(cases hc;done)|(exfalso;simp[hx]at hc<;>omega)|(try simp only[bn]at hc;try contradiction))
   |skip))
 exact⟨⟨trivial,rfl⟩,_,rfl⟩
theorem sD (b:List Rg) (l:List Rw) (hb:b.length≤1000000000) (hl:l.length≤1000000000) (ht:∀r∈l,r.terms.length≤1000000000):ai ctx 71 [ah b,ay l] (.bool (fV b l)):=by
 have h1:=F7 b hb;have h2:=CI 99 [⟨[.pv (ah b)],0,1,31,false⟩] rfl 0 (by simp) l hl (fun r=>!ic b.length r) fun r hr=>A7 b r (ht r hr)
 unfold fV;have e:l.all (ic b.length)= !(l.any fun r=>!ic b.length r):=by simp[List.any_eq_not_all_not]
 rw[e];clear e;generalize (l.any fun r=>!ic b.length r)=q at *;generalize dF b=q2 at *;unfold ah ay at h2;unfold ah at h1;cases q2 with
 |false =>
  refine af (C:=ctx) (Fn.of F3 rfl) rfl ?_;unfold Ht;refine iu [(97,fun _=>some (.bool false))] ?_;dsimp only[ah,ay,go_sem];try dsimp only[ah,ay,go_sem]
  refine⟨(by simp[vb,h1]<;>omega),(by simp[vb,h1]<;>omega),?_⟩;refine bU (jy (T:=[(97,fun _=>some (.bool false))]) (H:=[]) ?_);dsimp only[ah,ay,go_sem];try dsimp only[ah,ay,go_sem]
  refine⟨(by simp[vb,h1]<;>omega),(by simp[vb,h1]<;>omega),?_⟩;refine iu [(97,fun _=>some (.bool false))] ?_;dsimp only[ah,ay,go_sem];exact⟨trivial,rfl⟩
 |true =>
  refine af (C:=ctx) (Fn.of F3 rfl) rfl ?_;unfold Ht;refine dH [(97,fun _=>some (.bool true))] [(10,{val:=some (.pv (.bool q)),ro:=true})] ?_;dsimp only[ah,ay,go_sem];try dsimp only[ah,ay,go_sem]
  refine⟨(by simp[vb,h1,h2]<;>omega),(by simp[vb,h1,h2]<;>omega),?_⟩;refine bU (jy (T:=[(97,fun _=>some (.bool true))]) (H:=[(10,{val:=some (.pv (.bool q)),ro:=true})]) ?_);dsimp only[ah,ay,go_sem];try dsimp only[ah,ay,go_sem]
  refine⟨(by simp[vb,h1,h2]<;>omega),(by simp[vb,h1,h2]<;>omega),?_⟩;refine dH [(97,fun _=>some (.bool true))] [(10,{val:=some (.pv (.bool q)),ro:=true})] ?_;dsimp only[ah,ay,go_sem];exact⟨trivial,rfl⟩
theorem A8 (b:List Rg) (hb:b.length≤1000000000):ai ctx 71 [ah b,.nilsl] (.bool (dF b)):=by
 have h:=sD b [] hb (by simp) (by simp);rw[show fV b []=dF b by simp[fV]]at h;refine ai.og 1 ?_;have e:∀l:List PV,l.map (canon 0)=l:=fun l=>by rw[show canon 0=id from funext fun _=>by simp[canon]];simp
 simpa [canon,ah,ay,e]using h
end
section
open Rf
def vf (l:List Int):fF:=⟨(l.flatMap cA).map .pv,1,1,3,false⟩
theorem Er (k:Nat) (cells:List PV) (hk:k≤1000000000) (hc:cells.length=(k+1)*1):aL ctx 167 [.pv (.sl (k+1) cells)] [] (.ref 0 1 0 (k+1)) [⟨cells.map .pv,1,1,3,false⟩]:=by
 refine bz (C:=ctx) (Fn.of Fk rfl) rfl (by simp) rfl (by simp[aP,dJ]) ?_;unfold c167;iterate 9 first
  |refine⟨fun h=>by simp at h<;>omega,fun _=>?_⟩
  |refine⟨by simp[vb]<;>omega,by simp[vb]<;>omega,?_⟩
  |(refine bI [(7,{mode:=1})] ?_;iterate 2 (try dsimp only[go_sem]))
 refine a7 ?_;dsimp only[go_sem];exact⟨⟨trivial,by simp⟩,[],rfl⟩
theorem F8 (l:List Int) (h0:l≠[]) (hl:l.length≤1000000000) (μ:AM):aL ctx 167 [.pv (.sl l.length (l.flatMap cA))] μ (.ref μ.length 1 0 l.length) (μ++[vf l]):=by
 cases l with
 |nil=>exact absurd rfl h0
 |cons x r =>
  have h:=Er r.length ((x::r).flatMap cA) (by simp at hl;omega) (by rw[eM];rfl);have:=h.frame [] μ (by simp) (by simp) trivial rfl (by simp[dJ]) (by simp);have he:∀cs:List PV,(cs.map AV.pv).map (pD [] μ.length 3)=cs.map AV.pv:=fun cs=>by simp[pD,Function.comp_def]
  simpa [pD,oT,xq,rO,vf,he,Function.comp_def]using this
theorem CR (n:Nat) (es:List Bool) (a b:Nat) (hlen:es.length=n*n) (ha:a<n) (hb:b<n):(es.flatMap fe)[a*n+b]?.getD default= .bool (bX n es a b):=by
 have hlt:a*n+b<es.length:=by
  rw[hlen];calc a*n+b<a*n+n:=by omega
   _=(a+1)*n:=by rw[Nat.add_mul,Nat.one_mul]
   _≤n*n:=Nat.mul_le_mul_right _ ha
 rw[je (g:=fe) (fun _=>rfl) es _ false default hlt];rfl
theorem F9 (n:Nat) (es:List Bool) (a b:Nat) (hlen:es.length=n*n) (hn:n≤6) (ha:a<n) (hb:b<n) :
  ai ctx 166 [.agg [.int .i64 n,bQ es],.int .i64 a,.int .i64 b] (.bool (bX n es a b)):=by
 have e:=CR n es a b hlen ha hb;have f1:=gw es;generalize bX n es a b=q at *;have hlt:a*n+b<es.length:=by
  rw[hlen];calc a*n+b<a*n+n:=by omega
   _=(a+1)*n:=by rw[Nat.add_mul,Nat.one_mul]
   _≤n*n:=Nat.mul_le_mul_right _ ha
 have hm:a*n≤36:=by
  have:=Nat.mul_le_mul (show a≤6 by omega) hn;omega
 have ez:((a:Int)*(n:Int)+(b:Int))=((a*n+b:Nat):Int):=by simp
 have ez2:((a:Int)*(n:Int))=((a*n:Nat):Int):=by simp
 generalize a*n=m at *;refine af (C:=ctx) (Fn.of Fj rfl) rfl ?_;unfold Ej;repeat' (first
  |((with_reducible show aF _);first|exact True.intro|(simp only[vb,lb,e,f1,hlt,ez,ez2];and_intros<;>first|omega|(simp<;>omega)))
  |((with_reducible show aO _);first|exact True.intro|((try dsimp only[go_sem]);(simp only[vb,and_true,true_implies];(repeat' (first|(with_reducible assumption)|(with_reducible apply And.intro)|intro _|((fail_if_success (with_reducible show(_:Int)≤_));assumption)))<;>first|rfl|(simp only[ab,e,f1,hlt,ez,ez2];done))))
  |exact(rfl:some _=_)
  |(
   fail_if_success refine aV ?_
   refine bI [(12,{val:=some (.pv (.int .i64 m))}),(14,{val:=some (.pv (.int .i64 (m+b:Nat)))}),(16,{val:=some (.pv (.bool q))})] ?_;repeat1' dsimp only[Ej,bQ,go_sem]
   first
   |refine aW ?_ ?_ rfl ?_
   |apply aX
   |apply aY
   |(refine aZ (fun hc=>?_) fun hc=>?_<;>first|(cases hc;done)|(try simp only[bn]at hc;try contradiction))
   |skip))
end
section
open Rf
def CS:Nat→Bool:=fun d=>Nat.beq d 20||Nat.beq d 64
def Fm:az:=(⟨_,by conv=>(lhs;reduce;try simp only[ei,Int.cast_ofNat_Int,Int.reduceNegSucc,UInt8.reduceOfNat])⟩:{x // codeOf Tryz.prog 146 CS=some x}).1
theorem Ga:bF Tryz.prog 146 CS=some (Fm,[.t 6],67,true):=by kernel_rfl
def nq (n:Nat) (es:List Bool):fF:=⟨[.pv (.int .i64 n),.pv (bQ es)],0,2,187,false⟩
def kE (s:List Bool):fF:=⟨(s.flatMap fe).map .pv,0,1,4,false⟩
def gA (l:List (List Int)):List PV:=l.map aj
def nr (l:List (List Int)) (g:Nat):fF:=⟨(gA l).map .pv,g,1,49,false⟩
def yC:List Int→PV
 |[]=>.nilsl
 |x::r=>aj (x::r)
theorem Es {l:List Int} (h:l≠[]):yC l=aj l:=by
 cases l with
 |nil=>exact absurd rfl h
 |cons x r=>rfl
theorem A9 (l:List Int) (h:l≠[]):∃m u,l=m++[u]:=⟨l.dropLast,l.getLast h,(List.dropLast_concat_getLast h).symm⟩
theorem nt (s:List Bool):s.flatMap fe=s.map PV.bool:=by
 induction s with
 |nil=>rfl
 |cons b r ih=>rw[List.flatMap_cons,ih];rfl
theorem wZ (s:List Bool) (k:Nat):setAt ((s.flatMap fe).map AV.pv) k [.pv (.bool true)]=((s.set k true).flatMap fe).map AV.pv:=by
 rw[nt,nt,setAt,setAt,List.map_set,List.map_set]
theorem ou:∀n:Nat,du [.bool false] n=(List.replicate n false).flatMap fe
 |0=>rfl
 |n+1=>by rw[du,ou n,List.replicate_succ,List.flatMap_cons];rfl
theorem Et (s:List Bool) (k:Nat) (hk:k<s.length):(s.flatMap fe)[k]?=some (.bool (s.getD k false)):=by
 rw[nt,List.getElem?_map,List.getElem?_eq_getElem hk,List.getD,List.getElem?_eq_getElem hk];rfl
theorem Eu (pre:List (List Int)) (l:List Int) (r:List (List Int)):((gA (pre++l::r)).map AV.pv)[pre.length]?.getD .any= .pv (aj l):=by
 simp[gA]
theorem Ev (m:List Int) (u:Int):((m++[u]).flatMap cA)[m.length]?.getD default= .int .i64 u:=by
 rw[je (g:=cA) (fun _=>rfl) (m++[u]) m.length 0 default (by simp)];simp
theorem Gb (aB:List Nat) (l:List PV):(l.map AV.pv).map (dG aB 3)=l.map AV.pv:=by
 simp[dG,Function.comp_def]
theorem uc {own:Nat→Bool} {nn:Nat} {x:az} {R:Exit→AF→AM→Prop} {f:AF} {b0 b1 b4:fF} {p0 p1 cs ps:List PV} {g g3 k:Nat} {e e3:TypeId} (h0:b0.cells=p0.map .pv) (h1:b1.cells=p1.map .pv) (hl:ps.length=k)
  (hr:fQ [0,1,2,3] f=f) (hs:∀M,gG M 3 f=f) (ho:gj f 3=true)
  (h:Aw ctx own nn 0 x R f [b0,b1,⟨cs.map .pv++[.pv (.sl k ps)],g,1,e,false⟩]):Aw ctx own nn 0 x R f [b0,b1,⟨cs.map .pv++[.ref 3 g3 0 k],g,1,e,false⟩,⟨ps.map .pv,g3,1,e3,false⟩,b4]:=by
 refine jx [0,1,2,3] rfl ?_;rw[hr];have hm:fq [0,1,2,3] [b0,b1,⟨cs.map .pv++[.ref 3 g3 0 k],g,1,e,false⟩,⟨ps.map .pv,g3,1,e3,false⟩,b4]=[b0,b1,⟨cs.map .pv++[.ref 3 g3 0 k],g,1,e,false⟩,⟨ps.map .pv,g3,1,e3,false⟩]:=by
  obtain⟨a0,a1,a2,a3,a4⟩:=b0;obtain⟨d0,d1,d2,d3,d4⟩:=b1;simp only at h0 h1;subst h0 h1;simp[fq,fU,dG,idxOf,Function.comp_def];rfl
 rw[hm];have hk:aP [b0,b1] 2=true:=by simp[aP,h0,h1,dJ]
 exact nZ (μ:=[b0,b1]) (c1:=cs) (c2:=[]) hk (Nat.zero_le _) (by simp) (by omega) hs ho h
set_option maxHeartbeats 8000000 in
theorem CT (n:Nat) (es:List Bool) (fr tg:Nat) (hlen:es.length=n*n) (hn:n≤6) (hf:fr<n) (ht:tg<n) :
  ai ctx 146 [.agg [.int .i64 n,bQ es],.int .i64 fr,.int .i64 tg] (yC (o0 n (bX n es) tg (n+2) [[(fr:Int)]] (jM n fr))):=by
 generalize hres:o0 n (bX n es) tg (n+2) [[(fr:Int)]] (jM n fr)=res;have hb0:=tR (e:=bX n es) hf;have hz:=ou n;have hzl:(du [.bool false] n).length=n:=by rw[hz,gw];simp
 refine af (C:=ctx) (Fn.of Ga rfl) rfl ?_;unfold Fm;repeat' (first
  |((with_reducible first|show aF _|show aO _);simp[vb,hf,hzl]<;>omega)
  |exact(rfl:some _=_)
  |(
   fail_if_success refine aV ?_
   refine a7 ?_;repeat1' dsimp only[c146,bQ,go_sem]
   first
   |refine aW ?_ ?_ rfl ?_
   |apply aX
   |apply aY
   |(refine aZ (fun hc=>?_) fun hc=>?_<;>first|(cases hc;done)|(exfalso;simp[hf,hzl]at hc<;>omega)|(try simp only[bn]at hc;try contradiction))
   |skip))
 refine ek (σ:=List (List Int)×List (List Int)×List Bool×Nat×Nat)
  (fun s=>FP n (bX n es) fr s.2.1 s.2.2.1∧s.1.length+s.2.1.length+fy s.2.2.1≤n+1∧o0 n (bX n es) tg s.2.2.2.2 s.2.1 s.2.2.1=res∧s.2.1.length+fy s.2.2.1<s.2.2.2.2)
  (fun s=>[(2,.pv (.int .i64 tg)),(3,.ptr 0 0 0),(7,.ref 1 0 0 n),(8,.ref 2 s.2.2.2.1 s.1.length s.2.1.length)])
  (fun s=>[nq n es,kE s.2.2.1,nr (s.1++s.2.1) s.2.2.2.1]) (fun s=>s.2.1.length+fy s.2.2.1) ([],[[(fr:Int)]],jM n fr,0,n+2) ⟨hb0,?_,hres,?_⟩ (by (repeat' (first|exact trivial|refine And.intro (by first|rfl|(simp[get,Nat.beq];done)|(simp[get,Nat.beq];omega)|(dsimp only[get];congr 1<;>first|rfl|omega|(simp;done)|(simp;omega))) ?_))) ?_ (fun s _=>⟨Nat.zero_le _,rfl,by simp[aP,nq,kE,nr,dJ]⟩) fun s hP=>?_
 ·have:=(hb0.ne [(fr:Int)] (by simp)).2.2.2.2;simp at this ⊢;omega
 ·have:=(hb0.ne [(fr:Int)] (by simp)).2.2.2.2;simp at this ⊢;omega
 ·refine⟨[],?_⟩;simp[nq,kE,nr,gA,jM,←wZ,setAt,hz,aj,cA,bQ]
 obtain⟨pre,q,seen,g,f⟩:=s;obtain⟨p1,p2,p3,p4⟩:=hP;simp only at p1 p2 p3 p4 ⊢;cases q with
 |nil =>
  cases f with
  |zero=>omega
  |succ f =>
   rw[o0]at p3;subst p3;repeat' (first
    |((with_reducible first|show aF _|show aO _);simp[vb]<;>omega)
    |exact(rfl:some _=_)
    |(
     fail_if_success refine aV ?_
     refine a7 ?_;repeat1' dsimp only[c146,yC,go_sem]
     first
     |refine aW ?_ ?_ rfl ?_
     |apply aX
     |apply aY
     |(refine aZ (fun hc=>?_) fun hc=>?_<;>first|(cases hc;done)|(exfalso;simp at hc<;>omega)|(try simp only[bn]at hc;try contradiction))
     |skip))
 |cons l r =>
  cases f with
  |zero=>omega
  |succ f =>
   obtain⟨q1,q2,q3,q4,q5⟩:=p1.ne l (by simp);obtain⟨m,u',rfl⟩:=A9 l q1;obtain⟨u,rfl⟩:∃u:Nat,u'=(u:Int):=⟨u'.toNat,by simp at q2;omega⟩
   obtain⟨hu,-⟩:=pP m u;have e1:=Eu pre (m++[(u:Int)]) r;have e2:=Ev m (u:Int);have f1:=eM (m++[(u:Int)]);rw[o0,hu]at p3;rw[hu]at q3 q4;have hml:m.length≤7:=by simp at q5;omega
   by_cases hut:u=tg
   ·rw[if_pos hut]at p3;subst hut p3;repeat' (first
     |((with_reducible show aF _);first|exact True.intro|(simp only[vb,lb,e1,e2,f1,aj,gA];and_intros<;>first|omega|(simp<;>omega)))
     |((with_reducible show aO _);first|exact True.intro|((try dsimp only[go_sem]);first|(simp[vb,e1,e2,f1,aj,gA]<;>omega)|(simp only[vb,and_true,true_implies];(repeat' (first|(with_reducible assumption)|(with_reducible apply And.intro)|intro _|((fail_if_success (with_reducible show(_:Int)≤_));assumption)))<;>(simp_all;done))))
     |exact(rfl:some _=_)
     |(
      fail_if_success refine aV ?_
      refine bI [(28,{val:=some (.pv (.sl (m++[(u:Int)]).length ((m++[(u:Int)]).flatMap cA)))}),(34,{val:=some (.pv (.int .i64 u))})] ?_;repeat1' dsimp only[c146,nq,nr,aj,go_sem]
      first
      |refine aW ?_ ?_ rfl ?_
      |apply aX
      |apply aY
      |(refine aZ (fun hc=>?_) fun hc=>?_<;>first|(cases hc;done)|(exfalso;(simp at hc<;>omega))|(try simp only[bn]at hc;try contradiction))
      |skip))
    rw[Es q1];rfl
   ·rw[if_neg hut]at p3;repeat' (first
     |((with_reducible show aF _);first|exact True.intro|(simp only[vb,lb,e1,e2,f1,aj,gA];and_intros<;>first|omega|(simp<;>omega)))
     |((with_reducible show aO _);first|exact True.intro|((try dsimp only[go_sem]);first|(simp[vb,e1,e2,f1,aj,gA]<;>omega)|(simp only[vb,and_true,true_implies];(repeat' (first|(with_reducible assumption)|(with_reducible apply And.intro)|intro _|((fail_if_success (with_reducible show(_:Int)≤_));assumption)))<;>(simp_all;done))))
     |exact(rfl:some _=_)
     |(
      fail_if_success refine aV ?_
      refine bI [(28,{val:=some (.pv (.sl (m++[(u:Int)]).length ((m++[(u:Int)]).flatMap cA)))}),(34,{val:=some (.pv (.int .i64 u))})] ?_;repeat1' dsimp only[c146,nq,nr,aj,go_sem]
      first
      |refine aW ?_ ?_ rfl ?_
      |apply aX
      |apply aY
      |(refine aZ (fun hc=>?_) fun hc=>?_<;>first|(cases hc;done)|(exfalso;(simp at hc<;>omega))|(try simp only[bn]at hc;try contradiction))
      |skip))
    have hLl:(m++[(u:Int)]).length≤8:=by simp;omega
    have hX:=fun k hk=>sh p1 (l:=m++[(u:Int)]) (by simp) k hk
    rw[hu]at hX;clear e1 e2 q2 q4 hml hres hb0 hz hzl;generalize m++[(u:Int)]=L at *;have hX1:=fun k=>tP k (bX n es) L u (L::r) seen
    have hX0:ma 0 (bX n es) L u (L::r) seen=(L::r,seen):=rfl;generalize hXX:(fun k=>ma k (bX n es) L u (L::r) seen)=X;have hXe:∀k,ma k (bX n es) L u (L::r) seen=X k:=fun k=>by rw[←hXX]
    simp only[hXe]at hX hX1 hX0 p3;clear hXe hXX;refine ek (σ:=Nat×List (List Int)×Nat) (fun s=>s.1≤n∧s.2.1.length+(X s.1).1.length+fy (X s.1).2≤n+1)
     (fun s=>[(2,.pv (.int .i64 tg)),(3,.ptr 0 0 0),(7,.ref 1 0 0 n),(8,.ref 2 s.2.2 s.2.1.length (X s.1).1.length),(9,.pv (.sl L.length (L.flatMap cA))),(10,.pv (.int .i64 u)),(40,.pv (.int .i64 n)),(41,.pv (.int .i64 s.1))])
     (fun s=>[nq n es,kE (X s.1).2,nr (s.2.1++(X s.1).1) s.2.2]) (fun s=>n-s.1) (0,pre,g) ⟨Nat.zero_le _,by simp only[hX0];exact p2⟩ (by simp only[hX0];(repeat' (first|exact trivial|refine And.intro (by first|rfl|(simp[get,Nat.beq];done)|(simp[get,Nat.beq];omega)|(dsimp only[get];congr 1<;>first|rfl|omega|(simp;done)|(simp;omega))) ?_))) ⟨[],by simp only[hX0];rfl⟩ (fun s _=>⟨Nat.zero_le _,rfl,by simp[aP,nq,kE,nr,dJ]⟩) fun s hP=>?_
    obtain⟨k,pre,g⟩:=s;obtain⟨t1,t2⟩:=hP;simp only at t1 t2 ⊢;obtain⟨b1,b2,⟨mm,b3⟩,-,-,-⟩:=hX k t1;have hxl:=b1.len;by_cases hlt:k<n
    ·have hs1:=hX1 k;have hha:=F9 n es u k hlen hn q3 hlt;have hsa:=Et (X k).2 k (by omega);have hse:=wZ (X k).2 k;have f3:=gw (X k).2;have hsd:(X k).2.getD k true=(X k).2.getD k false:=by rw[List.getD,List.getD,List.getElem?_eq_getElem (by omega)];rfl
     unfold pO at hs1;rw[hsd]at hs1;generalize hsb:(X k).2.getD k false=sb at *;generalize bX n es u k=eb at *;have same:X (k+1)=X k→∃s',n-s'.1<n-k∧(s'.1≤n∧s'.2.1.length+(X s'.1).1.length+fy (X s'.1).2≤n+1)∧s'=(k+1,pre,g):=fun h=>⟨(k+1,pre,g),by show n-(k+1)<n-k;omega,⟨by show k+1≤n;omega,by show pre.length+(X (k+1)).1.length+_≤_;rw[h];exact t2⟩,rfl⟩
     unfold bQ at hha;cases eb with
     |false =>
      have hs2:X (k+1)=X k:=by rw[hs1];simp
      obtain⟨s',w1,w2,rfl⟩:=same hs2;repeat' (first
       |((with_reducible show aF _);first|exact True.intro|(simp only[vb,lb,hha,hlt,hxl,f3];and_intros<;>first|omega|(simp<;>omega)))
       |((with_reducible show aO _);first|exact True.intro|((try dsimp only[go_sem]);(simp[vb,hha,hlt,hxl,f3]<;>omega)))
       |exact(rfl:some _=_)
       |(
        fail_if_success refine aV ?_
        refine dH [(166,fun _=>some (.bool false))] [(52,{val:=some (.pv (.bool false))})] ?_;repeat1' dsimp only[c146,nq,kE,bQ,go_sem]
        first
        |refine aW ?_ ?_ rfl ?_
        |apply aX
        |apply aY
        |(refine aZ (fun hc=>?_) fun hc=>?_<;>first|(cases hc;done)|(exfalso;(simp at hc<;>omega))|(try simp only[bn]at hc;try contradiction))
        |skip))
      exact⟨_,w1,w2,by simp only[hs2];(repeat' (first|exact trivial|refine And.intro (by first|rfl|(simp[get,Nat.beq];done)|(simp[get,Nat.beq];omega)|(dsimp only[get];congr 1<;>first|rfl|omega|(simp;done)|(simp;omega))) ?_)),[],by simp only[hs2]<;>rfl⟩
     |true =>
      cases sb with
      |true =>
       have hs2:X (k+1)=X k:=by rw[hs1];simp
       obtain⟨s',w1,w2,rfl⟩:=same hs2;repeat' (first
        |((with_reducible show aF _);first|exact True.intro|(simp only[vb,lb,hha,hlt,hsa,hxl,f3];and_intros<;>first|omega|(simp<;>omega)))
        |((with_reducible show aO _);first|exact True.intro|((try dsimp only[go_sem]);(simp only[vb,and_true,true_implies];(repeat' (first|(with_reducible assumption)|(with_reducible apply And.intro)|intro _|((fail_if_success (with_reducible show(_:Int)≤_));assumption)))<;>first|omega|(simp only[ab,hha,hlt,hsa,hxl,f3];done)|(simp[Nat.mul_one,hha,hlt,hsa,hxl,f3]<;>omega)|(simp_all;done))))
        |exact(rfl:some _=_)
        |(
         fail_if_success refine aV ?_
         refine dH [(166,fun _=>some (.bool true))] [(52,{val:=some (.pv (.bool true))})] ?_;repeat1' dsimp only[c146,nq,kE,bQ,go_sem]
         first
         |refine aW ?_ ?_ rfl ?_
         |apply aX
         |apply aY
         |(refine aZ (fun hc=>?_) fun hc=>?_<;>first|(cases hc;done)|(exfalso;(simp at hc<;>omega))|(try simp only[bn]at hc;try contradiction))
         |skip))
       exact⟨_,w1,w2,by simp only[hs2];(repeat' (first|exact trivial|refine And.intro (by first|rfl|(simp[get,Nat.beq];done)|(simp[get,Nat.beq];omega)|(dsimp only[get];congr 1<;>first|rfl|omega|(simp;done)|(simp;omega))) ?_)),[],by simp only[hs2]<;>rfl⟩
      |false =>
       iterate 7 first
        |refine⟨fun _=>?_,fun h=>by simp at h<;>omega⟩
        |refine⟨by simp[vb,hha,hlt,hsa,hxl,f3]<;>omega,by simp[vb,hha,hlt,hsa,hxl,f3]<;>omega,?_⟩
        |(refine dH [(166,fun _=>some (.bool true))] [(52,{val:=some (.pv (.bool false))})] ?_;iterate 2 (try dsimp only[nq,kE,bQ,go_sem]))
       refine bU (jy (T:=[(166,fun _=>some (.bool true))]) (H:=[(52,{val:=some (.pv (.bool false))})]) ?_);dsimp only[nq,kE,bQ,go_sem];try dsimp only[nq,kE,bQ,go_sem]
       refine⟨(by first|exact True.intro|(simp only[vb,lb];omega)|(simp only[vb,lb,hha,hlt,hsa,hxl,f3];and_intros<;>first|omega|(simp<;>omega))|(simp[vb,hha,hlt,hsa,hxl,f3]<;>omega)),(by first|exact True.intro|((try dsimp only[go_sem]);first|(simp[vb,hha,hlt,hsa,hxl,f3]<;>omega)|(simp only[vb,and_true,true_implies];(repeat' (first|(with_reducible assumption)|(with_reducible apply And.intro)|intro _|((fail_if_success (with_reducible show(_:Int)≤_));assumption)))<;>first|omega|rfl|(simp only[ab,hha,hlt,hsa,hxl,f3];done)|(simp[Nat.mul_one,hha,hlt,hsa,hxl,f3]<;>omega)|(simp_all;done)))),?_⟩
       refine dH [(166,fun _=>some (.bool true))] [(52,{val:=some (.pv (.bool false))})] ?_;dsimp only[nq,kE,bQ,go_sem];refine⟨fun _=>?_,fun h=>by simp at h<;>omega⟩;refine dH [(166,fun _=>some (.bool true))] [(52,{val:=some (.pv (.bool false))})] ?_;dsimp only[nq,kE,bQ,go_sem];try dsimp only[nq,kE,bQ,go_sem]
       refine⟨(by first|exact True.intro|(simp only[vb,lb];omega)|(simp only[vb,lb,hha,hlt,hsa,hxl,f3];and_intros<;>first|omega|(simp<;>omega))|(simp[vb,hha,hlt,hsa,hxl,f3]<;>omega)),(by first|exact True.intro|((try dsimp only[go_sem]);first|(simp[vb,hha,hlt,hsa,hxl,f3]<;>omega)|(simp only[vb,and_true,true_implies];(repeat' (first|(with_reducible assumption)|(with_reducible apply And.intro)|intro _|((fail_if_success (with_reducible show(_:Int)≤_));assumption)))<;>first|omega|rfl|(simp only[ab,hha,hlt,hsa,hxl,f3];done)|(simp[Nat.mul_one,hha,hlt,hsa,hxl,f3]<;>omega)|(simp_all;done)))),?_⟩
       have hcl:=fun μ=>F8 L q1 (by omega) μ
       rw[show(((X k).2.flatMap fe).map AV.pv).set (0+(k:Int).toNat*1) (.pv (.bool true))=(((X k).2.set k true).flatMap fe).map AV.pv from by rw[←hse];simp[setAt]];refine BX 7 false [(2,{val:=some (.ref 3 1 0 L.length),mem:=some ([⟨[.pv (.int .i64 n),.pv (.sl es.length (es.flatMap fe))],0,2,187,false⟩,⟨(((X k).2.set k true).flatMap fe).map .pv,0,1,4,false⟩,nr (pre++(X k).1) g]++[vf L])}),(5,{mode:=1})] [] ?_;iterate 3 (try dsimp only[uR,nr,vf,go_sem])
       have hls:∀l:List (List Int),(gA l).length=l.length:=fun l=>by simp[gA]
       have hxk:X (k+1)=((X k).1++[L++[(k:Int)]],(X k).2.set k true):=by rw[hs1];simp
       have hun:=kA (X k).2 k hsd;have fin:∀(pre':List (List Int)),pre'.length≤pre.length→∃s',n-s'.1<n-k∧(s'.1≤n∧s'.2.1.length+(X s'.1).1.length+fy (X s'.1).2≤n+1)∧s'=(k+1,pre',g+1):=fun pre' h=>⟨(k+1,pre',g+1),by show n-(k+1)<n-k;omega,⟨by show k+1≤n;omega,by show pre'.length+(X (k+1)).1.length+fy (X (k+1)).2≤n+1;rw[hxk];simp;omega⟩,rfl⟩
       have hps:(L.flatMap cA).map AV.pv++[.pv (.int .i64 k)]=((L++[(k:Int)]).flatMap cA).map AV.pv:=by simp[cA]
       rw[hps];have hcs:∀pre':List (List Int),(gA (pre'++(X k).1)).map AV.pv++[.pv (.sl (L.length+1) ((L++[(k:Int)]).flatMap cA))]=(gA (pre'++(X (k+1)).1)).map AV.pv:=fun pre'=>by rw[hxk];simp[gA,aj]
       have c1:pre.length+(X k).1.length*1=((gA (pre++(X k).1)).map AV.pv).length:=by simp[gA]
       have c2:0<(X k).1.length:=by rw[b3];simp
       refine⟨by simp[vb,f1]<;>omega,⟨hcl _,trivial⟩,by simp[vb],⟨rfl,rfl,rfl,rfl,c1,c2,by omega,by omega⟩,⟨trivial,trivial,?_⟩,trivial,trivial,?_⟩
       ·refine bH [(2,.pv (.int .i64 tg)),(3,.ptr 0 0 0),(7,.ref 1 0 0 n),(8,.ref 2 (g+1) pre.length ((X k).1.length+1)),(9,.pv (.sl L.length (L.flatMap cA))),(10,.pv (.int .i64 u)),(40,.pv (.int .i64 n)),(41,.pv (.int .i64 k))] (by (repeat' (first|exact trivial|refine And.intro (by first|rfl|(simp[get,Nat.beq];done)|(simp[get,Nat.beq];omega)|(dsimp only[get];congr 1<;>first|rfl|omega|(simp;done)|(simp;omega))) ?_))) ?_;refine uc (p0:=[.int .i64 n,.sl es.length (es.flatMap fe)]) rfl rfl (by rw[eM];simp) rfl (fun _=>rfl) rfl ?_;rw[hcs]
        obtain⟨s',w1,w2,rfl⟩:=fin pre (Nat.le_refl _);repeat' (first
         |((with_reducible show aF _);(simp only[vb,lb,hlt];and_intros<;>first|omega|(simp<;>omega)))
         |((with_reducible show aO _);exact True.intro)
         |exact(rfl:some _=_)
         |(
          fail_if_success refine aV ?_
          refine a7 ?_;repeat1' dsimp only[c146,go_sem]
          first
          |refine aW ?_ ?_ rfl ?_
          |apply aX
          |apply aY
          |(refine aZ (fun hc=>?_) fun hc=>?_<;>first|(cases hc;done)|(try simp only[bn]at hc;try contradiction))
          |skip))
        exact⟨_,w1,w2,by simp only[hxk];(repeat' (first|exact trivial|refine And.intro (by first|rfl|(simp[get,Nat.beq];done)|(simp[get,Nat.beq];omega)|(dsimp only[get];congr 1<;>first|rfl|omega|(simp;done)|(simp;omega))) ?_)),[],by simp only[hxk]<;>rfl⟩
       ·refine bH [(2,.pv (.int .i64 tg)),(3,.ptr 0 0 0),(7,.ref 1 0 0 n),(8,.ref 2 (g+1) 0 ((X k).1.length+1)),(9,.pv (.sl L.length (L.flatMap cA))),(10,.pv (.int .i64 u)),(40,.pv (.int .i64 n)),(41,.pv (.int .i64 k))] (by (repeat' (first|exact trivial|refine And.intro (by first|rfl|(simp[get,Nat.beq];done)|(simp[get,Nat.beq];omega)|(dsimp only[get];congr 1<;>first|rfl|omega|(simp;done)|(simp;omega))) ?_))) ?_;rw[show((gA (pre++(X k).1)).map AV.pv).drop pre.length=(gA ([]++(X k).1)).map AV.pv from by simp[gA]]
        refine uc (p0:=[.int .i64 n,.sl es.length (es.flatMap fe)]) rfl rfl (by rw[eM];simp) rfl (fun _=>rfl) rfl ?_;rw[hcs];obtain⟨s',w1,w2,rfl⟩:=fin [] (Nat.zero_le _);repeat' (first
         |((with_reducible show aF _);(simp only[vb,lb,hlt];and_intros<;>first|omega|(simp<;>omega)))
         |((with_reducible show aO _);exact True.intro)
         |exact(rfl:some _=_)
         |(
          fail_if_success refine aV ?_
          refine a7 ?_;repeat1' dsimp only[c146,go_sem]
          first
          |refine aW ?_ ?_ rfl ?_
          |apply aX
          |apply aY
          |(refine aZ (fun hc=>?_) fun hc=>?_<;>first|(cases hc;done)|(try simp only[bn]at hc;try contradiction))
          |skip))
        exact⟨_,w1,w2,by simp only[hxk];(repeat' (first|exact trivial|refine And.intro (by first|rfl|(simp[get,Nat.beq];done)|(simp[get,Nat.beq];omega)|(dsimp only[get];congr 1<;>first|rfl|omega|(simp;done)|(simp;omega))) ?_)),[],by simp only[hxk]<;>rfl⟩
    ·obtain rfl:k=n:=by omega
     repeat' (first
      |((with_reducible show aF _);first|exact True.intro|(simp only[vb,lb,hlt,b3];and_intros<;>first|omega|(simp<;>omega)))
      |((with_reducible show aO _);exact True.intro)
      |exact(rfl:some _=_)
      |(
       fail_if_success refine aV ?_
       refine a7 ?_;repeat1' dsimp only[c146,nq,kE,nr,go_sem]
       first
       |refine aW ?_ ?_ rfl ?_
       |apply aX
       |apply aY
       |(refine aZ (fun hc=>?_) fun hc=>?_<;>first|(cases hc;done)|(exfalso;(simp at hc<;>omega))|(try simp only[bn]at hc;try contradiction))
       |skip))
     generalize X k=Z at *;obtain⟨Z1,Z2⟩:=Z;simp only at b1 b2 b3 t2 p3 ⊢;subst b3;refine⟨(pre++[L],r++mm,Z2,g,f),?_,⟨⟨b1.len,fun x hx=>b1.ne x (by simp only[List.cons_append,List.mem_cons];exact .inr hx),b1.sr⟩,?_,p3,?_⟩,?_,[],?_⟩
     ·simp at b2 ⊢;omega
     ·simp at t2 ⊢;omega
     ·simp at b2 p4 ⊢;omega
     ·simp only[List.length_append,List.length_cons,List.length_nil];(repeat' (first|exact trivial|refine And.intro (by first|rfl|(simp[get,Nat.beq];done)|(simp[get,Nat.beq];omega)|(dsimp only[get];congr 1<;>first|rfl|omega|(simp;done)|(simp;omega))) ?_))
     ·simp[nq,kE,nr]
end
section
open Rf
theorem vg {t:Tree} (h:gz t=true):ec t=true∧wt t≤65536:=by
 simp only[gz,Bool.and_eq_true,decide_eq_true_eq]at h;exact⟨h.2,h.1.2⟩
def jB (t:Tree):List UInt8×Int:=if gz t then (if (ga t).length>65536 then ([],8) else (ga t,0)) else ([],1)
end
section
open Rf
theorem qq (s:List bj) (h:s.all br=true):∀k,k≤s.length→(fS (s.take k)).length≤60*k:=by
 intro k;induction k with
 |zero=>intro _;simp[fS]
 |succ k ih =>
  intro hk;rw[aU s k zs (by omega),np,List.length_append];have:=wX (List.all_eq_true.mp h _ (aQ (d:=zs) (by omega:k<s.length)));have:=ih (by omega);omega
set_option maxHeartbeats 4000000 in
theorem CU:∀t,qP t:=by
 refine Tree.ind fun kd s c a ks ih μ b g r o j h ho=>?_
 have hft:=h.hf;rw[dO]at hft;simp only[Bool.and_eq_true]at hft;have hw:=h.hw;rw[cJ]at hw ho;have hb:=h.hb;have hr:=h.hr;have ht:=CP h;have hL:=o9 (μ:=μ) (b:=b) (g:=g) (t:=.node kd s c a ks);have hsl:=qq s hft.1.1;refine bz (C:=ctx) (Fn.of G9 rfl) rfl (by rw[cI,cI];omega) rfl (by rw[cI];exact k6 h.ok hb hr) ?_;rw[cI,ju,o8];unfold Ia;refine a7 ?_;simp only[aE,Tree.kind,Tree.steps,Tree.cell,Tree.pos,Tree.kids,an,aa,ax,aq,ar,au,aw,mem_set,aD,go_sem]
 try simp only[aE,Tree.kind,Tree.steps,Tree.cell,Tree.pos,Tree.kids,an,aa,ax,aq,ar,au,aw,mem_set,aD,go_sem]
 refine⟨(by simp[vb]<;>omega),(by simp[vb]<;>omega),?_⟩;have e:fT μ b g r o j++[⟨[.ptr b g 0],0,1,75,false⟩]++[⟨[.pv (.int .i64 kd),.pv (.sl s.length (s.flatMap aG)),.pv (.int .i64 c),.pv (.int .i64 a),.pv (.sl ks.length (ks.flatMap gu))],0,5,25,false⟩]=fT (j3 μ b g (.node kd s c a ks)) b g r o j:=by
  rw[zI h,List.append_assoc];rfl
 rw[e];simp only[List.length_append,List.length_cons,List.length_nil,cI];refine a7 ?_;simp only[ht,ae,Tree.kind,Tree.steps,Tree.cell,Tree.pos,Tree.kids,an,aa,ax,aq,ar,au,aw,mem_set,aD,go_sem];try simp only[ht,ae,Tree.kind,Tree.steps,Tree.cell,Tree.pos,Tree.kids,an,aa,ax,aq,ar,au,aw,mem_set,aD,go_sem]
 refine⟨(by simp[vb]<;>omega),(by simp[vb]<;>omega),?_⟩;refine a7 ?_;simp only[ht,ae,Tree.kind,Tree.steps,Tree.cell,Tree.pos,Tree.kids,an,aa,ax,aq,ar,au,aw,mem_set,aD,go_sem];try simp only[ht,ae,Tree.kind,Tree.steps,Tree.cell,Tree.pos,Tree.kids,an,aa,ax,aq,ar,au,aw,mem_set,aD,go_sem]
 refine⟨(by simp[vb]<;>omega),(by simp[vb]<;>omega),?_⟩;refine cH ?_
 refine bK s.length (fun _=>True) (zH μ.length s) (fun k=>fT (j3 μ b g (.node kd s c a ks)) b g r (o++fS (s.take k)) (j+4*k)) trivial (by unfold zH;(repeat' (first|exact trivial|refine And.intro (by first|rfl|(simp[get,Nat.beq];done)|(simp[get,Nat.beq];omega)|(dsimp only[get];congr 1<;>first|rfl|omega|(simp;done)|(simp;omega))) ?_))) ⟨[],by simp[fS]⟩ (fun k=>⟨by rw[cI,hL];omega,by simp only[zH,gj,List.all_cons,List.all_nil,dJ,cI,hL,Bool.and_true,Bool.true_and,Bool.and_eq_true];exact⟨Nat.blt_eq.mpr (by omega),Nat.blt_eq.mpr (by omega),Nat.blt_eq.mpr (by omega)⟩,by rw[cI];exact k6 (pX h) (by omega) (by omega)⟩) fun k hk _=>?_
 have hsk:=hsl k hk;by_cases hlt:k<s.length
 ·have hs:=sw h (m:=μ.length) (R:=cC 0 (cB (fun f μ'=>Aw ctx (fun _=>false) 67 μ.length Eo (eA [] (.pv (.tup [])) (fT μ b g r (o++((s.map mc).flatten++jO kd c a ks.length++(ks.map ga).flatten)) (j+(4*s.length+jP kd+(ks.map fK).sum)))) f μ') (eA [] (.pv (.tup [])) (fT μ b g r (o++((s.map mc).flatten++jO kd c a ks.length++(ks.map ga).flatten)) (j+(4*s.length+jP kd+(ks.map fK).sum)))))) (o:=o++fS (s.take k)) (j:=j+4*k) hlt (by rw[List.length_append];omega);refine fI hs fun e' f' μ' hh=>?_
  cases e' with
  |normal =>
   obtain⟨h1,junk,h2⟩:=hh;refine⟨hlt,trivial,h1,junk,?_⟩;rw[h2,aU s k zs hlt,np,List.append_assoc o,show j+4*k+4=j+4*(k+1) by omega]
  |_=>exact hh
 ·obtain rfl:k=s.length:=by omega
  rw[List.take_length]at hsk ⊢;have htl:=fun f hf=>sB h (m:=μ.length) (Nat.le_refl _) ih (o:=o++fS s) (j:=j+4*s.length) (by rw[List.length_append];omega) (f:=f) hf
  unfold zH;iterate 5 first
   |refine⟨fun h=>by simp at h<;>omega,fun _=>?_⟩
   |refine⟨by simp[vb]<;>omega,by simp[vb]<;>omega,?_⟩
   |(refine a7 ?_;iterate 2 (try simp only[ht,ax,aq,ar,au,aw,mem_set,aD,go_sem]))
  have:=htl [(14,.pv (.bool (decide ((s.length:Int)<s.length)))),(2,.ptr μ.length 0 0),(3,.ptr (μ.length+1) 0 0),(4,.fn 82 [.ptr μ.length 0 0]),(11,.pv (.sl s.length (s.flatMap aG))),(12,.pv (.int .i64 s.length)),(13,.pv (.int .i64 s.length))] (by (repeat' (first|exact trivial|refine And.intro (by first|rfl|(simp[get,Nat.beq];done)|(simp[get,Nat.beq];omega)|(dsimp only[get];congr 1<;>first|rfl|omega|(simp;done)|(simp;omega))) ?_)))
  rw[show o++fS s++jO kd c a ks.length++lA ks=o++((s.map mc).flatten++jO kd c a ks.length++(ks.map ga).flatten) by simp[fS,lA],show j+4*s.length+jP kd+j0 ks=j+(4*s.length+jP kd+(ks.map fK).sum) by simp[j0];omega]at this;exact this
theorem pb (aB:List Nat) (d:Nat) (l:List UInt8):(fW l).map (dG aB d)=fW l:=by
 unfold fW;rw[List.map_map];refine List.map_congr_left fun x _=>?_
 cases d<;>rfl
def iA:fF:=dA (.pv (.val (.pointer none))) (.pv .nilsl) 0
def Gc (s:List bj):Nat→AF
 |0=>zH 2 s 0
 |k+1=>zH 3 s (k+1)
def Bt (t:Tree) (s:List bj):Nat→AM
 |0=>[ae t,iA,ba 1 0,ae t]
 |k+1=>fT (j3 [ae t,iA,eF [] 0] 1 0 t) 1 0 2 (fS (s.take (k+1))) (4*(k+1)-1)
set_option maxHeartbeats 4000000 in
theorem Ba (t:Tree) (hf:ec t=true) (hw:wt t≤1000000):aL ctx 50 [.ptr 1 0 0,.pv (aE t)] [ae t,iA] (.pv (.tup [])) (fT [ae t,iA,eF [] 0] 1 0 2 (ga t) (fK t-1)):=by
 obtain⟨kd,s,c,a,ks⟩:=t;have h:td [ae (.node kd s c a ks),iA,eF [] 0] 1 0 2 (.node kd s c a ks):=⟨rfl,by simp,by simp,by simp,hf,hw⟩
 have hft:=hf;rw[dO]at hft;simp only[Bool.and_eq_true]at hft;rw[cJ]at hw;have hsl:=qq s hft.1.1;have ih:∀x∈ks,qP x:=fun x _=>CU x
 refine bz (C:=ctx) (Fn.of G9 rfl) rfl (by simp[cI]) rfl (by rw[cI];exact k6 (by rfl) (by simp) (by simp)) ?_;rw[ju,o8];unfold Ia;refine a7 ?_;dsimp only[aE,ae,iA,dA,Tree.kind,Tree.steps,Tree.cell,Tree.pos,Tree.kids,an,aa,go_sem];try dsimp only[aE,ae,iA,dA,Tree.kind,Tree.steps,Tree.cell,Tree.pos,Tree.kids,an,aa,go_sem]
 refine⟨(by simp[vb]<;>omega),(by simp[vb]<;>omega),?_⟩;refine a7 ?_;dsimp only[aE,ae,Tree.kind,Tree.steps,Tree.cell,Tree.pos,Tree.kids,an,aa,go_sem];try dsimp only[aE,ae,Tree.kind,Tree.steps,Tree.cell,Tree.pos,Tree.kids,an,aa,go_sem]
 refine⟨(by simp[vb]<;>omega),(by simp[vb]<;>omega),?_⟩;refine a7 ?_;dsimp only[aE,ae,Tree.kind,Tree.steps,Tree.cell,Tree.pos,Tree.kids,an,aa,go_sem];try dsimp only[aE,ae,Tree.kind,Tree.steps,Tree.cell,Tree.pos,Tree.kids,an,aa,go_sem]
 refine⟨(by simp[vb]<;>omega),(by simp[vb]<;>omega),?_⟩;refine cH ?_;refine ek (fun k=>k≤s.length) (Gc s) (Bt (.node kd s c a ks) s) (fun k=>s.length-k) 0 (Nat.zero_le _) (by unfold Gc zH;(repeat' (first|exact trivial|refine And.intro (by first|rfl|(simp[get,Nat.beq];done)|(simp[get,Nat.beq];omega)|(dsimp only[get];congr 1<;>first|rfl|omega|(simp;done)|(simp;omega))) ?_))) ⟨[],rfl⟩ (fun k hk=>?_) fun k hk=>?_
 ·cases k with
  |zero=>exact⟨by simp[Bt],rfl,rfl⟩
  |succ k=>exact⟨by simp[Bt,cI,j3],by simp only[Bt,cI,j3];rfl,by simp only[Bt];rw[cI];exact k6 (pX h) (by simp[j3]) (by simp[j3])⟩
 have hsk:=hsl k hk;by_cases hlt:k<s.length
 ·cases k with
  |succ k =>
   have hs:=sw h (m:=2) (R:=cC 0 (cB (fun f μ'=>Aw ctx (fun _=>false) 67 2 Eo (eA [] (.pv (.tup [])) (fT [ae (.node kd s c a ks),iA,eF [] 0] 1 0 2 ((s.map mc).flatten++jO kd c a ks.length++(ks.map ga).flatten) (4*s.length+jP kd+(ks.map fK).sum-1))) f μ') (eA [] (.pv (.tup [])) (fT [ae (.node kd s c a ks),iA,eF [] 0] 1 0 2 ((s.map mc).flatten++jO kd c a ks.length++(ks.map ga).flatten) (4*s.length+jP kd+(ks.map fK).sum-1))))) (o:=fS (s.take (k+1))) (j:=4*(k+1)-1) hlt (by omega);refine fI hs fun e' f' μ' hh=>?_
   cases e' with
   |normal =>
    obtain⟨h1,junk,h2⟩:=hh;refine⟨k+1+1,by omega,by omega,h1,junk,?_⟩;rw[h2,Bt,aU s (k+1) zs hlt,np,show 4*(k+1)-1+4=4*(k+1+1)-1 by omega]
   |_=>exact hh
  |zero =>
   have hxo:br (s.getD 0 zs)=true:=List.all_eq_true.mp hft.1.1 _ (aQ hlt);have e:=cK dN s 0 zs hlt;rw[Nat.zero_mul,List.drop_zero]at e;have hle:=iv s;have e1:=aU s 0 zs hlt;generalize s.getD 0 zs=x at *;obtain⟨b1,b2⟩:=me hxo;have hkind:x.kind=0∨x.kind=1:=by
    simp[br,aK]at hxo;omega
   obtain⟨xk,xi,xc⟩:=x;simp only at b1 b2 hkind;have hb2:∀n∈[xi,xc],-10000000000≤n∧n≤10000000000:=by
    intro n hn;simp only[List.mem_cons,List.not_mem_nil,or_false]at hn;rcases hn with rfl|rfl<;>omega
   have hl1:=fun w hw0 hw1=>Fl (μ:=[ae (.node kd s c a ks),iA,ba 1 0,ae (.node kd s c a ks),vl ⟨xk,xi,xc⟩]) rfl (b:=1) (g:=0) (c:=2) rfl (by simp) rfl w [xi,xc] (by simp) hb2 hw0 hw1
   have hr:=ub ⟨xk,xi,xc⟩;have e3:fS (s.take 1)=mc ⟨xk,xi,xc⟩:=by rw[e1];simp[fS]
   have a1:Gc s 0=[(2,.ptr 2 0 0),(3,.ptr 3 0 0),(4,.fn 82 [.ptr 2 0 0]),(11,.pv (.sl s.length (s.flatMap aG))),(12,.pv (.int .i64 s.length)),(13,.pv (.int .i64 0))]:=rfl;have a2:Bt (.node kd s c a ks) s 0=[ae (.node kd s c a ks),iA,ba 1 0,ae (.node kd s c a ks)]:=rfl;rw[a1,a2];rcases hkind with rfl|rfl
   ·have h6:=hl1 [114,111,119] (by simp) (by simp);replace hr:mc ⟨0,xi,xc⟩=dw [114,111,119] [xi,xc]:=hr;refine a7 ?_;dsimp only[go_sem];try dsimp only[go_sem]
    refine⟨(by simp[vb]<;>omega),(by simp[vb]<;>omega),?_⟩;refine a7 ?_;dsimp only[go_sem];refine⟨fun _=>?_,fun h=>by simp at h;subst h;simp at hlt⟩;iterate 5 first
     |refine⟨by simp[vb,e,hle,hlt,aG]<;>omega,by simp[vb,e,hle,hlt,aG]<;>omega,?_⟩
     |(refine bI [(16,{val:=some (.pv (.agg (aG ⟨0,xi,xc⟩)))})] ?_;iterate 2 (try dsimp only[ba,aG,ae,iA,dA,Tree.kind,Tree.steps,Tree.cell,Tree.pos,Tree.kids,go_sem]))
    refine bI [(26,{val:=some (.pv (.tup [])),mem:=some [ae (.node kd s c a ks),dA (.ptr 1 0 0) (.ref 5 3 0 (dw [114,111,119] [xi,xc]).length) 0,ba 1 0,ae (.node kd s c a ks),vl ⟨0,xi,xc⟩,eF (dw [114,111,119] [xi,xc]) 3]})] ?_;dsimp only[ba,aG,go_sem];refine⟨fun _=>?_,fun h=>by simp at h<;>omega⟩;refine bI [(26,{val:=some (.pv (.tup [])),mem:=some [ae (.node kd s c a ks),dA (.ptr 1 0 0) (.ref 5 3 0 (dw [114,111,119] [xi,xc]).length) 0,ba 1 0,ae (.node kd s c a ks),vl ⟨0,xi,xc⟩,eF (dw [114,111,119] [xi,xc]) 3]})] ?_
    dsimp only[ba,aG,go_sem];try dsimp only[ba,aG,go_sem]
    refine⟨(by simp[vb]<;>omega),?_,?_⟩
    ·exact⟨h6,trivial⟩
    refine jx [0,1,5,2,3] rfl ?_;dsimp only[fQ,fq,fU,dG,idxOf,ae,dA,eF,ba,vl,go_sem];simp only[pb];refine a7 ?_;dsimp only[ba,aG,go_sem];try dsimp only[ba,aG,go_sem]
    refine⟨(by simp[vb]<;>omega),(by simp[vb]<;>omega),?_⟩;exact⟨1,by omega,by omega,by unfold Gc zH;(repeat' (first|exact trivial|refine And.intro (by first|rfl|(simp[get,Nat.beq];done)|(simp[get,Nat.beq];omega)|(dsimp only[get];congr 1<;>first|rfl|omega|(simp;done)|(simp;omega))) ?_)),[],by rw[Bt,Nat.zero_add,e3,hr];rfl⟩
   ·have h6:=hl1 [103,114,97,112,104] (by simp) (by simp);replace hr:mc ⟨1,xi,xc⟩=dw [103,114,97,112,104] [xi,xc]:=hr;refine a7 ?_;dsimp only[go_sem];try dsimp only[go_sem]
    refine⟨(by simp[vb]<;>omega),(by simp[vb]<;>omega),?_⟩;refine a7 ?_;dsimp only[go_sem];refine⟨fun _=>?_,fun h=>by simp at h;subst h;simp at hlt⟩;iterate 5 first
     |refine⟨by simp[vb,e,hle,hlt,aG]<;>omega,by simp[vb,e,hle,hlt,aG]<;>omega,?_⟩
     |(refine bI [(16,{val:=some (.pv (.agg (aG ⟨1,xi,xc⟩)))})] ?_;iterate 2 (try dsimp only[ba,aG,ae,iA,dA,Tree.kind,Tree.steps,Tree.cell,Tree.pos,Tree.kids,go_sem]))
    refine bI [(33,{val:=some (.pv (.tup [])),mem:=some [ae (.node kd s c a ks),dA (.ptr 1 0 0) (.ref 5 3 0 (dw [103,114,97,112,104] [xi,xc]).length) 0,ba 1 0,ae (.node kd s c a ks),vl ⟨1,xi,xc⟩,eF (dw [103,114,97,112,104] [xi,xc]) 3]})] ?_;dsimp only[ba,aG,go_sem];refine⟨fun h=>by simp at h<;>omega,fun _=>?_⟩;refine bI [(33,{val:=some (.pv (.tup [])),mem:=some [ae (.node kd s c a ks),dA (.ptr 1 0 0) (.ref 5 3 0 (dw [103,114,97,112,104] [xi,xc]).length) 0,ba 1 0,ae (.node kd s c a ks),vl ⟨1,xi,xc⟩,eF (dw [103,114,97,112,104] [xi,xc]) 3]})] ?_
    dsimp only[ba,aG,go_sem];try dsimp only[ba,aG,go_sem]
    refine⟨(by simp[vb]<;>omega),?_,?_⟩
    ·exact⟨h6,trivial⟩
    refine jx [0,1,5,2,3] rfl ?_;dsimp only[fQ,fq,fU,dG,idxOf,ae,dA,eF,ba,vl,go_sem];simp only[pb];refine a7 ?_;dsimp only[ba,aG,go_sem];try dsimp only[ba,aG,go_sem]
    refine⟨(by simp[vb]<;>omega),(by simp[vb]<;>omega),?_⟩;exact⟨1,by omega,by omega,by unfold Gc zH;(repeat' (first|exact trivial|refine And.intro (by first|rfl|(simp[get,Nat.beq];done)|(simp[get,Nat.beq];omega)|(dsimp only[get];congr 1<;>first|rfl|omega|(simp;done)|(simp;omega))) ?_)),[],by rw[Bt,Nat.zero_add,e3,hr];rfl⟩
 ·obtain rfl:k=s.length:=by omega
  have hst:fS s=(s.map mc).flatten:=rfl;have hkt:lA ks=(ks.map ga).flatten:=rfl;have hkw:j0 ks=(ks.map fK).sum:=rfl;rw[List.take_length]at hsk;have htw:2≤jP kd:=by unfold jP;split<;>(try split)<;>omega
  rw[←hst,←hkt,←hkw];cases s with
  |cons x s' =>
   have htl:=fun f hf=>sB h (m:=2) (by simp) ih (o:=fS (x::s')) (j:=4*(x::s').length-1) (by omega) (f:=f) hf
   have e4:4*(x::s').length-1+jP kd+j0 ks=4*(x::s').length+jP kd+j0 ks-1:=by simp only[List.length_cons];omega
   rw[e4]at htl;have e5:Bt (.node kd (x::s') c a ks) (x::s') (x::s').length=fT (j3 [ae (.node kd (x::s') c a ks),iA,eF [] 0] 1 0 (.node kd (x::s') c a ks)) 1 0 2 (fS (x::s')) (4*(x::s').length-1):=by
    simp only[List.length_cons,Bt];rw[show(x::s').take (s'.length+1)=x::s' from List.take_length (l:=x::s')]
   rw[e5];have e6:Gc (x::s') (x::s').length=zH 3 (x::s') (x::s').length:=rfl;rw[e6];unfold zH;generalize hM:fT (j3 [ae (.node kd (x::s') c a ks),iA,eF [] 0] 1 0 (.node kd (x::s') c a ks)) 1 0 2 (fS (x::s')) (4*(x::s').length-1)=MM at *;iterate 5 first
    |refine⟨fun h=>by simp at h<;>omega,fun _=>?_⟩
    |refine⟨by simp[vb]<;>omega,by simp[vb]<;>omega,?_⟩
    |(refine a7 ?_;iterate 2 (try dsimp only[go_sem]))
   exact htl _ (by (repeat' (first|exact trivial|refine And.intro (by first|rfl|(simp[get,Nat.beq];done)|(simp[get,Nat.beq];omega)|(dsimp only[get];congr 1<;>first|rfl|omega|(simp;done)|(simp;omega))) ?_)))
  |nil =>
   have a1:Gc [] 0=[(2,.ptr 2 0 0),(3,.ptr 3 0 0),(4,.fn 82 [.ptr 2 0 0]),(11,.pv (.sl 0 [])),(12,.pv (.int .i64 0)),(13,.pv (.int .i64 0))]:=rfl;have a2:Bt (.node kd [] c a ks) [] 0=[ae (.node kd [] c a ks),iA,ba 1 0,ae (.node kd [] c a ks)]:=rfl;rw[List.length_nil,a1,a2];have hb:=nk hft.1.2;obtain⟨b1,b2⟩:=hb;have hwl:=il ks;have htl:=pV hft.1.2 (by omega);have hkk:=fun f hf=>sy h (m:=2) (by simp) ih (o:=jO kd c a ks.length) (j:=jP kd-1) (by omega) (f:=f) hf
   have hln:=fun w ns hn hns hw0 hw=>Fl (μ:=[ae (.node kd [] c a ks),iA,ba 1 0,ae (.node kd [] c a ks)]) rfl (b:=1) (g:=0) (c:=2) rfl (by simp) rfl w ns hn hns hw0 hw
   have e4:jP kd-1+j0 ks=4*0+jP kd+j0 ks-1:=by omega
   rw[e4]at hkk;rw[show fS []=[] from rfl,List.nil_append];rw[su]at hkk ⊢;rcases sA hft.1.2 with⟨rfl,h0⟩|rfl|⟨rfl,h2⟩
   ·have h1:=(hln [99,108,111,115,101,100] [] (by simp) (by simp) (by simp) (by simp)).Ab (al':=[.pv (.str [99,108,111,115,101,100]),.pv .nilsl,.ptr 2 0 0]) ⟨rfl,fun i x y hx hy=>by
     match i,hx,hy with
     |0,hx,hy=>injection hx with hx;injection hy with hy;subst hx hy;exact .refl _
     |1,hx,hy=>injection hx with hx;injection hy with hy;subst hx hy;exact CW.nil
     |2,hx,hy=>injection hx with hx;injection hy with hy;subst hx hy;exact .refl _
     |_+3,hx,_=>simp at hx⟩
    iterate 9 first
     |refine⟨fun h=>by simp at h<;>omega,fun _=>?_⟩
     |refine⟨by simp[vb]<;>omega,by simp[vb]<;>omega,?_⟩
     |(refine a7 ?_;iterate 2 (try dsimp only[ae,iA,dA,ba,Tree.kind,Tree.steps,Tree.cell,Tree.pos,Tree.kids,go_sem]))
    refine bI [(46,{val:=some (.pv (.tup [])),mem:=some [ae (.node 0 [] c a ks),dA (.ptr 1 0 0) (.ref 4 1 0 (dw [99,108,111,115,101,100] []).length) 0,ba 1 0,ae (.node 0 [] c a ks),eF (dw [99,108,111,115,101,100] []) 1]})] ?_;dsimp only[ae,iA,dA,ba,Tree.kind,Tree.steps,Tree.cell,Tree.pos,Tree.kids,go_sem];refine⟨fun _=>?_,fun h=>by simp at h<;>omega⟩
    refine bI [(46,{val:=some (.pv (.tup [])),mem:=some [ae (.node 0 [] c a ks),dA (.ptr 1 0 0) (.ref 4 1 0 (dw [99,108,111,115,101,100] []).length) 0,ba 1 0,ae (.node 0 [] c a ks),eF (dw [99,108,111,115,101,100] []) 1]})] ?_;dsimp only[ae,iA,dA,ba,Tree.kind,Tree.steps,Tree.cell,Tree.pos,Tree.kids,go_sem];try dsimp only[ae,iA,dA,ba,Tree.kind,Tree.steps,Tree.cell,Tree.pos,Tree.kids,go_sem]
    refine⟨(by simp[vb]<;>omega),?_,?_⟩
    ·exact⟨h1,trivial⟩
    refine jx [0,1,4,2,3] rfl ?_;dsimp only[fQ,fq,fU,dG,idxOf,ae,dA,eF,ba,vl,go_sem];simp only[pb];exact hkk _ (by (repeat' (first|exact trivial|refine And.intro (by first|rfl|(simp[get,Nat.beq];done)|(simp[get,Nat.beq];omega)|(dsimp only[get];congr 1<;>first|rfl|omega|(simp;done)|(simp;omega))) ?_)))
   ·have h1:=hln [115,112,108,105,116] [c,a] (by simp) (by intro n hn;simp only[List.mem_cons,List.not_mem_nil,or_false]at hn;rcases hn with rfl|rfl<;>omega) (by simp) (by simp);iterate 9 first
     |refine⟨fun h=>by simp at h<;>omega,fun _=>?_⟩
     |refine⟨by simp[vb]<;>omega,by simp[vb]<;>omega,?_⟩
     |(refine a7 ?_;iterate 2 (try dsimp only[ae,iA,dA,ba,Tree.kind,Tree.steps,Tree.cell,Tree.pos,Tree.kids,go_sem]))
    refine a7 ?_;dsimp only[ae,Tree.kind,Tree.steps,Tree.cell,Tree.pos,Tree.kids,go_sem];refine⟨fun h=>by simp at h<;>omega,fun _=>?_⟩;refine a7 ?_;dsimp only[ae,Tree.kind,Tree.steps,Tree.cell,Tree.pos,Tree.kids,go_sem];try dsimp only[ae,Tree.kind,Tree.steps,Tree.cell,Tree.pos,Tree.kids,go_sem]
    refine⟨(by simp[vb]<;>omega),(by simp[vb]<;>omega),?_⟩;refine bI [(55,{val:=some (.pv (.tup [])),mem:=some [ae (.node 1 [] c a ks),dA (.ptr 1 0 0) (.ref 4 3 0 (dw [115,112,108,105,116] [c,a]).length) 0,ba 1 0,ae (.node 1 [] c a ks),eF (dw [115,112,108,105,116] [c,a]) 3]})] ?_;dsimp only[ae,iA,dA,ba,Tree.kind,Tree.steps,Tree.cell,Tree.pos,Tree.kids,go_sem];refine⟨fun _=>?_,fun h=>by simp at h<;>omega⟩
    refine bI [(55,{val:=some (.pv (.tup [])),mem:=some [ae (.node 1 [] c a ks),dA (.ptr 1 0 0) (.ref 4 3 0 (dw [115,112,108,105,116] [c,a]).length) 0,ba 1 0,ae (.node 1 [] c a ks),eF (dw [115,112,108,105,116] [c,a]) 3]})] ?_;dsimp only[ae,iA,dA,ba,Tree.kind,Tree.steps,Tree.cell,Tree.pos,Tree.kids,go_sem];try dsimp only[ae,iA,dA,ba,Tree.kind,Tree.steps,Tree.cell,Tree.pos,Tree.kids,go_sem]
    refine⟨(by simp[vb]<;>omega),?_,?_⟩
    ·exact⟨h1,trivial⟩
    refine jx [0,1,4,2,3] rfl ?_;dsimp only[fQ,fq,fU,dG,idxOf,ae,dA,eF,ba,vl,go_sem];simp only[pb];exact hkk _ (by (repeat' (first|exact trivial|refine And.intro (by first|rfl|(simp[get,Nat.beq];done)|(simp[get,Nat.beq];omega)|(dsimp only[get];congr 1<;>first|rfl|omega|(simp;done)|(simp;omega))) ?_)))
   ·have h1:=hln [99,97,115,101,115] [(ks.length:Int)] (by simp) (by intro n hn;simp only[List.mem_cons,List.not_mem_nil,or_false]at hn;subst hn;omega) (by simp) (by simp);iterate 9 first
     |refine⟨fun h=>by simp at h<;>omega,fun _=>?_⟩
     |refine⟨by simp[vb]<;>omega,by simp[vb]<;>omega,?_⟩
     |(refine a7 ?_;iterate 2 (try dsimp only[ae,iA,dA,ba,Tree.kind,Tree.steps,Tree.cell,Tree.pos,Tree.kids,an,go_sem]))
    refine a7 ?_;dsimp only[ae,Tree.kind,Tree.steps,Tree.cell,Tree.pos,Tree.kids,an,go_sem];refine⟨fun h=>by simp at h<;>omega,fun _=>?_⟩;refine a7 ?_;dsimp only[ae,Tree.kind,Tree.steps,Tree.cell,Tree.pos,Tree.kids,an,go_sem];try dsimp only[ae,Tree.kind,Tree.steps,Tree.cell,Tree.pos,Tree.kids,an,go_sem]
    refine⟨(by simp[vb]<;>omega),(by simp[vb]<;>omega),?_⟩;refine bI [(42,{val:=some (.pv (.tup [])),mem:=some [ae (.node 2 [] c a ks),dA (.ptr 1 0 0) (.ref 4 2 0 (dw [99,97,115,101,115] [(ks.length:Int)]).length) 0,ba 1 0,ae (.node 2 [] c a ks),eF (dw [99,97,115,101,115] [(ks.length:Int)]) 2]})] ?_;dsimp only[ae,iA,dA,ba,Tree.kind,Tree.steps,Tree.cell,Tree.pos,Tree.kids,an,go_sem];refine⟨fun h=>by simp at h<;>omega,fun _=>?_⟩
    refine bI [(42,{val:=some (.pv (.tup [])),mem:=some [ae (.node 2 [] c a ks),dA (.ptr 1 0 0) (.ref 4 2 0 (dw [99,97,115,101,115] [(ks.length:Int)]).length) 0,ba 1 0,ae (.node 2 [] c a ks),eF (dw [99,97,115,101,115] [(ks.length:Int)]) 2]})] ?_;dsimp only[ae,iA,dA,ba,Tree.kind,Tree.steps,Tree.cell,Tree.pos,Tree.kids,an,go_sem];try dsimp only[ae,iA,dA,ba,Tree.kind,Tree.steps,Tree.cell,Tree.pos,Tree.kids,an,go_sem]
    refine⟨(by simp[vb]<;>omega),?_,?_⟩
    ·exact⟨h1,trivial⟩
    refine jx [0,1,4,2,3] rfl ?_;dsimp only[fQ,fq,fU,dG,idxOf,ae,dA,eF,ba,vl,go_sem];simp only[pb];exact hkk _ (by (repeat' (first|exact trivial|refine And.intro (by first|rfl|(simp[get,Nat.beq];done)|(simp[get,Nat.beq];omega)|(dsimp only[get];congr 1<;>first|rfl|omega|(simp;done)|(simp;omega))) ?_)))
theorem CV (t:Tree):ga t≠[]:=by
 obtain⟨k,s,c,a,l⟩:=t;rw[ju];have:jO k c a l.length≠[]:=by
  unfold jO;split
  ·simp
  ·split<;>simp
 simp[this]
def Ib:az:=(⟨_,by conv=>(lhs;reduce;try simp only[ei,Int.cast_ofNat_Int,Int.reduceNegSucc,UInt8.reduceOfNat])⟩:{x // codeOf Tryz.prog 26 (fun _=>false)=some x}).1
theorem Ic:bF Tryz.prog 26 (fun _=>false)=some (Ib,[.t 2,.t 3],13,true):=by kernel_rfl
set_option maxHeartbeats 4000000 in
theorem ud (t:Tree) (hw:wt t≤1000000000):ai ctx 26 [aE t] (.tup [.str (jB t).1,.int .i64 (jB t).2]):=by
 have hv:=so t hw;unfold jB;refine af (C:=ctx) (Fn.of Ic rfl) rfl ?_;unfold Ib;cases hb:gz t with
 |false =>
  rw[hb]at hv;repeat' (first
   |((with_reducible first|show aF _|show aO _);simp[vb]<;>omega)
   |exact(rfl:some _=_)
   |(
    fail_if_success refine aV ?_
    refine iu [(13,fun _=>some (.bool false))] ?_;repeat1' dsimp only[Ib,aE,go_sem]
    first
    |refine aW ?_ ?_ rfl ?_
    |apply aX
    |apply aY
    |(refine aZ (fun hc=>?_) fun hc=>?_<;>first|(cases hc;done)|(exfalso;simp at hc<;>omega)|(try simp only[bn]at hc;try contradiction))
    |skip))
  exact⟨hv,trivial⟩
 |true =>
  obtain⟨hf,hw2⟩:=vg hb;have hwr:=Ba t hf (by omega);have hne:=CV t;rw[hb]at hv;generalize ga t=T at *;generalize hj:fK t-1=j at *;have hlen:=DZ (μ:=fT [ae t,iA,eF [] 0] 1 0 2 T j) (by rw[cI];exact k6 (by rfl) (by simp) (by simp)) (b:=1) (g:=0) (r:=2) (j:=j) (n:=T.length) (x:=.ptr 1 0 0) rfl;have hstr:=yn (μ:=fT [ae t,iA,eF [] 0] 1 0 2 T j) (b:=1) (g:=0) (r:=2) (j:=j) (x:=.ptr 1 0 0) hne rfl rfl;refine iu [(13,fun _=>some (.bool true))] ?_;dsimp only[aE,go_sem];try dsimp only[aE,go_sem]
  refine⟨(by simp[vb]<;>omega),(by simp[vb]<;>omega),?_⟩;refine iu [(13,fun _=>some (.bool true))] ?_;dsimp only[aE,go_sem];try dsimp only[aE,go_sem]
  refine⟨(by simp[vb]<;>omega),?_,?_⟩
  ·exact⟨hv,trivial⟩
  iterate 5 first
   |refine⟨fun h=>by simp at h<;>omega,fun _=>?_⟩
   |refine⟨by simp[vb]<;>omega,by simp[vb]<;>omega,?_⟩
   |(refine bI [(9,{val:=some (.pv (.tup [])),mem:=some [ae t,dA (.ptr 1 0 0) (.ref 2 j 0 T.length) 0,eF T j]})] ?_;iterate 2 (try dsimp only[ae,go_sem]))
  refine bI [(9,{val:=some (.pv (.tup [])),mem:=some [ae t,dA (.ptr 1 0 0) (.ref 2 j 0 T.length) 0,eF T j]})] ?_;dsimp only[ae,go_sem];try dsimp only[ae,go_sem]
  refine⟨(by simp[vb]<;>omega),?_,?_⟩
  ·exact⟨hwr,trivial⟩
  refine bI [(10,{val:=some (.pv (.int .i64 T.length)),ro:=true})] ?_;dsimp only[ae,go_sem];try dsimp only[ae,go_sem]
  refine⟨(by simp[vb]<;>omega),?_,?_⟩
  ·exact⟨hlen,trivial⟩
  refine a7 ?_;dsimp only[go_sem];refine⟨fun hc=>?_,fun hc=>?_⟩
  ·rw[if_pos rfl,if_pos (by simp at hc;omega)];refine a7 ?_;dsimp only[go_sem];try dsimp only[go_sem]
   refine⟨(by simp[vb]<;>omega),(by simp[vb]<;>omega),?_⟩;refine a7 ?_;dsimp only[go_sem];exact⟨trivial,rfl⟩
  ·rw[if_pos rfl,if_neg (by simp at hc;omega)];refine bI [(12,{val:=some (.pv (.str T)),mem:=some ([ae t,dA (.ptr 1 0 0) (.ref 2 j 0 T.length) 0,eF T j].set 2 {eF T j with frozen:=true})})] ?_;dsimp only[go_sem];refine bI [(12,{val:=some (.pv (.str T)),mem:=some ([ae t,dA (.ptr 1 0 0) (.ref 2 j 0 T.length) 0,eF T j].set 2 {eF T j with frozen:=true})})] ?_;dsimp only[go_sem];try dsimp only[go_sem]
   refine⟨(by simp[vb]<;>omega),?_,?_⟩
   ·exact⟨hstr,trivial⟩
   refine a7 ?_;dsimp only[go_sem];exact⟨trivial,rfl⟩
end
end Pur
end
section
namespace Rf
open Pur (aK)
theorem kX:∀(n:Int) (l:List Tm) (last:Int),-1≤last→fc n last l=true→(l.length:Int)+last+1≤max n (last+1)∧∀t∈l,0≤t.cell∧last<t.cell∧t.cell<n∧t.fac≠0∧ -1000≤t.fac∧t.fac≤1000
 |n,[],last,h,_=>⟨by simp;omega,fun t ht=>by cases ht⟩
 |n,x::l,last,h,e=>by
  simp only[fc,aK,Bool.and_eq_true,decide_eq_true_eq]at e;obtain⟨⟨⟨⟨e1,e2⟩,e3⟩,e4,e5⟩,e6⟩:=e;obtain⟨g1,g2⟩:=kX n l x.cell (by omega) e6;refine⟨by simp;omega,fun t ht=>?_⟩;rcases List.mem_cons.mp ht with rfl|ht
  ·exact⟨by omega,e1,e2,e3,e4,e5⟩
  ·obtain⟨q1,q2,q3⟩:=g2 t ht;exact⟨q1,by omega,q3⟩
theorem vh {f v:Int} (h1: -1000≤f) (h2:f≤1000) (h3: -1000000≤v) (h4:v≤1000000): -1000000000≤f*v∧f*v≤1000000000:=by
 have a1:(f.natAbs:Int)≤1000:=by omega
 have a2:(v.natAbs:Int)≤1000000:=by omega
 have a3:f.natAbs*v.natAbs≤1000*1000000:=Nat.mul_le_mul (by omega) (by omega);have a4:(f*v).natAbs=f.natAbs*v.natAbs:=Int.natAbs_mul f v;omega
theorem kY {r:Rg} (h:l7 r=true): -1000000≤r.lo∧r.lo≤1000000∧ -1000000≤r.hi∧r.hi≤1000000:=by
 simp only[l7,aK,Bool.and_eq_true,decide_eq_true_eq]at h;omega
theorem ig {b:List Rg} (h:dF b=true) (k:Nat):l7 (b.getD k zr)=true:=by
 simp only[dF,Bool.and_eq_true]at h;by_cases hk:k<b.length
 ·exact List.all_eq_true.mp h.1 _ (Pur.aQ hk)
 ·rw[List.getD,List.getElem?_eq_none (by omega)];rfl
theorem vi {b:List Rg} {t:Tm} (hb:dF b=true) (h1: -1000≤t.fac) (h2:t.fac≤1000): -1000000000≤yo b t∧yo b t≤1000000000:=by
 have:=kY (ig hb t.cell.toNat);unfold yo;split
 ·exact vh h1 h2 (by omega) (by omega)
 ·exact vh h1 h2 (by omega) (by omega)
theorem nu {b:List Rg} (hb:dF b=true) (c:Int):∀(l:List Tm),(∀t∈l,-1000≤t.fac∧t.fac≤1000)→ -(1000000000*(l.length:Int))≤fD b c l∧fD b c l≤1000000000*(l.length:Int)
 |[],_=>by simp[fD]
 |t::r,h=>by
  obtain⟨g1,g2⟩:=nu hb c r fun x hx=>h x (by simp[hx])
  obtain⟨q1,q2⟩:=h t (by simp);have:=vi (t:=t) hb q1 q2;simp only[fD,List.length_cons,Int.natCast_add,Int.natCast_one];split<;>omega
theorem mf (b:List Rg) (c:Int):∀(l m:List Tm),fD b c (l++m)=fD b c l+fD b c m
 |[],m=>by simp[fD]
 |t::r,m=>by rw[List.cons_append,fD,fD,mf b c r m];omega
theorem pY (c:Int):∀(l:List Tm),(jV (fun t=>decide (t.cell=c)) l<0∧∀t∈l,t.cell≠c)∨(∃k:Nat,jV (fun t=>decide (t.cell=c)) l=k∧k<l.length∧kS c l=(l.getD k zm).fac)
 |[]=>.inl ⟨by simp[jV],fun t ht=>by cases ht⟩
 |t::r=>by
  by_cases h:t.cell=c
  ·exact .inr ⟨0,by simp[jV,List.findIdx?_cons,h],by simp,by simp[kS,h]⟩
  ·have e:jV (fun t=>decide (t.cell=c)) (t::r)=match r.findIdx? (fun t=>decide (t.cell=c)) with|some i=>(i:Int)+1|none=> -1:=by
    rw[jV,List.findIdx?_cons];simp only[h,decide_false,Bool.false_eq_true,if_false];cases r.findIdx? (fun t=>decide (t.cell=c))<;>simp
   rcases pY c r with⟨h1,h2⟩|⟨k,h1,h2,h3⟩
   ·refine .inl ⟨?_,fun x hx=>?_⟩
    ·rw[e];unfold jV at h1;cases hq:r.findIdx? (fun t=>decide (t.cell=c)) with
     |none=>simp
     |some i=>rw[hq]at h1;simp only at h1;omega
    ·rcases List.mem_cons.mp hx with rfl|hx
     ·exact h
     ·exact h2 x hx
   ·refine .inr ⟨k+1,?_,by simp;omega,?_⟩
    ·rw[e];unfold jV at h1;cases hq:r.findIdx? (fun t=>decide (t.cell=c)) with
     |none=>rw[hq]at h1;simp only at h1;omega
     |some i=>rw[hq]at h1;simp only at h1 ⊢;omega
    ·rw[kS,if_neg h,h3];simp
theorem ov (c:Int):∀(l:List Tm),(∀t∈l,t.cell≠c)→kS c l=0
 |[],_=>rfl
 |t::r,h=>by rw[kS,if_neg (h t (by simp)),ov c r fun x hx=>h x (by simp[hx])]
theorem sE {b:List Rg} {r:Rw} (h:fV b [r]=true):dF b=true∧b.length≤128∧r.terms.length≤128∧ -1000000000≤r.bound∧r.bound≤1000000000∧∀t∈r.terms,0≤t.cell∧t.cell<b.length∧t.fac≠0∧ -1000≤t.fac∧t.fac≤1000:=by
 simp only[fV,List.all_cons,List.all_nil,Bool.and_true,Bool.and_eq_true,ic,aK,decide_eq_true_eq]at h;obtain⟨h1,h2,h3,h4⟩:=h;obtain⟨g1,g2⟩:=kX _ _ _ (by omega) h2;have hb:=h1;simp only[dF,Bool.and_eq_true,decide_eq_true_eq]at hb;refine⟨h1,hb.2,by omega,h3,h4,fun t ht=>?_⟩;obtain⟨q1,q2,q3⟩:=g2 t ht;exact⟨q1,q3⟩
theorem zJ (a f:Int) (hf:0<f):a / f=if Int.tmod a f<0 then Int.tdiv a f-1 else Int.tdiv a f:=by
 rw[Int.tdiv_eq_ediv,Int.tmod_eq_emod];have h1:=Int.emod_nonneg a (show f≠0 by omega);have h2:=Int.emod_lt_of_pos a hf;have h3:f.sign=1:=Int.sign_eq_one_of_pos hf;have h4:(f.natAbs:Int)=f:=by omega
 by_cases h:0≤a∨f ∣ a
 ·simp[h];omega
 ·simp[h,h3,h4];omega
end Rf
namespace Pur
open Go.RowKit
attribute [local go_sem] bG eW bN bu dt fP List.map a8 aH get put tmpsOf dD iL gy im conds ev cond_true cond_false Nat.beq Nat.ble Nat.add quiet dE cB cC ox List.append_eq List.nil_append List.cons_append dC cf cg cj ck cp cu eV eQ di iN dB calm quiet.isCallK cF List.getElem?_cons_zero List.getElem?_cons_succ bk bW cellsOf List.all bA List.length_cons List.length_nil eI bc List.drop List.take List.getD Option.getD_some qc qd pz qe qf qg ef fZ eg eh setAt List.set Nat.reduceAdd Nat.reduceMul cx bq refsOf bD bJ scalar cw dZ bT cv aM after freeze gV gF aS dm dK dd ew cR cS bZ cT cU cX cY cZ c6 c7 c8 da db dc b6 b7 b8 dj iO bytesOf bE cM aR bB dP bw bO cG still bM dY du dR bL ey List.isEmpty b9 ca cd Int.reduceToNat Nat.mul_one Nat.reduceSub nY cN bY dL cE look dM strip guarded fC eA eH cL dQ dk gP cV cW Bool.or_false Bool.or_true Bool.and_true Bool.and_false Nat.blt fQ fq fU dG idxOf gG gH iM eT aM my
open Rf
theorem jf (a b:Int):(if a<b then b else a)=max a b:=by split<;>omega
theorem fL (a b:Int):(if b<a then b else a)=min a b:=by split<;>omega
theorem zK (x y:Rg):ai ctx 79 [.agg [.int .i64 x.lo,.int .i64 x.hi],.agg [.int .i64 y.lo,.int .i64 y.hi]] (.agg [.int .i64 (max x.lo y.lo),.int .i64 (min x.hi y.hi)]):=by
 refine af (C:=ctx) (Fn.of GY rfl) rfl ?_;unfold Hv;repeat' (first
  |((with_reducible first|show aF _|show aO _);simp[vb]<;>omega)
  |exact(rfl:some _=_)
  |(
   fail_if_success refine aV ?_
   refine a7 ?_;repeat1' dsimp only[Hv,go_sem]
   first
   |refine aW ?_ ?_ rfl ?_
   |apply aX
   |apply aY
   |(refine aZ (fun hc=>?_) fun hc=>?_<;>first|(cases hc;done)|(exfalso;simp at hc<;>omega)|(try simp only[bn]at hc;try contradiction))
   |skip))
 rw[jf,fL]
theorem w5 (a f:Int) (hf:0<f) (h1: -1000000000000≤a) (h2:a≤1000000000000) (h3:f≤1000000000000):ai ctx 150 [.int .i64 a,.int .i64 f] (.int .i64 (a / f)):=by
 have hd:(a.tmod f<0∧a / f=a.tdiv f-1)∨(0≤a.tmod f∧a / f=a.tdiv f):=by
  rw[zJ a f hf];split<;>omega
 have g2:=Int.tmod_lt_of_pos a hf;have g3:=Int.lt_tmod_of_pos a hf;have g4:(a.tdiv f).natAbs≤a.natAbs:=Int.natAbs_tdiv_le_natAbs a f;have g5:a<0→a.tmod f≤0:=fun h=>by
  have:=Int.tmod_nonneg f (show 0≤ -a by omega);rw[Int.neg_tmod]at this;omega
 have g6:0≤a→0≤a.tmod f:=fun h=>Int.tmod_nonneg f h
 have hw:IntKind.i64.wrap (a.tdiv f)=a.tdiv f:=iB (by unfold lD;omega) (by unfold hJ;omega);generalize a / f=q at *;refine af (C:=ctx) (Fn.of Fi rfl) rfl ?_;unfold Ei;repeat' (first
  |((with_reducible show aF _);first|exact True.intro|(simp[vb]<;>omega))
  |((with_reducible show aO _);first|exact True.intro|((try dsimp only[go_sem]);(simp[vb]<;>omega)))
  |exact(rfl:some _=_)
  |(
   fail_if_success refine aV ?_
   refine bI [(8,{mode:=1}),(11,{mode:=1})] ?_;repeat1' dsimp only[Ei,go_sem]
   first
   |refine aW ?_ ?_ rfl ?_
   |apply aX
   |apply aY
   |(refine aZ (fun hc=>?_) fun hc=>?_<;>first|(cases hc;done)|(try simp only[bn]at hc;try contradiction))
   |skip))
 all_goals
  refine congrArg (fun x=>some (PV.int .i64 x)) ?_;simp only[show decide (f<0)=false from by simp;omega,decide_eq_false_iff_not]at hc;omega
theorem kF (b:List Rg) (c:Int) (h1:0≤c) (h2:c<b.length):((b.flatMap gZ).drop (c.toNat*2)).take 2=[.int .i64 (b.getD c.toNat zr).lo,.int .i64 (b.getD c.toNat zr).hi] :=
 cK jb b c.toNat zr (by omega)
set_option maxHeartbeats 4000000 in
theorem CX (b:List Rg) (r:Rw) (c:Int) (hv:fV b [r]=true):ai ctx 149 [.agg [av r.terms,.int .i64 r.bound],ah b,.int .i64 c,.int .i64 1] (.int .i64 (fD b c r.terms)):=by
 obtain⟨v1,v2,v3,v4,v5,v6⟩:=sE hv;obtain⟨ts,bd⟩:=r;simp only at v3 v4 v5 v6 ⊢;clear hv;have f1:=iK ts;have f2:=cz b;refine af (C:=ctx) (Fn.of Fh rfl) rfl ?_;unfold wS;repeat' (first
  |((with_reducible first|show aF _|show aO _);simp[vb]<;>omega)
  |exact(rfl:some _=_)
  |(
   fail_if_success refine aV ?_
   refine a7 ?_;repeat1' dsimp only[wS,av,ah,go_sem]
   first
   |refine aW ?_ ?_ rfl ?_
   |apply aX
   |apply aY
   |(refine aZ (fun hc=>?_) fun hc=>?_<;>first|(cases hc;done)|(exfalso;simp at hc<;>omega)|(try simp only[bn]at hc;try contradiction))
   |skip))
 refine bK ts.length (fun _=>True) (fun k=>[(1,.pv (ah b)),(2,.pv (.int .i64 c)),(3,.pv (.int .i64 1)),(9,.pv (.int .i64 (fD b c (ts.take k)))),(14,.pv (av ts)),(15,.pv (.int .i64 ts.length)),(16,.pv (.int .i64 k))]) (fun _=>[]) trivial (by (repeat' (first|exact trivial|refine And.intro (by first|rfl|(simp[get,Nat.beq,fD];done)|(simp[get,Nat.beq,fD];omega)|(dsimp only[get];congr 1<;>first|rfl|omega|(simp;done)|(simp;omega))) ?_))) ⟨_,rfl⟩ (fun _=>⟨Nat.zero_le _,rfl,rfl⟩) fun k hk _=>?_
 by_cases hlt:k<ts.length
 ·have e:=cK l8 ts k zm hlt;have h1:=mf b c (ts.take k) [ts.getD k zm];rw[←aU ts k zm hlt,fD,fD]at h1;have h2:=nu v1 c (ts.take k) fun t ht=>by have:=v6 t (List.mem_of_mem_take ht);omega
  rw[List.length_take]at h2;obtain⟨q1,q2,q3,q4,q5⟩:=v6 _ (aQ (d:=zm) hlt);have h3:=vi (t:=ts.getD k zm) v1 q4 q5;unfold yo at h1 h3;rw[h1];clear h1 v6;generalize ts.getD k zm=x at *;have e2:=kF b x.cell q1 q2;generalize b.getD x.cell.toNat zr=y at *;generalize fD b c (ts.take k)=sm at *;by_cases hc:x.cell=c
  ·repeat' (first
    |((with_reducible show aF _);first|exact True.intro|(simp only[vb,lb,e,e2,f1,f2,hlt,q1,q2,ke,hc];and_intros<;>first|omega|(simp<;>omega)))
    |((with_reducible show aO _);first|exact True.intro|((try dsimp only[go_sem]);(simp[vb,e,e2,f1,f2,hlt,q1,q2,ke,hc]<;>omega)))
    |exact(rfl:some _=_)
    |(
     fail_if_success refine aV ?_
     refine bI [(19,{val:=some (.pv (.agg [.int .i64 x.cell,.int .i64 x.fac]))}),(24,{val:=some (.pv (.agg [.int .i64 y.lo,.int .i64 y.hi]))}),(36,{val:=some (.pv (.bool true))})] ?_;repeat1' dsimp only[wS,av,ah,go_sem]
     first
     |refine aW ?_ ?_ rfl ?_
     |apply aX
     |apply aY
     |(refine aZ (fun hc=>?_) fun hc=>?_<;>first|(cases hc;done)|(exfalso;(simp at hc<;>omega))|(try simp only[bn]at hc;try contradiction))
     |skip))
   refine⟨hlt,trivial,by simp[hc];(repeat' (first|exact trivial|refine And.intro (by first|rfl|(simp[get,Nat.beq];done)|(simp[get,Nat.beq];omega)|(dsimp only[get];congr 1<;>first|rfl|omega|(simp;done)|(simp;omega))) ?_)),_,rfl⟩
  ·by_cases hf:0<x.fac
   ·simp only[hf,if_true]at h3;repeat' (first
     |((with_reducible show aF _);first|exact True.intro|(simp only[vb,lb,e,e2,f1,f2,hlt,q1,q2,ke,hc,hf];and_intros<;>first|omega|(simp<;>omega)))
     |((with_reducible show aO _);first|exact True.intro|((try dsimp only[go_sem]);(simp[vb,e,e2,f1,f2,hlt,q1,q2,ke,hc,hf]<;>omega)))
     |exact(rfl:some _=_)
     |(
      fail_if_success refine aV ?_
      refine bI [(19,{val:=some (.pv (.agg [.int .i64 x.cell,.int .i64 x.fac]))}),(24,{val:=some (.pv (.agg [.int .i64 y.lo,.int .i64 y.hi]))}),(36,{val:=some (.pv (.bool false))}),(42,{val:=some (.pv (.bool true))})] ?_;repeat1' dsimp only[wS,av,ah,go_sem]
      first
      |refine aW ?_ ?_ rfl ?_
      |apply aX
      |apply aY
      |(refine aZ (fun hc=>?_) fun hc=>?_<;>first|(cases hc;done)|(exfalso;(simp at hc<;>omega))|(try simp only[bn]at hc;try contradiction))
      |skip))
    refine⟨hlt,trivial,by simp[hc,hf];(repeat' (first|exact trivial|refine And.intro (by first|rfl|(simp[get,Nat.beq];done)|(simp[get,Nat.beq];omega)|(dsimp only[get];congr 1<;>first|rfl|omega|(simp;done)|(simp;omega))) ?_)),_,rfl⟩
   ·simp only[hf,if_false]at h3;repeat' (first
     |((with_reducible show aF _);first|exact True.intro|(simp only[vb,lb,e,e2,f1,f2,hlt,q1,q2,ke,hc,hf];and_intros<;>first|omega|(simp<;>omega)))
     |((with_reducible show aO _);first|exact True.intro|((try dsimp only[go_sem]);(simp[vb,e,e2,f1,f2,hlt,q1,q2,ke,hc,hf]<;>omega)))
     |exact(rfl:some _=_)
     |(
      fail_if_success refine aV ?_
      refine bI [(19,{val:=some (.pv (.agg [.int .i64 x.cell,.int .i64 x.fac]))}),(24,{val:=some (.pv (.agg [.int .i64 y.lo,.int .i64 y.hi]))}),(36,{val:=some (.pv (.bool false))}),(42,{val:=some (.pv (.bool false))})] ?_;repeat1' dsimp only[wS,av,ah,go_sem]
      first
      |refine aW ?_ ?_ rfl ?_
      |apply aX
      |apply aY
      |(refine aZ (fun hc=>?_) fun hc=>?_<;>first|(cases hc;done)|(exfalso;(simp at hc<;>omega))|(try simp only[bn]at hc;try contradiction))
      |skip))
    refine⟨hlt,trivial,by simp[hc,hf];(repeat' (first|exact trivial|refine And.intro (by first|rfl|(simp[get,Nat.beq];done)|(simp[get,Nat.beq];omega)|(dsimp only[get];congr 1<;>first|rfl|omega|(simp;done)|(simp;omega))) ?_)),_,rfl⟩
 ·obtain rfl:k=ts.length:=by omega
  rw[List.take_length];repeat' (first
   |((with_reducible first|show aF _|show aO _);simp[vb,hlt]<;>omega)
   |exact(rfl:some _=_)
   |(
    fail_if_success refine aV ?_
    refine a7 ?_;repeat1' dsimp only[wS,av,ah,go_sem]
    first
    |refine aW ?_ ?_ rfl ?_
    |apply aX
    |apply aY
    |(refine aZ (fun hc=>?_) fun hc=>?_<;>first|(cases hc;done)|(exfalso;simp[hlt]at hc<;>omega)|(try simp only[bn]at hc;try contradiction))
    |skip))
end Pur
end
section
namespace Rf
def jg (s:List UInt8):Tree×Int :=
 if s.length>65536 then (zt,8) else match kC ((mz 10 s).length+1) 1 (mz 10 s) with
  |some (t,_)=>if Pur.jB t=(s,0) then (t,0) else (zt,3)
  |none=>(zt,3)
theorem w6 {tf:List Ln→Option (Tree×List Ln)} (h:∀ls t r,tf ls=some (t,r)→wt t+r.length≤ls.length):∀(n:Nat) (ls:List Ln) (ts:List Tree) (r:List Ln),jc tf n ls=some (ts,r)→iH ts+r.length≤ls.length
 |0,ls,ts,r,e=>by injection e with e;injection e with e1 e;subst e e1;simp[iH]
 |n+1,ls,ts,r,e=>by
  rw[jc]at e;split at e
  ·rename_i t r1 h1;split at e
   ·rename_i ts' r2 h2;injection e with e
    injection e with e1 e
    subst e e1;have:=w6 h n r1 ts' r2 h2;have:=h _ _ _ h1;rw[iH];omega
   ·cases e
  ·cases e
theorem sF:∀(f:Nat) (lev:Int) (S:List bj) (ls:List Ln) (t:Tree) (r:List Ln),gN f lev S ls=some (t,r)→wt t+r.length≤S.length+ls.length
 |0,_,_,_,_,_,e=>by cases e
 |f+1,lev,S,ls,t,r,e=>by
  have ih:∀(S:List bj) (ls:List Ln) (t:Tree) (r:List Ln),gN f lev S ls=some (t,r)→wt t+r.length≤S.length+ls.length:=fun S ls t r=>sF f lev S ls t r
  have ihk:∀(ls:List Ln) (t:Tree) (r:List Ln),(if lev+1≤4096 then gN f (lev+1) [] ls else none)=some (t,r)→wt t+r.length≤ls.length:=fun ls t r h=>by
   split at h
   ·simpa using sF f (lev+1) [] ls t r h
   ·cases h
  have one:∀(n:Nat) (x:Ln) (l:List Ln) (k c a:Int),(match jc (fun l=>if lev+1≤4096 then gN f (lev+1) [] l else none) n l with|some (ks,r')=>some (Tree.node k S c a ks,r')|none=>none)=some (t,r)→wt t+r.length≤S.length+(x::l).length:=fun n x l k c a h=>by
   split at h
   ·rename_i ks r' hk;injection h with h
    injection h with h1 h
    subst h h1;have:=w6 ihk _ _ _ _ hk;rw[cJ,List.length_cons];omega
   ·cases h
  cases ls with
  |nil=>cases e
  |cons x l =>
   rw[gN]at e;split at e
   ·cases e
   ·rename_i w ns hl;split at e
    ·have:=ih _ _ _ _ e;simp at this ⊢;omega
    ·split at e
     ·have:=ih _ _ _ _ e;simp at this ⊢;omega
     ·split at e
      ·injection e with e
       injection e with e1 e
       subst e e1;rw[cJ];simp[iH];omega
      ·split at e
       ·exact one _ _ _ _ _ _ e
       ·split at e
        ·exact one _ _ _ _ _ _ e
        ·cases e
end Rf
namespace Pur
open Go.RowKit
attribute [local go_sem] bG eW bN bu dt fP List.map a8 aH get put tmpsOf dD iL gy im conds ev cond_true cond_false Nat.beq Nat.ble Nat.add quiet dE cB cC ox List.append_eq List.nil_append List.cons_append dC cf cg cj ck cp cu eV eQ di iN dB calm quiet.isCallK cF List.getElem?_cons_zero List.getElem?_cons_succ bk bW cellsOf List.all bA List.length_cons List.length_nil eI bc List.drop List.take List.getD Option.getD_some qc qd pz qe qf qg ef fZ eg eh setAt List.set Nat.reduceAdd Nat.reduceMul cx bq refsOf bD bJ scalar cw dZ bT cv aM after freeze gV gF aS dm dK dd ew cR cS bZ cT cU cX cY cZ c6 c7 c8 da db dc b6 b7 b8 dj iO bytesOf bE cM aR bB dP bw bO cG still bM dY du dR bL ey List.isEmpty b9 ca cd Int.reduceToNat Nat.mul_one Nat.reduceSub nY cN bY dL cE look dM strip guarded fC eA eH cL dQ dk gP cV cW Bool.or_false Bool.or_true Bool.and_true Bool.and_false Nat.blt fQ fq fU dG idxOf gG gH iM eT aM my
open Rf
noncomputable def Gz (path:List Nat):Code:=vd (yy Tryz.prog 28) path
def Gd:az:=(⟨_,by conv=>(lhs;reduce;try simp only[ei,Int.cast_ofNat_Int,Int.reduceNegSucc,UInt8.reduceOfNat])⟩:{x // comp Tryz.prog no 35 (Gz [0])=some x}).1
def Ge:az:=(⟨_,by conv=>(lhs;reduce;try simp only[ei,Int.cast_ofNat_Int,Int.reduceNegSucc,UInt8.reduceOfNat])⟩:{x // comp Tryz.prog no 35 (Gz [1,0])=some x}).1
def Gf:az:=(⟨_,by conv=>(lhs;reduce;try simp only[ei,Int.cast_ofNat_Int,Int.reduceNegSucc,UInt8.reduceOfNat])⟩:{x // comp Tryz.prog no 35 (Gz [1,1,1])=some x}).1
theorem Ew:comp Tryz.prog no 35 (Gz [0])=some Gd:=by kernel_rfl
theorem Ex:comp Tryz.prog no 35 (Gz [1,0])=some Ge:=by kernel_rfl
theorem Ey:comp Tryz.prog no 35 (Gz [1,1,1])=some Gf:=by kernel_rfl
theorem ai.DQ {C:Ctx} {g:FuncId} {ps:List PV} {r:PV} (h:ai C g ps r) (D:List Deferred):ai {C with D:=D} g ps r:=h
theorem gq.DQ {C:Ctx} {g:FuncId} {al:List AV} {μ:AM} {c:List PanicEntry} {Q:AM→Prop} (h:gq C g al μ c Q) (D:List Deferred):gq {C with D:=D} g al μ c Q :=
 ⟨h.1,fun w0 S γ w vs hW hp=>(h.2 w0 S γ w vs ⟨hW.mem,hW.below,hW.live,hW.env⟩ hp).mono fun e w' ⟨S',γ',μ',h1,h2,h3,h4⟩=>⟨S',γ',μ',h1,h2,⟨h3.mem,h3.below,h3.live,h3.env⟩,h4⟩⟩
def gO:AF:=[(2,.ptr 0 0 0),(3,.ptr 1 0 0)]
def Hc (s:List UInt8):Exit→AF→AM→Prop:=fun e f μ=>match e with
 | .ret=>Sub gO f∧(jg s).2=0∧∃junk,μ=[ae (jg s).1,gY 0]++junk
 | .panic c=>c=dy∧jg s=(zt,3)∧Sub gO f∧∃a b c d e n junk,μ=[Gy a b c d e,gY n]++junk
 |_=>False
theorem Ez (D:List Deferred) (s:List UInt8) (hs:s.length≤65536):Aw {ctx with D:=D} no 35 2 Gf (Hc s) [(0,.pv (.str s)),(2,.ptr 0 0 0),(3,.ptr 1 0 0)] [bf,gY 0]:=by
 have hsp:=ai.DQ (wF 10 s (by omega)) D;obtain⟨hb1,hb2⟩:=lu 10 s;have hct:=D8 ((mz 10 s).length+1) 1 (mz 10 s) [] (by omega) (by omega) (by omega) (by omega) fun x hx=>by have:=hb2 x hx;omega
 have hwt:=fun t r h=>sF ((mz 10 s).length+1) 1 [] (mz 10 s) t r h
 have hP:jg s=match kC ((mz 10 s).length+1) 1 (mz 10 s) with
  |some (t,_)=>if jB t=(s,0) then (t,0) else (zt,3)
  |none=>(zt,3):=by unfold jg;rw[if_neg (by omega)]
 unfold Gf;refine iu [(55,fun _=>some (gX (mz 10 s)))] ?_;dsimp only[bf,gY,gX,go_sem];try dsimp only[bf,gY,gX,go_sem]
 refine⟨(by simp[vb]<;>omega),?_,?_⟩
 ·exact⟨hsp,trivial⟩
 generalize hls:mz 10 s=ls at *;cases ht:kC (ls.length+1) 1 ls with
 |none =>
  rw[ht]at hct hP;simp only at hP;have hp:=(gq.frame hct [2] [bf,gY 0,aC ls] (by simp) (by simp) ⟨rfl,trivial⟩ rfl (by simp[dJ,Nat.blt]) (by rintro _ ⟨r,rfl⟩;simp)).DQ D;refine bU ?_;refine gW 3 true [] ?_;simp only[jj,List.take_succ_cons,List.take_zero,List.getElem?_cons_succ,List.getElem?_cons_zero,go_sem,jK];refine⟨by simp[aF],by simp[aF,aO],dy,_,hp,?_⟩;rintro μ1 ⟨_,⟨r,rfl⟩,rfl⟩
  exact⟨rfl,hP,by (repeat' (first|exact trivial|refine And.intro (by first|rfl|(simp[get,Nat.beq,gO];done)|(simp[get,Nat.beq,gO];omega)|(dsimp only[get];congr 1<;>first|rfl|omega|(simp;done)|(simp;omega))) ?_)),_,_,_,_,_,_,[aC r],rfl⟩
 |some p =>
  obtain⟨t,r⟩:=p;rw[ht]at hct hP;simp only at hP;have hw:wt t≤1000000000:=by
   have:gN (ls.length+1) 1 [] ls=some (t,r):=by
    rw[kC,if_pos (by omega)]at ht;exact ht
   have:=hwt t r this;simp at this;omega
  have hp:=(aL.frame hct [2] [bf,gY 0,aC ls] (by simp) (by simp) ⟨rfl,trivial⟩ rfl (by simp[dJ,Nat.blt]) (by simp)).DQ D;have hfo:=(ud t hw).DQ D;generalize hF:jB t=F at *;obtain⟨F,n⟩:=F;simp only at hfo;refine bI [(19,{val:=some (.pv (aE t)),mem:=some [bf,gY 0,aC r]})] ?_;dsimp only[bf,gY,aE,go_sem];try dsimp only[bf,gY,aE,go_sem]
  refine⟨(by simp[vb]<;>omega),?_,?_⟩
  ·exact⟨hp,trivial⟩
  refine iu [(26,fun _=>some (.tup [.str F,.int .i64 n]))] ?_;dsimp only[bf,gY,aE,go_sem];try dsimp only[bf,gY,aE,go_sem]
  refine⟨(by simp[vb]<;>omega),?_,?_⟩
  ·exact⟨hfo,trivial⟩
  refine a7 ?_;dsimp only[go_sem];try dsimp only[go_sem]
  refine⟨(by simp[vb]<;>omega),(by simp[vb]<;>omega),?_⟩;refine a7 ?_;dsimp only[go_sem];refine⟨fun hc=>?_,fun hc=>?_⟩
  ·have hne:¬((F,n)=(s,(0:Int))):=by
    rintro h;injection h with h1 h2
    subst h1 h2;simp at hc
   rw[if_neg hne]at hP;refine gW 2 true [] ?_;simp only[jj,List.take_succ_cons,List.take_zero,List.getElem?_cons_succ,List.getElem?_cons_zero,go_sem,jK];exact⟨trivial,trivial,rfl,hP,by (repeat' (first|exact trivial|refine And.intro (by first|rfl|(simp[get,Nat.beq,gO];done)|(simp[get,Nat.beq,gO];omega)|(dsimp only[get];congr 1<;>first|rfl|omega|(simp;done)|(simp;omega))) ?_)),_,_,_,_,_,_,[aC r],rfl⟩
  ·have hq:(F,n)=(s,(0:Int)):=by
    by_cases hn:n=0
    ·subst hn;simp at hc;rw[hc]
    ·simp[hn]at hc
   rw[if_pos hq]at hP;refine a7 ?_;dsimp only[go_sem];refine a7 ?_;dsimp only[go_sem];try dsimp only[go_sem]
   refine⟨(by simp[vb]<;>omega),(by simp[vb]<;>omega),?_⟩;refine a7 ?_;dsimp only[go_sem];refine⟨by (repeat' (first|exact trivial|refine And.intro (by first|rfl|(simp[get,Nat.beq,gO];done)|(simp[get,Nat.beq,gO];omega)|(dsimp only[get];congr 1<;>first|rfl|omega|(simp;done)|(simp;omega))) ?_)),by rw[hP],[aC r],?_⟩;rw[hP];rfl
theorem EA (s:List UInt8):Aw ctx no 35 0 Gd (fun e f μ=>e= .normal∧Sub ((0,.pv (.str s))::gO) f∧μ=[bf,gY 0]) [(0,.pv (.str s))] []:=by
 unfold Gd;refine a7 ?_;dsimp only[go_sem];try dsimp only[go_sem]
 refine⟨(by simp[vb]<;>omega),(by simp[vb]<;>omega),?_⟩;exact⟨rfl,by (repeat' (first|exact trivial|refine And.intro (by first|rfl|(simp[get,Nat.beq,gO];done)|(simp[get,Nat.beq,gO];omega)|(dsimp only[get];congr 1<;>first|rfl|omega|(simp;done)|(simp;omega))) ?_)),rfl⟩
theorem Gg (s:List UInt8) (hs:s.length≤4000000000):Aw ctx no 35 2 Ge (fun e f μ=>(e= .normal∧s.length≤65536∧Sub ((0,.pv (.str s))::gO) f∧μ=[bf,gY 0])∨(e= .ret∧65536<s.length∧Sub gO f∧μ=[bf,gY 8])) ((0,.pv (.str s))::gO) [bf,gY 0]:=by
 unfold Ge gO;refine a7 ?_;dsimp only[bf,gY,go_sem];try dsimp only[bf,gY,go_sem]
 refine⟨(by simp[vb]<;>omega),(by simp[vb]<;>omega),?_⟩;refine a7 ?_;dsimp only[bf,gY,go_sem];refine⟨fun hc=>?_,fun hc=>?_⟩
 ·simp at hc;refine a7 ?_;dsimp only[bf,gY,go_sem];try dsimp only[bf,gY,go_sem]
  refine⟨(by simp[vb]<;>omega),(by simp[vb]<;>omega),?_⟩;refine a7 ?_;dsimp only[bf,gY,go_sem];exact .inr ⟨rfl,by omega,by (repeat' (first|exact trivial|refine And.intro (by first|rfl|(simp[get,Nat.beq,gO];done)|(simp[get,Nat.beq,gO];omega)|(dsimp only[get];congr 1<;>first|rfl|omega|(simp;done)|(simp;omega))) ?_)),rfl⟩
 ·simp at hc;refine a7 ?_;dsimp only[bf,gY,go_sem];exact .inl ⟨rfl,by omega,by (repeat' (first|exact trivial|refine And.intro (by first|rfl|(simp[get,Nat.beq,gO];done)|(simp[get,Nat.beq,gO];omega)|(dsimp only[get];congr 1<;>first|rfl|omega|(simp;done)|(simp;omega))) ?_)),rfl⟩
theorem hZ.lower {m:Nat} {w w':World} {S S':Nat→Prop} {γ γ':Gh} (h:hZ m w S γ w' S' γ'):hZ 0 w S γ w' S' γ':=⟨h.stay,fun b e hb=>absurd hb (by omega),h.more,h.cbs,h.size,h.frame⟩
theorem hZ.low {w w':World} {S S':Nat→Prop} {γ γ' γ'':Gh} (h:hZ 0 w S γ w' S' γ') (hs:∀b e,γ'' b=some e→γ' b=some e):hZ 0 w S γ w' S' γ'':=⟨h.stay,fun b e hb=>absurd hb (by omega),h.more,fun b e hb=>h.cbs b e (hs b e hb),h.size,h.frame⟩
theorem ue (tl:AM):MW (bf::tl) (ae zt::tl) :=
 PW.cons ⟨PW.cons (CW.refl _) (PW.cons CW.nil (PW.cons (CW.refl _) (PW.cons (CW.refl _) (PW.cons CW.nil PW.nil)))),rfl,rfl,rfl,rfl⟩ (MW.refl tl)
theorem pZ {w w':World} {S S':Nat→Prop} {γ':Gh} {a':Act} {μ:AM} {f:AF} (t:Tree) (n:Int) (hE:hZ 0 w S (fun _=>none) w' S' γ') (hW:Wd ctx w S' γ' μ w') (hF:FR [] 35 w' S' γ' f a') (hs:Sub gO f) (hm:∃junk,μ=[ae t,gY n]++junk) :
  ∃u,(results Tryz.f28 a'.tmps).run Tryz.prog w'= .ok u w'∧∃v,Ending.returned u= .returned v∧Below w.heap.size w w'∧Is w' (fun g=>S g∨(w.heap.size≤g∧g<w'.heap.size)) (.tup [aE t,.int .i64 n]) v:=by
 obtain⟨h2,h3,-⟩:=hs;obtain⟨junk,rfl⟩:=hm;have he:gF (.pv (.tup [aE t,.int .i64 n])) (aS f ([ae t,gY n]++junk) [.cell 2 5 true,.cell 3 1 false]):=by
  simp only[gF,aS,go_sem,h2,h3,ae,gY,List.cons_append,List.nil_append];exact⟨by simp[aF],rfl⟩
 unfold gF at he;split at he
 ·rename_i vc v e1;obtain⟨e2,rfl⟩:=he;obtain⟨u,hu,hv⟩:=ku (fn:=Tryz.f28) hW (hF:FR ctx.D 35 w' S' γ' f a') (by kernel_rfl) e1 e2;refine⟨u,hu,u,rfl,hW.below,(uG hW depth (p:=.tup [aE t,.int .i64 n]) rfl hv).stay ⟨fun g hg=>?_,fun _ _=>rfl⟩⟩;rcases hg with hg|⟨b,e,he,rfl⟩
  ·rcases hE.more g hg with h|⟨b,e,h,-⟩|h
   ·exact .inl h
   ·cases h
   ·exact .inr ⟨h,hW.live g hg⟩
  ·rcases hE.cbs b e he with⟨b0,e0,h,-⟩|h
   ·cases h
   ·exact .inr ⟨h,hW.jH he⟩
 ·exact he.elim
set_option maxHeartbeats 1000000 in
theorem w7 (s:List UInt8) (hs:s.length≤4000000000):ai ctx 28 [.str s] (.tup [aE (jg s).1,.int .i64 (jg s).2]):=by
 refine⟨by kernel_rfl,fun w S us hE hS hp=>?_⟩;have hW:Wd ctx w S (fun _=>none) [] w:=⟨⟨fun b k hk=>by simp at hk,fun b k hk=>by simp at hk,fun _ _=>rfl,fun b b' e e' h=>by cases h⟩,Below.refl _ _,hS,hE⟩
 have hpv:PW (VR w S (fun _=>none)) ([PV.str s].map .pv) us:=PW.jS hp;have hus:us.length≤35:=by rw[←hp.len];simp
 refine calls_of_wp_defers Tryz.func28 rfl (wp_seq ?_);refine wp_mono (EA s _ Ew w S (fun _=>none) w _ hW (lg (fn:=Tryz.f28) hpv hus)) fun e1 a1 w1 hh=>?_
 obtain⟨S1,γ1,f1,μ1,x1,x2,x3,rfl,hs1,rfl⟩:=hh;refine wp_seq ?_;refine wp_mono (bH _ hs1 (Gg s hs) _ Ex w S1 γ1 w1 a1 x2 x3) fun e2 a2 w2 hh=>?_
 obtain⟨S2,γ2,f2,μ2,y1,y2,y3,hy⟩:=hh;rcases hy with⟨rfl,hlen,hs2,rfl⟩|⟨rfl,hlen,hs2,rfl⟩
 ·show Code.wp Tryz.prog _ _ _ _;have hmf:∀(fn:Go.Fn) (first cap:Array Value) (w:World),(Instr.makeFunc fn first cap).run Tryz.prog w= .ok (.func fn first cap) w:=fun _ _ _ _=>rfl
  obtain⟨tm,df⟩:=a2;have hsz:tm.size=35:=y3.size;obtain rfl:df=[]:=y3.defers;iterate 9 (go_step<;>try go_simp)
  obtain⟨h0,h2,h3,-⟩:=hs2;have v0:=y3.val 0;have v2:=y3.val 2;have v3:=y3.val 3;rw[h0]at v0;rw[h2]at v2;rw[h3]at v3;have hE12:=x1.trans y1.lower;have hc54:fN ctx.P 54=true:=by kernel_rfl
  generalize hD:([{target:=Target.fn (Go.Fn.func 54) #[tm[2],tm[3]],args:=#[]}]:List Deferred)=D;refine wp_mono (Ez D s hlen _ Ey w S2 γ2 w2 _ ⟨y2.mem,y2.below,y2.live,y2.env⟩ ⟨by simp[hsz],rfl,fun t=>?_⟩) fun e3 a3 w3 hh=>?_
  ·match t with
   |0=>simpa [Act.eval,get,Nat.beq]using v0
   |1=>exact .any _
   |2=>simpa [Act.eval,get,Nat.beq]using v2
   |3=>simpa [Act.eval,get,Nat.beq]using v3
   |t+4=>exact .any _
  obtain⟨S3,γ3,f3,μ3,z1,z2,z3,z4⟩:=hh;have w2':VR w2 S2 γ2 (.ptr 0 0 0) tm[2]:=by simpa [Act.eval,hsz]using v2
  have w3':VR w2 S2 γ2 (.ptr 1 0 0) tm[3]:=by simpa [Act.eval,hsz]using v3
  have hE3:Ext w2 S2 γ2 w3 S3 γ3:=⟨z1.stay,fun b e hb=>z1.gh b e (Nat.lt_of_not_le fun h=>by rw[y2.mem.none b (by simpa using h)]at hb;cases hb) hb,z1.more,z1.cbs,z1.size,z1.frame⟩
  cases e3 with
  |ret =>
   obtain⟨k1,k2,k3⟩:=z4;show Leaves _ _ _ _ a3.defers _ _;rw[show a3.defers=D from z3.defers,←hD];refine leaves_cons (f:=54) (args:=#[tm[2],tm[3]]) (by simp) (by simp[go_sem];exact iS hc54 _) ?_;refine(yx _ _ w3).mono ?_;rintro e u' w'' ⟨rfl,rfl,rfl⟩;have:=pZ (a':={a3 with defers:=[]}) (jg s).1 0 (hE12.trans z1.lower) ⟨z2.mem,z2.below,z2.live,z2.env⟩ ⟨z3.size,rfl,z3.val⟩ k1 k3;rw[k2];exact this
  |panic c =>
   obtain⟨rfl,k1,k2,a,b,c,d,e,n,junk,rfl⟩:=z4;show Leaves _ _ _ _ a3.defers _ _;rw[show a3.defers=D from z3.defers,←hD];refine leaves_cons (f:=54) (args:=#[tm[2],tm[3]]) (by simp[dy]) (by simp[go_sem];exact iS hc54 _) ?_;have hγ:∀b,b<2→cQ γ3 2 b=γ3 b:=fun b h=>by simp[cQ,h]
   have hW3:Wd ctx w S3 γ3 ([Gy a b c d e,gY n]++junk) w3:=⟨z2.mem,z2.below,z2.live,z2.env⟩
   refine(wT _ _ a b c d e n (hW3.drop (by rfl)) (lU hγ 3 rfl (w2'.ext hE3)) (lU hγ 3 rfl (w3'.ext hE3))).mono ?_;rintro e u' w4 ⟨rfl,rfl,S4,γ4,junk4,j1,j2⟩;have:=pZ (a':={a3 with defers:=[]}) (f:=gO) zt 3 (((hE12.trans z1.lower).low fun b e h=>?_).trans (j1.toM 0)) (j2.Ab (ue _)) ⟨z3.size,rfl,fun t=>?_⟩ (by (repeat' (first|exact trivial|refine And.intro (by first|rfl|(simp[get,Nat.beq,gO];done)|(simp[get,Nat.beq,gO];omega)|(dsimp only[get];congr 1<;>first|rfl|omega|(simp;done)|(simp;omega))) ?_))) ⟨_,rfl⟩
   ·rw[k1];exact this
   ·unfold cQ at h;split at h
    ·exact h
    ·cases h
   ·obtain⟨q2,q3,-⟩:=k2;have u2:=z3.val 2;have u3:=z3.val 3;rw[q2]at u2;rw[q3]at u3;match t with
    |0=>exact .any _
    |1=>exact .any _
    |2=>exact(lU hγ 3 rfl u2).ext j1
    |3=>exact(lU hγ 3 rfl u3).ext j1
    |t+4=>exact .any _
  |_=>exact z4.elim
 ·show Leaves _ _ _ _ _ _ _;rw[show a2.defers=[] from y3.defers];obtain⟨u,hu,hR⟩:=pZ (w:=w) (S:=S) (a':={a2 with defers:=[]}) zt 8 (x1.trans (hZ.lower y1)) (y2.Ab (ue _)) ⟨y3.size,rfl,y3.val⟩ hs2 ⟨[],rfl⟩;refine⟨u,hu,?_⟩;have e:jg s=(zt,8):=by unfold jg;rw[if_pos (by omega)]
  rw[e];exact hR
end Pur
end
section
namespace Pur
open Go.RowKit
attribute [local go_sem] bG eW bN bu dt fP List.map a8 aH get put tmpsOf dD iL gy im conds ev cond_true cond_false Nat.beq Nat.ble Nat.add quiet dE cB cC ox List.append_eq List.nil_append List.cons_append dC cf cg cj ck cp cu eV eQ di iN dB calm quiet.isCallK cF List.getElem?_cons_zero List.getElem?_cons_succ bk bW cellsOf List.all bA List.length_cons List.length_nil eI bc List.drop List.take List.getD Option.getD_some qc qd pz qe qf qg ef fZ eg eh setAt List.set Nat.reduceAdd Nat.reduceMul cx bq refsOf bD bJ scalar cw dZ bT cv aM after freeze gV gF aS dm dK dd ew cR cS bZ cT cU cX cY cZ c6 c7 c8 da db dc b6 b7 b8 dj iO bytesOf bE cM aR bB dP bw bO cG still bM dY du dR bL ey List.isEmpty b9 ca cd Int.reduceToNat Nat.mul_one Nat.reduceSub nY cN bY dL cE look dM strip guarded fC eA eH cL dQ dk gP cV cW Bool.or_false Bool.or_true Bool.and_true Bool.and_false Nat.blt fQ fq fU dG idxOf gG gH iM eT aM my
section
open Rf
theorem Bb (x:Tm) (c:Int):aL ctx 148 [.pv (.agg [.int .i64 x.cell,.int .i64 x.fac]),.ptr 0 0 0] [⟨[.pv (.int .i64 c)],0,1,3,false⟩] (.pv (.bool (decide (x.cell=c)))) [⟨[.pv (.int .i64 c)],0,1,3,false⟩]:=by
 refine bz (C:=ctx) (Fn.of Fg rfl) rfl (by simp) rfl rfl ?_;unfold c148;repeat' (first
  |((with_reducible first|show aF _|show aO _);simp[vb]<;>omega)
  |exact(rfl:some _=_)
  |(
   fail_if_success refine aV ?_
   refine a7 ?_;repeat1' dsimp only[c148,go_sem]
   first
   |refine aW ?_ ?_ rfl ?_
   |apply aX
   |apply aY
   |(refine aZ (fun hc=>?_) fun hc=>?_<;>first|(cases hc;done)|(exfalso;simp at hc<;>omega)|(try simp only[bn]at hc;try contradiction))
   |skip))
 exact⟨⟨trivial,rfl⟩,_,rfl⟩
theorem CY (ts:List Tm) (k:Nat) (hk:k<ts.length):(ts.flatMap ke)[k*2+1]?.getD default= .int .i64 (ts.getD k zm).fac:=by
 rw[eo l8 ts k zm 1 hk (by omega)];rfl
set_option maxHeartbeats 8000000 in
theorem w8 (b:List Rg) (r:Rw) (c:Int) (hv:fV b [r]=true) (hc0:0≤c) (hc1:c<b.length):ai ctx 129 [.agg [av r.terms,.int .i64 r.bound],ah b,.int .i64 c] (.agg [.int .i64 (gL r b c).lo,.int .i64 (gL r b c).hi]):=by
 obtain⟨v1,v2,v3,v4,v5,v6⟩:=sE hv;have hbd:=CX b r c hv;have hsm:=nu v1 c r.terms fun t ht=>by have:=v6 t ht;omega
 have e:=kF b c hc0 hc1;have hx:=kY (ig v1 c.toNat);have f1:=iK r.terms;have f2:=cz b;have hidx:=pY c r.terms;have hI:=fun (μ:AM) (hμ:aP μ μ.length=true) (h1:1<μ.length) (hj:μ[1]?=some ⟨[.pv (.int .i64 c)],0,1,3,false⟩)=>A5 148 μ hμ 1 h1 r.terms (by omega) (fun t=>decide (t.cell=c)) fun x _=>(Bb x c).IK (ps:=[.int .i64 c]) rfl hj
 unfold gL;obtain⟨ts,bd⟩:=r;simp only at *;generalize b.getD c.toNat zr=x at *;generalize fD b c ts=sm at *;clear hv;rcases hidx with⟨h1,h2⟩|⟨k,h1,h2,h3⟩
 ·rw[ov c ts h2];simp only[if_true];generalize jV (fun t=>decide (t.cell=c)) ts=q at *;have hI:=hI [⟨[.pv (av ts),.pv (.int .i64 bd)],0,2,62,false⟩,⟨[.pv (.int .i64 c)],0,1,3,false⟩,⟨[.pv (.int .i64 0),.pv (.int .i64 0)],0,2,57,false⟩,⟨[.pv (.int .i64 x.lo),.pv (.int .i64 x.hi)],0,2,57,false⟩] rfl (by simp) rfl;refine af (C:=ctx) (Fn.of zz rfl) rfl ?_;unfold wR;repeat' (first
   |((with_reducible show aF _);first|exact True.intro|(simp only[vb,lb,e,f1,f2,hc0,hc1,hI,h1];and_intros<;>first|omega|(simp<;>omega)))
   |((with_reducible show aO _);first|exact True.intro|((try dsimp only[go_sem]);first|(simp[vb,e,f1,f2,hc0,hc1,hI,h1]<;>omega)|(simp only[vb,and_true,true_implies];(repeat' (first|(with_reducible assumption)|(with_reducible apply And.intro)|intro _|((fail_if_success (with_reducible show(_:Int)≤_));assumption))))))
   |exact(rfl:some _=_)
   |(
    fail_if_success refine aV ?_
    refine bI [(14,{val:=some (.pv (.agg [.int .i64 x.lo,.int .i64 x.hi]))}),(18,{val:=some (.pv (.int .i64 q)),ro:=true})] ?_;repeat1' dsimp only[wR,av,ah,go_sem]
    first
    |refine aW ?_ ?_ rfl ?_
    |apply aX
    |apply aY
    |(refine aZ (fun hc=>?_) fun hc=>?_<;>first|(cases hc;done)|(exfalso;(simp at hc<;>omega))|(try simp only[bn]at hc;try contradiction))
    |skip))
 ·have g:=v6 _ (aQ (d:=zm) h2);have hg:=CY ts k h2;rw[h3];rw[h1]at hI;clear h1 h3;generalize ts.getD k zm=y at *;simp only[g.2.2.1,if_false];have hI:=hI [⟨[.pv (av ts),.pv (.int .i64 bd)],0,2,62,false⟩,⟨[.pv (.int .i64 c)],0,1,3,false⟩,⟨[.pv (.int .i64 0),.pv (.int .i64 0)],0,2,57,false⟩,⟨[.pv (.int .i64 x.lo),.pv (.int .i64 x.hi)],0,2,57,false⟩] rfl (by simp) rfl;by_cases hf:0<y.fac
  ·have hfl:=w5 (bd-sm) y.fac hf (by omega) (by omega) (by omega);simp only[hf,if_true];generalize (bd-sm) / y.fac=q at *;have hem:=sC ⟨x.lo,if q<x.hi then q else x.hi⟩;simp only[fw]at hem;refine af (C:=ctx) (Fn.of zz rfl) rfl ?_;unfold wR;unfold av at hI hbd;unfold ah at hbd;refine dH [(149,fun _=>some (.int .i64 sm)),(150,fun _=>some (.int .i64 q))] [(14,{val:=some (.pv (.agg [.int .i64 x.lo,.int .i64 x.hi]))}),(18,{val:=some (.pv (.int .i64 k)),ro:=true}),(27,{val:=some (.pv (.int .i64 y.fac))})] ?_;dsimp only[av,ah,go_sem]
   try dsimp only[av,ah,go_sem]
   refine⟨(by simp[vb,e,f1,f2,hc0,hc1,hI,hg,h2,hbd,hfl,hf]<;>omega),(by simp[vb,e,f1,f2,hc0,hc1,hI,hg,h2,hbd,hfl,hf]<;>omega),?_⟩;refine dH [(149,fun _=>some (.int .i64 sm)),(150,fun _=>some (.int .i64 q))] [(14,{val:=some (.pv (.agg [.int .i64 x.lo,.int .i64 x.hi]))}),(18,{val:=some (.pv (.int .i64 k)),ro:=true}),(27,{val:=some (.pv (.int .i64 y.fac))})] ?_;dsimp only[av,ah,go_sem];try dsimp only[av,ah,go_sem]
   refine⟨(by first|exact True.intro|(simp only[vb,lb];omega)|(simp only[vb,lb,e,f1,f2,hc0,hc1,hI,hg,h2,hbd,hfl,hf];and_intros<;>first|omega|(simp<;>omega))|(simp[vb,e,f1,f2,hc0,hc1,hI,hg,h2,hbd,hfl,hf]<;>omega)),(by first|exact True.intro|((try dsimp only[go_sem]);first|(simp[vb,e,f1,f2,hc0,hc1,hI,hg,h2,hbd,hfl,hf]<;>omega)|(simp only[vb,and_true,true_implies];(repeat' (first|(with_reducible assumption)|(with_reducible apply And.intro)|intro _|((fail_if_success (with_reducible show(_:Int)≤_));assumption)))<;>first|omega|rfl|(simp only[ab,e,f1,f2,hc0,hc1,hI,hg,h2,hbd,hfl,hf];done)|(simp[Nat.mul_one,e,f1,f2,hc0,hc1,hI,hg,h2,hbd,hfl,hf]<;>omega)|(simp_all;done)))),?_⟩
   refine dH [(149,fun _=>some (.int .i64 sm)),(150,fun _=>some (.int .i64 q))] [(14,{val:=some (.pv (.agg [.int .i64 x.lo,.int .i64 x.hi]))}),(18,{val:=some (.pv (.int .i64 k)),ro:=true}),(27,{val:=some (.pv (.int .i64 y.fac))})] ?_;dsimp only[av,ah,go_sem];try dsimp only[av,ah,go_sem]
   refine⟨(by first|exact True.intro|(simp only[vb,lb];omega)|(simp only[vb,lb,e,f1,f2,hc0,hc1,hI,hg,h2,hbd,hfl,hf];and_intros<;>first|omega|(simp<;>omega))|(simp[vb,e,f1,f2,hc0,hc1,hI,hg,h2,hbd,hfl,hf]<;>omega)),(by first|exact True.intro|((try dsimp only[go_sem]);first|(simp[vb,e,f1,f2,hc0,hc1,hI,hg,h2,hbd,hfl,hf]<;>omega)|(simp only[vb,and_true,true_implies];(repeat' (first|(with_reducible assumption)|(with_reducible apply And.intro)|intro _|((fail_if_success (with_reducible show(_:Int)≤_));assumption)))<;>first|omega|rfl|(simp only[ab,e,f1,f2,hc0,hc1,hI,hg,h2,hbd,hfl,hf];done)|(simp[Nat.mul_one,e,f1,f2,hc0,hc1,hI,hg,h2,hbd,hfl,hf]<;>omega)|(simp_all;done)))),?_⟩
   iterate 5 first
    |refine⟨fun h=>by simp at h<;>omega,fun _=>?_⟩
    |refine⟨by simp[vb,e,f1,f2,hc0,hc1,hI,hg,h2,hbd,hfl,hf]<;>omega,by simp[vb,e,f1,f2,hc0,hc1,hI,hg,h2,hbd,hfl,hf]<;>omega,?_⟩
    |(refine dH [(149,fun _=>some (.int .i64 sm)),(150,fun _=>some (.int .i64 q))] [(14,{val:=some (.pv (.agg [.int .i64 x.lo,.int .i64 x.hi]))}),(18,{val:=some (.pv (.int .i64 k)),ro:=true}),(27,{val:=some (.pv (.int .i64 y.fac))})] ?_;iterate 2 (try dsimp only[av,ah,go_sem]))
   refine dH [(149,fun _=>some (.int .i64 sm)),(150,fun _=>some (.int .i64 q))] [(14,{val:=some (.pv (.agg [.int .i64 x.lo,.int .i64 x.hi]))}),(18,{val:=some (.pv (.int .i64 k)),ro:=true}),(27,{val:=some (.pv (.int .i64 y.fac))})] ?_;dsimp only[av,ah,go_sem];try dsimp only[av,ah,go_sem]
   refine⟨(by first|exact True.intro|(simp only[vb,lb];omega)|(simp only[vb,lb,e,f1,f2,hc0,hc1,hI,hg,h2,hbd,hfl,hf];and_intros<;>first|omega|(simp<;>omega))|(simp[vb,e,f1,f2,hc0,hc1,hI,hg,h2,hbd,hfl,hf]<;>omega)),(by first|exact True.intro|((try dsimp only[go_sem]);first|(simp[vb,e,f1,f2,hc0,hc1,hI,hg,h2,hbd,hfl,hf]<;>omega)|(simp only[vb,and_true,true_implies];(repeat' (first|(with_reducible assumption)|(with_reducible apply And.intro)|intro _|((fail_if_success (with_reducible show(_:Int)≤_));assumption)))<;>first|omega|rfl|(simp only[ab,e,f1,f2,hc0,hc1,hI,hg,h2,hbd,hfl,hf];done)|(simp[Nat.mul_one,e,f1,f2,hc0,hc1,hI,hg,h2,hbd,hfl,hf]<;>omega)|(simp_all;done)))),?_⟩
   refine dH [(149,fun _=>some (.int .i64 sm)),(150,fun _=>some (.int .i64 q))] [(14,{val:=some (.pv (.agg [.int .i64 x.lo,.int .i64 x.hi]))}),(18,{val:=some (.pv (.int .i64 k)),ro:=true}),(27,{val:=some (.pv (.int .i64 y.fac))})] ?_;dsimp only[av,ah,go_sem];try dsimp only[av,ah,go_sem]
   refine⟨(by simp[vb,e,f1,f2,hc0,hc1,hI,hg,h2,hbd,hfl,hf]<;>omega),(by simp[vb,e,f1,f2,hc0,hc1,hI,hg,h2,hbd,hfl,hf]<;>omega),?_⟩;refine dH [(149,fun _=>some (.int .i64 sm)),(150,fun _=>some (.int .i64 q))] [(14,{val:=some (.pv (.agg [.int .i64 x.lo,.int .i64 x.hi]))}),(18,{val:=some (.pv (.int .i64 k)),ro:=true}),(27,{val:=some (.pv (.int .i64 y.fac))})] ?_;dsimp only[av,ah,go_sem];refine⟨fun _=>?_,fun h=>by simp at h<;>omega⟩
   refine kQ (T:=[(149,fun _=>some (.int .i64 sm)),(150,fun _=>some (.int .i64 q))]) (H:=[(14,{val:=some (.pv (.agg [.int .i64 x.lo,.int .i64 x.hi]))}),(18,{val:=some (.pv (.int .i64 k)),ro:=true}),(27,{val:=some (.pv (.int .i64 y.fac))})]) (by rfl) ?_;dsimp only[eB,av,ah,go_sem];try dsimp only[av,ah,go_sem]
   refine⟨(by simp[vb,e,f1,f2,hc0,hc1,hI,hg,h2,hbd,hfl,hf]<;>omega),(by simp[vb,e,f1,f2,hc0,hc1,hI,hg,h2,hbd,hfl,hf]<;>omega),?_⟩;repeat' (first
    |((with_reducible show aF _);(simp only[vb,lb,hem,fw];and_intros<;>first|omega|(simp<;>omega)))
    |((with_reducible show aO _);first|exact True.intro|((try dsimp only[go_sem]);(simp[vb,hem,fw]<;>omega)))
    |exact(rfl:some _=_)
    |(
     fail_if_success refine aV ?_
     refine iu [(102,fun ps=>match ps with|[.agg [.int _ l,.int _ h]]=>some (.bool (decide (h<l)))|_=>none)] ?_;repeat1' dsimp only[wR,av,ah,go_sem]
     first
     |refine aW ?_ ?_ rfl ?_
     |apply aX
     |apply aY
     |(refine aZ (fun hc=>?_) fun hc=>?_<;>first|(cases hc;done)|(try simp only[bn]at hc;try contradiction))
     |skip))
   ·rw[fL]at hc;rw[if_pos hc]
   ·rw[fL]at hc ⊢;rw[if_neg hc]
  ·have hfl:=w5 (bd-sm) (-y.fac) (by omega) (by omega) (by omega) (by omega);have hq:((bd-sm) / -y.fac).natAbs≤(bd-sm).natAbs:=Int.natAbs_ediv_le_natAbs _ _;simp only[hf,if_false];generalize (bd-sm) / -y.fac=q at *;have hem:=sC ⟨if x.lo< -q then -q else x.lo,x.hi⟩;simp only[fw]at hem;refine af (C:=ctx) (Fn.of zz rfl) rfl ?_;unfold wR;unfold av at hI hbd;unfold ah at hbd
   refine dH [(149,fun _=>some (.int .i64 sm)),(150,fun _=>some (.int .i64 q))] [(14,{val:=some (.pv (.agg [.int .i64 x.lo,.int .i64 x.hi]))}),(18,{val:=some (.pv (.int .i64 k)),ro:=true}),(27,{val:=some (.pv (.int .i64 y.fac))})] ?_;dsimp only[av,ah,go_sem];try dsimp only[av,ah,go_sem]
   refine⟨(by simp[vb,e,f1,f2,hc0,hc1,hI,hg,h2,hbd,hfl,hf]<;>omega),(by simp[vb,e,f1,f2,hc0,hc1,hI,hg,h2,hbd,hfl,hf]<;>omega),?_⟩;refine dH [(149,fun _=>some (.int .i64 sm)),(150,fun _=>some (.int .i64 q))] [(14,{val:=some (.pv (.agg [.int .i64 x.lo,.int .i64 x.hi]))}),(18,{val:=some (.pv (.int .i64 k)),ro:=true}),(27,{val:=some (.pv (.int .i64 y.fac))})] ?_;dsimp only[av,ah,go_sem];try dsimp only[av,ah,go_sem]
   refine⟨(by first|exact True.intro|(simp only[vb,lb];omega)|(simp only[vb,lb,e,f1,f2,hc0,hc1,hI,hg,h2,hbd,hfl,hf];and_intros<;>first|omega|(simp<;>omega))|(simp[vb,e,f1,f2,hc0,hc1,hI,hg,h2,hbd,hfl,hf]<;>omega)),(by first|exact True.intro|((try dsimp only[go_sem]);first|(simp[vb,e,f1,f2,hc0,hc1,hI,hg,h2,hbd,hfl,hf]<;>omega)|(simp only[vb,and_true,true_implies];(repeat' (first|(with_reducible assumption)|(with_reducible apply And.intro)|intro _|((fail_if_success (with_reducible show(_:Int)≤_));assumption)))<;>first|omega|rfl|(simp only[ab,e,f1,f2,hc0,hc1,hI,hg,h2,hbd,hfl,hf];done)|(simp[Nat.mul_one,e,f1,f2,hc0,hc1,hI,hg,h2,hbd,hfl,hf]<;>omega)|(simp_all;done)))),?_⟩
   refine dH [(149,fun _=>some (.int .i64 sm)),(150,fun _=>some (.int .i64 q))] [(14,{val:=some (.pv (.agg [.int .i64 x.lo,.int .i64 x.hi]))}),(18,{val:=some (.pv (.int .i64 k)),ro:=true}),(27,{val:=some (.pv (.int .i64 y.fac))})] ?_;dsimp only[av,ah,go_sem];try dsimp only[av,ah,go_sem]
   refine⟨(by first|exact True.intro|(simp only[vb,lb];omega)|(simp only[vb,lb,e,f1,f2,hc0,hc1,hI,hg,h2,hbd,hfl,hf];and_intros<;>first|omega|(simp<;>omega))|(simp[vb,e,f1,f2,hc0,hc1,hI,hg,h2,hbd,hfl,hf]<;>omega)),(by first|exact True.intro|((try dsimp only[go_sem]);first|(simp[vb,e,f1,f2,hc0,hc1,hI,hg,h2,hbd,hfl,hf]<;>omega)|(simp only[vb,and_true,true_implies];(repeat' (first|(with_reducible assumption)|(with_reducible apply And.intro)|intro _|((fail_if_success (with_reducible show(_:Int)≤_));assumption)))<;>first|omega|rfl|(simp only[ab,e,f1,f2,hc0,hc1,hI,hg,h2,hbd,hfl,hf];done)|(simp[Nat.mul_one,e,f1,f2,hc0,hc1,hI,hg,h2,hbd,hfl,hf]<;>omega)|(simp_all;done)))),?_⟩
   iterate 5 first
    |refine⟨fun h=>by simp at h<;>omega,fun _=>?_⟩
    |refine⟨by simp[vb,e,f1,f2,hc0,hc1,hI,hg,h2,hbd,hfl,hf]<;>omega,by simp[vb,e,f1,f2,hc0,hc1,hI,hg,h2,hbd,hfl,hf]<;>omega,?_⟩
    |(refine dH [(149,fun _=>some (.int .i64 sm)),(150,fun _=>some (.int .i64 q))] [(14,{val:=some (.pv (.agg [.int .i64 x.lo,.int .i64 x.hi]))}),(18,{val:=some (.pv (.int .i64 k)),ro:=true}),(27,{val:=some (.pv (.int .i64 y.fac))})] ?_;iterate 2 (try dsimp only[av,ah,go_sem]))
   refine dH [(149,fun _=>some (.int .i64 sm)),(150,fun _=>some (.int .i64 q))] [(14,{val:=some (.pv (.agg [.int .i64 x.lo,.int .i64 x.hi]))}),(18,{val:=some (.pv (.int .i64 k)),ro:=true}),(27,{val:=some (.pv (.int .i64 y.fac))})] ?_;dsimp only[av,ah,go_sem];try dsimp only[av,ah,go_sem]
   refine⟨(by first|exact True.intro|(simp only[vb,lb];omega)|(simp only[vb,lb,e,f1,f2,hc0,hc1,hI,hg,h2,hbd,hfl,hf];and_intros<;>first|omega|(simp<;>omega))|(simp[vb,e,f1,f2,hc0,hc1,hI,hg,h2,hbd,hfl,hf]<;>omega)),(by first|exact True.intro|((try dsimp only[go_sem]);first|(simp[vb,e,f1,f2,hc0,hc1,hI,hg,h2,hbd,hfl,hf]<;>omega)|(simp only[vb,and_true,true_implies];(repeat' (first|(with_reducible assumption)|(with_reducible apply And.intro)|intro _|((fail_if_success (with_reducible show(_:Int)≤_));assumption)))<;>first|omega|rfl|(simp only[ab,e,f1,f2,hc0,hc1,hI,hg,h2,hbd,hfl,hf];done)|(simp[Nat.mul_one,e,f1,f2,hc0,hc1,hI,hg,h2,hbd,hfl,hf]<;>omega)|(simp_all;done)))),?_⟩
   refine dH [(149,fun _=>some (.int .i64 sm)),(150,fun _=>some (.int .i64 q))] [(14,{val:=some (.pv (.agg [.int .i64 x.lo,.int .i64 x.hi]))}),(18,{val:=some (.pv (.int .i64 k)),ro:=true}),(27,{val:=some (.pv (.int .i64 y.fac))})] ?_;dsimp only[av,ah,go_sem];try dsimp only[av,ah,go_sem]
   refine⟨(by simp[vb,e,f1,f2,hc0,hc1,hI,hg,h2,hbd,hfl,hf]<;>omega),(by simp[vb,e,f1,f2,hc0,hc1,hI,hg,h2,hbd,hfl,hf]<;>omega),?_⟩;refine dH [(149,fun _=>some (.int .i64 sm)),(150,fun _=>some (.int .i64 q))] [(14,{val:=some (.pv (.agg [.int .i64 x.lo,.int .i64 x.hi]))}),(18,{val:=some (.pv (.int .i64 k)),ro:=true}),(27,{val:=some (.pv (.int .i64 y.fac))})] ?_;dsimp only[av,ah,go_sem];refine⟨fun h=>by simp at h<;>omega,fun _=>?_⟩
   refine kQ (T:=[(149,fun _=>some (.int .i64 sm)),(150,fun _=>some (.int .i64 q))]) (H:=[(14,{val:=some (.pv (.agg [.int .i64 x.lo,.int .i64 x.hi]))}),(18,{val:=some (.pv (.int .i64 k)),ro:=true}),(27,{val:=some (.pv (.int .i64 y.fac))})]) (by rfl) ?_;dsimp only[eB,av,ah,go_sem];try dsimp only[av,ah,go_sem]
   refine⟨(by simp[vb,e,f1,f2,hc0,hc1,hI,hg,h2,hbd,hfl,hf]<;>omega),(by simp[vb,e,f1,f2,hc0,hc1,hI,hg,h2,hbd,hfl,hf]<;>omega),?_⟩;repeat' (first
    |((with_reducible show aF _);(simp only[vb,lb,hem,fw];and_intros<;>first|omega|(simp<;>omega)))
    |((with_reducible show aO _);first|exact True.intro|((try dsimp only[go_sem]);(simp[vb,hem,fw]<;>omega)))
    |exact(rfl:some _=_)
    |(
     fail_if_success refine aV ?_
     refine iu [(102,fun ps=>match ps with|[.agg [.int _ l,.int _ h]]=>some (.bool (decide (h<l)))|_=>none)] ?_;repeat1' dsimp only[wR,av,ah,go_sem]
     first
     |refine aW ?_ ?_ rfl ?_
     |apply aX
     |apply aY
     |(refine aZ (fun hc=>?_) fun hc=>?_<;>first|(cases hc;done)|(try simp only[bn]at hc;try contradiction))
     |skip))
   ·rw[jf]at hc;rw[if_pos hc]
   ·rw[jf]at hc ⊢;rw[if_neg hc]
set_option maxHeartbeats 4000000 in
theorem yD (b:List Rg) (r:Rw) (c:Int) (hb:b.length≤1000000000) (hr:r.terms.length≤1000000000):ai ctx 107 [.agg [av r.terms,.int .i64 r.bound],ah b,.int .i64 c] (.agg [.int .i64 (fu r b c).lo,.int .i64 (fu r b c).hi]):=by
 have hv:ai ctx 71 [.sl b.length (b.flatMap gZ),.sl 1 [.sl r.terms.length (r.terms.flatMap ke),.int .i64 r.bound]] (.bool (fV b [r])):=sD b [r] hb (by simp) fun x hx=>by simp at hx;subst hx;exact hr
 by_cases hc:fV b [r]=true∧0≤c∧c<b.length
 ·have ht:=w8 b r c hc.1 hc.2.1 hc.2.2;rw[show fu r b c=gL r b c by rw[fu,if_pos hc]];rw[hc.1]at hv;obtain⟨-,c1,c2⟩:=hc;generalize gL r b c=x at *;unfold av ah at ht;refine af (C:=ctx) (Fn.of zy rfl) rfl ?_;unfold c107;repeat' (first
   |((with_reducible show aF _);first|exact True.intro|(simp only[vb,lb,hv,ht,c1,c2];and_intros<;>first|omega|(simp<;>omega)))
   |((with_reducible show aO _);first|exact True.intro|((try dsimp only[go_sem]);(simp[vb,hv,ht,c1,c2]<;>omega)))
   |exact(rfl:some _=_)
   |(
    fail_if_success refine aV ?_
    refine iu [(71,fun _=>some (.bool true)),(129,fun _=>some (.agg [.int .i64 x.lo,.int .i64 x.hi]))] ?_;repeat1' dsimp only[c107,av,ah,go_sem]
    first
    |refine aW ?_ ?_ rfl ?_
    |apply aX
    |apply aY
    |(refine aZ (fun hc=>?_) fun hc=>?_<;>first|(cases hc;done)|(exfalso;(simp at hc<;>omega))|(try simp only[bn]at hc;try contradiction))
    |skip))
 ·rw[show fu r b c=zr by rw[fu,if_neg hc]];generalize fV b [r]=q at *;cases q with
  |false =>
   refine af (C:=ctx) (Fn.of zy rfl) rfl ?_;unfold c107;repeat' (first
    |((with_reducible show aF _);first|exact True.intro|(simp only[vb,lb,hv];and_intros<;>first|omega|(simp<;>omega)))
    |((with_reducible show aO _);first|exact True.intro|((try dsimp only[go_sem]);(simp[vb,hv]<;>omega)))
    |exact(rfl:some _=_)
    |(
     fail_if_success refine aV ?_
     refine iu [(71,fun _=>some (.bool false))] ?_;repeat1' dsimp only[c107,av,ah,go_sem]
     first
     |refine aW ?_ ?_ rfl ?_
     |apply aX
     |apply aY
     |(refine aZ (fun hc=>?_) fun hc=>?_<;>first|(cases hc;done)|(try simp only[bn]at hc;try contradiction))
     |skip))
  |true =>
   have hn:¬(0≤c∧c<b.length):=fun h=>hc ⟨rfl,h⟩
   clear hc;refine af (C:=ctx) (Fn.of zy rfl) rfl ?_;unfold c107;repeat' (first
    |((with_reducible show aF _);first|exact True.intro|(simp only[vb,lb,hv];and_intros<;>first|omega|(simp<;>omega)))
    |((with_reducible show aO _);first|exact True.intro|((try dsimp only[go_sem]);(simp[vb,hv]<;>omega)))
    |exact(rfl:some _=_)
    |(
     fail_if_success refine aV ?_
     refine iu [(71,fun _=>some (.bool true))] ?_;repeat1' dsimp only[c107,av,ah,go_sem]
     first
     |refine aW ?_ ?_ rfl ?_
     |apply aX
     |apply aY
     |(refine aZ (fun hc=>?_) fun hc=>?_<;>first|(cases hc;done)|(exfalso;(simp at hc<;>omega))|(try simp only[bn]at hc;try contradiction))
     |skip))
end
section
open Rf
def qQ:List PV→Option (List bj)
 |[]=>some []
 | .int .i64 a::.int .i64 b::.int .i64 c::r=>match qQ r with
  |some l=>some (⟨a,b,c⟩::l)
  |none=>none
 |_=>none
structure nv where
 k:Int
 s:List bj
 c:Int
 a:Int
 deriving DecidableEq
def yE:PV→Option nv
 | .agg [.int .i64 k,.sl n cs,.int .i64 c,.int .i64 a,.sl 0 []]=>match qQ cs with
  |some s=>bif Nat.beq n s.length&&Nat.ble n 1000 then some ⟨k,s,c,a⟩ else none
  |none=>none
 |_=>none
def nv.t (x:nv):Tree:=.node x.k x.s x.c x.a []
theorem sG:∀(cs:List PV) (s:List bj),qQ cs=some s→cs=s.flatMap aG
 |[],s,h=>by injection h with h;subst h;rfl
 |[.int .i64 _],_,h=>by cases h
 |[.int .i64 _,.int .i64 _],_,h=>by cases h
 | .int .i64 a::.int .i64 b::.int .i64 c::r,s,h=>by
  rw[qQ]at h;split at h
  ·rename_i l hl;injection h with h
   subst h;rw[sG r l hl];rfl
  ·cases h
theorem Bc {p:PV} {x:nv} (h:yE p=some x):p=aE x.t∧wt x.t≤1000000000:=by
 unfold yE at h;split at h
 ·split at h
  ·rename_i s hs;rename_i k n cs c a _;cases hb:(Nat.beq n s.length&&Nat.ble n 1000) with
   |false=>rw[hb]at h;cases h
   |true =>
    rw[hb,cond_true]at h;injection h with h
    subst h;rw[Bool.and_eq_true]at hb;have h1:=Nat.eq_of_beq_eq_true hb.1;have h2:=Nat.le_of_ble_eq_true hb.2;subst h1;rw[sG cs s hs];refine⟨rfl,?_⟩;rw[nv.t,cJ];simp[iH];omega
  ·cases h
 ·cases h
def p6 (f:nv→Option PV):List PV→Option PV:=fun ps=>match ps.map (canon 3) with
 |[p]=>match yE p with
  |some x=>f x
  |none=>none
 |_=>none
theorem nH {g:FuncId} {f:nv→Option PV} (h:∀x r,wt x.t≤1000000000→f x=some r→ai ctx g [aE x.t] r) (ps:List PV) (r:PV) (hr:p6 f ps=some r):ai ctx g ps r:=by
 unfold p6 at hr;split at hr
 ·rename_i p hp;split at hr
  ·rename_i x hx;obtain⟨h1,h2⟩:=Bc hx;refine ai.og 3 ?_;rw[hp,h1];exact h x r h2 hr
  ·cases hr
 ·cases hr
def Gi:nv:=⟨0,[⟨0,1,0⟩,⟨0,2,1⟩,⟨0,0,0⟩],0,0⟩
def Fp:List UInt8:=[114,111,119,32,49,32,48,10,114,111,119,32,50,32,49,10,114,111,119,32,48,32,48,10,99,108,111,115,101,100,10]
def GA:List UInt8:=[114,111,119,32,48,49,32,48,10,99,108,111,115,101,100,10]
def yF (x:nv):Bool:=x.s.all br&&Rf.cD x.k x.c x.a 0
theorem CZ (x:nv):eE x.t=1:=by rw[nv.t,jL];rfl
theorem Gj (x:nv):kx x.t=x.s.length:=by rw[nv.t,mY];rfl
theorem uf (x:nv) (h:x.s.length≤1000):gz x.t=yF x:=by
 have hw:wt x.t=1+x.s.length:=by rw[nv.t,cJ];rfl
 have d1:decide (eE x.t≤4096)=true:=by rw[CZ];rfl
 have d2:decide (wt x.t≤65536)=true:=by rw[hw];simp;omega
 unfold gz;rw[d1,d2,nv.t,dO];simp[yF]
theorem C0:jB Gi.t=(Fp,0):=by
 have h1:ga Gi.t=Fp:=by
  rw[nv.t,ju];kernel_rfl
 unfold jB;rw[uf Gi (by decide),h1];rfl
def EB:Tree:=.node 0 [⟨0,1,0⟩] 0 0 []
theorem Gk:jg GA=(zt,3):=by
 have h1:kC ((mz 10 GA).length+1) 1 (mz 10 GA)=some (EB,[[]]):=by kernel_rfl
 have h2:jB EB≠(GA,0):=by
  have h3:ga EB=[114,111,119,32,49,32,48,10,99,108,111,115,101,100,10]:=by
   rw[EB,ju];kernel_rfl
  unfold jB;rw[h3];intro h;split at h
  ·split at h
   ·cases h
   ·injection h with h _
    cases h
  ·cases h
 unfold jg;rw[if_neg (by decide),h1];simp only;rw[if_neg h2]
theorem Gl:jg Fp=(Gi.t,0):=by
 have h1:kC ((mz 10 Fp).length+1) 1 (mz 10 Fp)=some (Gi.t,[[]]):=by kernel_rfl
 unfold jg;rw[if_neg (by decide),h1];simp only;rw[if_pos C0]
def Ie:n3 where
 fns:=zA
 pure:=[(13,p6 fun x=>bif Nat.ble x.s.length 1000 then some (.bool (yF x)) else none),(15,p6 fun x=>some (.int .i64 x.s.length)),(17,p6 fun _=>some (.int .i64 1)),
  (26,p6 fun x=>if x=Gi then some (.tup [.str Fp,.int .i64 0]) else none),
  (28,fun ps=>match ps with
   |[.str s]=>if s=GA then some (.tup [.agg [.int .i64 0,.sl 0 [],.int .i64 0,.int .i64 0,.sl 0 []],.int .i64 3]) else
    if s=Fp then some (.tup [.agg [.int .i64 0,.sl 3 [.int .i64 0,.int .i64 1,.int .i64 0,.int .i64 0,.int .i64 2,.int .i64 1,.int .i64 0,.int .i64 0,.int .i64 0],.int .i64 0,.int .i64 0,.sl 0 []],.int .i64 0]) else none
   |_=>none)]
 ref:=[]
 mem:=[77]
theorem C1:lh ctx Ie where
 dz:=rfl
 fns g e h:=by
  have key:∀(l:List (Nat×Hq)),(∀p∈l,∃own,bF Tryz.prog p.1 own=some (p.2.x,p.2.rs,p.2.n,true))→kP l g=some e→∃own,bF Tryz.prog g own=some (e.x,e.rs,e.n,true):=by
   intro l;induction l with
   |nil=>intro _ h;cases h
   |cons p r ih =>
    obtain⟨k,y⟩:=p;intro hl h;rw[kP]at h;cases hk:Nat.beq k g with
    |true =>
     rw[hk,cond_true]at h;injection h with h
     subst h;have:=Nat.eq_of_beq_eq_true hk;subst this;exact hl (k,y) (by simp)
    |false =>
     rw[hk,cond_false]at h;exact ih (fun p hp=>hl p (by simp[hp])) h
  exact key zA CH h
 pure g s h ps r hr:=by
  have look:∀{k:Nat} {x:List PV→Option PV} {l:List (Nat×(List PV→Option PV))},kP ((k,x)::l) g=some s→(k=g∧x=s)∨kP l g=some s:=fun {k x l} h=>by
   rw[kP]at h;cases hk:Nat.beq k g with
   |true =>
    rw[hk,cond_true]at h;injection h with h
    exact .inl ⟨Nat.eq_of_beq_eq_true hk,h⟩
   |false =>
    rw[hk,cond_false]at h;exact .inr h
  rcases look h with⟨rfl,rfl⟩|h
  ·refine nH (fun x r hw h=>?_) ps r hr;cases hb:Nat.ble x.s.length 1000 with
   |false=>rw[hb]at h;cases h
   |true =>
    rw[hb,cond_true]at h;injection h with h
    subst h;rw[←uf x (Nat.le_of_ble_eq_true hb)];exact so x.t hw
  rcases look h with⟨rfl,rfl⟩|h
  ·refine nH (fun x r hw h=>?_) ps r hr;injection h with h
   subst h;have:=CL x.t hw;rw[Gj]at this;exact this
  rcases look h with⟨rfl,rfl⟩|h
  ·refine nH (fun x r hw h=>?_) ps r hr;injection h with h
   subst h;have:=CM x.t hw;rw[CZ]at this;exact this
  rcases look h with⟨rfl,rfl⟩|h
  ·refine nH (fun x r hw h=>?_) ps r hr;split at h
   ·rename_i he;subst he;injection h with h
    subst h;have:=ud Gi.t hw;rw[C0]at this;exact this
   ·cases h
  rcases look h with⟨rfl,rfl⟩|h
  ·dsimp only at hr;split at hr
   ·split at hr
    ·rename_i he;subst he;injection hr with hr
     subst hr;have:=w7 GA (by decide);rw[Gk]at this;exact this
    ·split at hr
     ·rename_i he;subst he;injection hr with hr
      subst hr;have:=w7 Fp (by decide);rw[Gl]at this;exact this
     ·cases hr
   ·cases hr
  ·cases h
 ref g s h:=by cases h
end
section
open Rf
set_option maxRecDepth 100000 in
theorem Bd:y8 Ie (run Ie 2000) 11 []=some (.bool true):=by kernel_rfl
theorem C2:ai ctx 11 [] (.bool true):=vW C1 (BQ C1 2000) Bd
end
end Pur
end
section
namespace Rf
structure Dv (s:Sy):Prop where
 b:s.box.length≤1000000000
 r:s.rows.length≤1000000000
 g:s.graphs.length≤1000000000
 c:s.cases.length≤1000000000
 rt:∀x∈s.rows,x.terms.length≤1000000000
 gl:∀x∈s.graphs,x.least.length≤1000000000
 cl:∀l∈s.cases,l.length≤1000000000
 ct:∀l∈s.cases,∀x∈l,x.terms.length≤1000000000
theorem nP {n:Int} (h1:1≤n) (h2:n≤6):1≤n*n∧n*n≤36:=by
 have:n=1∨n=2∨n=3∨n=4∨n=5∨n=6:=by omega
 rcases this with rfl|rfl|rfl|rfl|rfl|rfl<;>decide
end Rf
namespace Pur
open Go.RowKit
attribute [local go_sem] bG eW bN bu dt fP List.map a8 aH get put tmpsOf dD iL gy im conds ev cond_true cond_false Nat.beq Nat.ble Nat.add quiet dE cB cC ox List.append_eq List.nil_append List.cons_append dC cf cg cj ck cp cu eV eQ di iN dB calm quiet.isCallK cF List.getElem?_cons_zero List.getElem?_cons_succ bk bW cellsOf List.all bA List.length_cons List.length_nil eI bc List.drop List.take List.getD Option.getD_some qc qd pz qe qf qg ef fZ eg eh setAt List.set Nat.reduceAdd Nat.reduceMul cx bq refsOf bD bJ scalar cw dZ bT cv aM after freeze gV gF aS dm dK dd ew cR cS bZ cT cU cX cY cZ c6 c7 c8 da db dc b6 b7 b8 dj iO bytesOf bE cM aR bB dP bw bO cG still bM dY du dR bL ey List.isEmpty b9 ca cd Int.reduceToNat Nat.mul_one Nat.reduceSub nY cN bY dL cE look dM strip guarded fC eA eH cL dQ dk gP cV cW Bool.or_false Bool.or_true Bool.and_true Bool.and_false Nat.blt fQ fq fU dG idxOf gG gH iM eT aM my
open Rf
def C3 (s:Sy):fF:=⟨[.pv (ah s.box),.pv (ay s.rows),.pv (aI s.graphs),.pv (aA s.cases)],0,4,36,false⟩
theorem Be (k:Int):ai ctx 104 [.int .i64 k] (.bool (!gm k)):=by
 refine af (C:=ctx) (Fn.of E3 rfl) rfl ?_;unfold Eg;repeat' (first
  |((with_reducible show aF _);exact True.intro)
  |((with_reducible show aO _);first|exact True.intro|((try dsimp only[go_sem]);(simp[vb]<;>omega)))
  |exact(rfl:some _=_)
  |(
   fail_if_success refine aV ?_
   refine a7 ?_;repeat1' dsimp only[Eg,go_sem]
   first
   |refine aW ?_ ?_ rfl ?_
   |apply aX
   |apply aY
   |(refine aZ (fun hc=>?_) fun hc=>?_<;>first|(cases hc;done)|(try simp only[bn]at hc;try contradiction))
   |skip))
 simp[gm,aK,yZ];rw[←decide_not,←decide_not];congr 1<;>exact decide_eq_decide.mpr (by omega)
set_option maxHeartbeats 4000000 in
theorem C4 (n:Int) (g:Gr) (hn:0≤n) (hn2:n≤1000000000) (hg:g.least.length≤1000000000):ai ctx 74 [.int .i64 n,.agg [.int .i64 g.first,.int .i64 g.size,aj g.least]] (.bool (bS n g)):=by
 have hl:=A2 104 g.least hg (fun k=>!gm k) fun k _=>Be k
 have e:g.least.all gm= !(g.least.any fun k=>!gm k):=by simp[List.any_eq_not_all_not]
 unfold bS;rw[e];clear e;generalize (g.least.any fun k=>!gm k)=q at *;obtain⟨fi,sz,le⟩:=g;simp only at *;unfold aj at hl;by_cases h:1≤sz∧sz≤6
 ·obtain⟨q1,q2⟩:=nP h.1 h.2;rw[show aK sz 1 6=true by simp[aK,h],Bool.true_and];by_cases h2:0≤fi∧fi≤n-sz*sz∧(le.length:Int)=sz*sz
  ·rw[decide_eq_true h2.1,decide_eq_true h2.2.1,decide_eq_true h2.2.2];refine af (C:=ctx) (Fn.of Eb rfl) rfl ?_;unfold EZ;repeat' (first
    |((with_reducible show aF _);first|exact True.intro|(simp only[vb,lb,hl,h,h2,q1,q2];and_intros<;>first|omega|(simp<;>omega)))
    |((with_reducible show aO _);first|exact True.intro|((try dsimp only[go_sem]);(simp[vb,hl,h,h2,q1,q2]<;>omega)))
    |exact(rfl:some _=_)
    |(
     fail_if_success refine aV ?_
     refine iu [(103,fun _=>some (.bool q))] ?_;repeat1' dsimp only[EZ,aj,go_sem]
     first
     |refine aW ?_ ?_ rfl ?_
     |apply aX
     |apply aY
     |(refine aZ (fun hc=>?_) fun hc=>?_<;>first|(cases hc;done)|(exfalso;(simp at hc<;>omega))|(try simp only[bn]at hc;try contradiction))
     |skip))
  ·have hr:(decide (0≤fi)&&decide (fi≤n-sz*sz)&&decide ((le.length:Int)=sz*sz))=false:=by
    rw[Bool.eq_false_iff];simp only[ne_eq,Bool.and_eq_true,decide_eq_true_eq];omega
   rw[hr];refine af (C:=ctx) (Fn.of Eb rfl) rfl ?_;unfold EZ;repeat' (first
    |((with_reducible show aF _);first|exact True.intro|(simp only[vb,lb,hl,h,h2,q1,q2];and_intros<;>first|omega|(simp<;>omega)))
    |((with_reducible show aO _);first|exact True.intro|((try dsimp only[go_sem]);(simp[vb,hl,h,h2,q1,q2]<;>omega)))
    |exact(rfl:some _=_)
    |(
     fail_if_success refine aV ?_
     refine iu [(103,fun _=>some (.bool q))] ?_;repeat1' dsimp only[EZ,aj,go_sem]
     first
     |refine aW ?_ ?_ rfl ?_
     |apply aX
     |apply aY
     |(refine aZ (fun hc=>?_) fun hc=>?_<;>first|(cases hc;done)|(exfalso;(simp at hc<;>omega))|(try simp only[bn]at hc;try contradiction))
     |skip))
 ·rw[show aK sz 1 6=false by simp[aK];omega];refine af (C:=ctx) (Fn.of Eb rfl) rfl ?_;unfold EZ;repeat' (first
   |((with_reducible show aF _);first|exact True.intro|(simp only[vb,lb,hl,h];and_intros<;>first|omega|(simp<;>omega)))
   |((with_reducible show aO _);first|exact True.intro|((try dsimp only[go_sem]);(simp[vb,hl,h]<;>omega)))
   |exact(rfl:some _=_)
   |(
    fail_if_success refine aV ?_
    refine iu [(103,fun _=>some (.bool q))] ?_;repeat1' dsimp only[EZ,aj,go_sem]
    first
    |refine aW ?_ ?_ rfl ?_
    |apply aX
    |apply aY
    |(refine aZ (fun hc=>?_) fun hc=>?_<;>first|(cases hc;done)|(exfalso;(simp at hc<;>omega))|(try simp only[bn]at hc;try contradiction))
    |skip))
theorem zL (s:Sy) (l:List Rw) (most:Int) (hb:s.box.length≤1000000000) (hl:l.length≤1000000000) (ht:∀x∈l,x.terms.length≤1000000000) :
  ai ctx 73 [.agg [ah s.box,ay s.rows,aI s.graphs,aA s.cases],ay l,.int .i64 most] (.bool (decide ((l.length:Int)≤most)&&fV s.box l)):=by
 have hv:=sD s.box l hb hl ht;generalize fV s.box l=q at *;unfold ah ay at hv;refine af (C:=ctx) (Fn.of GU rfl) rfl ?_;unfold Hu;repeat' (first
  |((with_reducible show aF _);exact True.intro)
  |((with_reducible show aO _);first|exact True.intro|((try dsimp only[go_sem]);(simp[vb,hv]<;>omega)))
  |exact(rfl:some _=_)
  |(
   fail_if_success refine aV ?_
   refine iu [(71,fun _=>some (.bool q))] ?_;repeat1' dsimp only[Hu,ah,ay,aI,aA,go_sem]
   first
   |refine aW ?_ ?_ rfl ?_
   |apply aX
   |apply aY
   |(refine aZ (fun hc=>?_) fun hc=>?_<;>first|(cases hc;done)|(try simp only[bn]at hc;try contradiction))
   |skip))
 rw[iW]
theorem yG (s:Sy) (hs:Dv s) (l:List Rw) (hl:l.length≤1000000000) (ht:∀x∈l,x.terms.length≤1000000000) :
  aL ctx 76 [.pv (ay l),.ptr 0 0 0] [C3 s] (.pv (.bool (!gK s.box l))) [C3 s]:=by
 have hr:=zL s l 64 hs.b hl ht;have e:gK s.box l=(decide ((l.length:Int)≤64)&&fV s.box l):=by
  unfold gK;congr 1;exact decide_eq_decide.mpr (by omega)
 rw[e];generalize (decide ((l.length:Int)≤64)&&fV s.box l)=q at *;unfold ah ay aI aA at hr;refine bz (C:=ctx) (Fn.of GW rfl) rfl (by simp) rfl rfl ?_;unfold c76 C3;repeat' (first
  |((with_reducible show aF _);first|exact True.intro|(simp only[vb,lb,hr];and_intros<;>first|omega|(simp<;>omega)))
  |((with_reducible show aO _);first|exact True.intro|((try dsimp only[go_sem]);(simp[vb,hr]<;>omega)))
  |exact(rfl:some _=_)
  |(
   fail_if_success refine aV ?_
   refine iu [(73,fun _=>some (.bool q))] ?_;repeat1' dsimp only[c76,ah,ay,aI,aA,go_sem]
   first
   |refine aW ?_ ?_ rfl ?_
   |apply aX
   |apply aY
   |(refine aZ (fun hc=>?_) fun hc=>?_<;>first|(cases hc;done)|(try simp only[bn]at hc;try contradiction))
   |skip))
 all_goals exact⟨⟨trivial,rfl⟩,_,rfl⟩
set_option maxHeartbeats 4000000 in
theorem w9 (s:Sy) (hs:Dv s):ai ctx 46 [.agg [ah s.box,ay s.rows,aI s.graphs,aA s.cases]] (.bool (ja s)):=by
 have h1:=A8 s.box hs.b;have h2:=wY s.box hs.b;have h3:=zL s s.rows 1024 hs.b hs.r hs.rt;have h4:=CJ 76 [C3 s] rfl 0 (by simp) s.cases hs.c (fun l=>!gK s.box l) fun l hl=>yG s hs l (hs.cl l hl) (hs.ct l hl)
 have e:s.cases.all (gK s.box)= !(s.cases.any fun l=>!gK s.box l):=by simp[List.any_eq_not_all_not]
 have f1:=qM s.graphs;have hgr:=fun g hg=>C4 s.box.length g (by omega) (by have:=hs.b;omega) (hs.gl g hg)
 have hsg:=hs.g;have hsc:=hs.c;have hsb:=hs.b;have e2:ja s=(dF s.box&& !eP s.box&&(decide ((s.rows.length:Int)≤1024)&&fV s.box s.rows)&&decide (s.graphs.length≤64)&&decide (s.cases.length≤1024)&&s.graphs.all (bS s.box.length)&&s.cases.all (gK s.box)):=by
  have:fV s.box s.rows=(dF s.box&&fV s.box s.rows):=by unfold fV;cases dF s.box<;>simp
  rw[ja,this];have:decide ((s.rows.length:Int)≤1024)=decide (s.rows.length≤1024):=decide_eq_decide.mpr (by omega);rw[this];cases dF s.box<;>cases fV s.box s.rows<;>cases eP s.box<;>cases decide (s.rows.length≤1024)<;>rfl
 rw[e2,e];clear e e2;generalize (s.cases.any fun l=>!gK s.box l)=q4 at *;generalize (decide ((s.rows.length:Int)≤1024)&&fV s.box s.rows)=q3 at *;generalize eP s.box=q2 at *;generalize dF s.box=q1 at *;obtain⟨b,rs,gs,cs⟩:=s;simp only at *;clear hs;unfold C3 ah ay aI aA at h4;unfold ah at h1 h2;unfold ah ay aI aA at h3;refine af (C:=ctx) (Fn.of GR rfl) rfl ?_;unfold c46;repeat' (first
  |((with_reducible show aF _);first|exact True.intro|(simp only[vb,lb,h1,h2,h3];and_intros<;>first|omega|(simp<;>omega)))
  |((with_reducible show aO _);first|exact True.intro|((try dsimp only[go_sem]);(simp[vb,h1,h2,h3]<;>omega)))
  |exact(rfl:some _=_)
  |(
   fail_if_success refine aV ?_
   refine iu [(71,fun _=>some (.bool q1)),(72,fun _=>some (.bool q2)),(73,fun _=>some (.bool q3))] ?_;repeat1' dsimp only[c46,ah,ay,aI,aA,go_sem]
   first
   |refine aW ?_ ?_ rfl ?_
   |apply aX
   |apply aY
   |(refine aZ (fun hc=>?_) fun hc=>?_<;>first|(cases hc;done)|(try simp only[bn]at hc;try contradiction))
   |skip))
 ·have hr:(q1&& !q2&&q3&&decide (gs.length≤64)&&decide (cs.length≤1024))=false:=by
   rw[Bool.eq_false_iff];simp only[ne_eq,Bool.and_eq_true,decide_eq_true_eq,Bool.not_eq_true'];rintro⟨⟨⟨⟨a,b⟩,c⟩,d⟩,e⟩;subst a b c;simp at hc;omega
  rw[hr];rfl
 ·have hr:(q1&& !q2&&q3&&decide (gs.length≤64)&&decide (cs.length≤1024))=true:=by
   simp only[Bool.and_eq_true,decide_eq_true_eq,Bool.not_eq_true'];obtain⟨⟨⟨⟨a,b⟩,c⟩,d⟩,e⟩:=hc;exact⟨⟨⟨⟨a,b⟩,c⟩,by omega⟩,by omega⟩
  rw[hr,Bool.true_and];clear h1 h2 h3 hc hr;refine bK gs.length (fun k=>(gs.take k).all (bS b.length)=true) (fun k=>[(1,.ptr 0 0 0),(34,.pv (aI gs)),(35,.pv (.int .i64 gs.length)),(36,.pv (.int .i64 k))]) (fun _=>[⟨[.pv (ah b),.pv (ay rs),.pv (aI gs),.pv (aA cs)],0,4,36,false⟩]) rfl (by (repeat' (first|exact trivial|refine And.intro (by first|rfl|(simp[get,Nat.beq];done)|(simp[get,Nat.beq];omega)|(dsimp only[get];congr 1<;>first|rfl|omega|(simp;done)|(simp;omega))) ?_))) ⟨_,rfl⟩ (fun _=>⟨Nat.zero_le _,rfl,rfl⟩) fun k hk hP=>?_
  by_cases hlt:k<gs.length
  ·have e:=cK oZ gs k zg hlt;have i1:=eK (bS b.length) gs k zg hlt;have i2:=ky (bS b.length) gs k zg hlt;have hx:=hgr _ (aQ (d:=zg) hlt);rw[i1,hP,Bool.true_and];clear i1 hgr;generalize gs.getD k zg=x at *;generalize bS b.length x=qx at *;unfold aj at hx;repeat' (first
    |((with_reducible show aF _);first|exact True.intro|(simp only[vb,lb,e,f1,hlt,hx,eU,aj];and_intros<;>first|omega|(simp<;>omega)))
    |((with_reducible show aO _);first|exact True.intro|((try dsimp only[go_sem]);(simp[vb,e,f1,hlt,hx,eU,aj]<;>omega)))
    |exact(rfl:some _=_)
    |(
     fail_if_success refine aV ?_
     refine dH [(74,fun _=>some (.bool qx))] [(39,{val:=some (.pv (.agg [.int .i64 x.first,.int .i64 x.size,.sl x.least.length (x.least.flatMap cA)]))})] ?_;repeat1' dsimp only[c46,ah,ay,aI,aA,go_sem]
     first
     |refine aW ?_ ?_ rfl ?_
     |apply aX
     |apply aY
     |(refine aZ (fun hc=>?_) fun hc=>?_<;>first|(cases hc;done)|(exfalso;(simp at hc<;>omega))|(try simp only[bn]at hc;try contradiction))
     |skip))
   ·rw[i2 hc];rfl
   ·exact⟨hlt,hc,by (repeat' (first|exact trivial|refine And.intro (by first|rfl|(simp[get,Nat.beq];done)|(simp[get,Nat.beq];omega)|(dsimp only[get];congr 1<;>first|rfl|omega|(simp;done)|(simp;omega))) ?_)),_,rfl⟩
  ·obtain rfl:k=gs.length:=by omega
   rw[List.take_length]at hP;rw[hP,Bool.true_and];repeat' (first
    |((with_reducible show aF _);first|exact True.intro|(simp only[vb,lb,hlt,h4];and_intros<;>first|omega|(simp<;>omega)))
    |((with_reducible show aO _);first|exact True.intro|((try dsimp only[go_sem]);(simp[vb,hlt,h4]<;>omega)))
    |exact(rfl:some _=_)
    |(
     fail_if_success refine aV ?_
     refine bI [(50,{val:=some (.pv (.bool q4)),ro:=true})] ?_;repeat1' dsimp only[c46,ah,ay,aI,aA,go_sem]
     first
     |refine aW ?_ ?_ rfl ?_
     |apply aX
     |apply aY
     |(refine aZ (fun hc=>?_) fun hc=>?_<;>first|(cases hc;done)|(exfalso;(simp at hc<;>omega))|(try simp only[bn]at hc;try contradiction))
     |skip))
end Pur
end
section
namespace Rf
theorem mg (g:Gr) (b:List Rg):(eL g b).length=g.least.length:=by simp[eL]
theorem qt (g:Gr) (b:List Rg) (j:Nat) (h:j<g.least.length):(eL g b).getD j false=decide (g.least.getD j 0≤(b.getD (g.first.toNat+j) zr).lo):=by
 simp[eL,List.getD,h]
open Classical in
theorem sH (n:Nat) (l:List Bool) (u v:Nat):yp n l u v=true↔Reach n (bX n l) u v:=by
 unfold yp;rw[decide_eq_true_eq]
def nw (l:List Bool) (k:Nat):List Bool:=l.take k++List.replicate (l.length-k) false
theorem Bf (l:List Bool) (k:Nat) (h:k≤l.length):(nw l k).length=l.length:=by simp[nw];omega
theorem Bg (l:List Bool) (k:Nat) (h:k<l.length):(nw l k).set k (l.getD k false)=nw l (k+1):=by
 have h1:(l.take k).length=k:=by simp;omega
 have h2:l.length-k=(l.length-(k+1))+1:=by omega
 unfold nw;rw[h2,List.replicate_succ,List.set_append_right _ _ (by omega),h1,Nat.sub_self,List.set_cons_zero,Pur.aU l k false h,List.append_assoc];rfl
theorem Bh (l:List Bool):nw l l.length=l:=by simp[nw]
theorem yH (l:List Bool):nw l 0=List.replicate l.length false:=by simp[nw]
end Rf
namespace Pur
open Go.RowKit
attribute [local go_sem] bG eW bN bu dt fP List.map a8 aH get put tmpsOf dD iL gy im conds ev cond_true cond_false Nat.beq Nat.ble Nat.add quiet dE cB cC ox List.append_eq List.nil_append List.cons_append dC cf cg cj ck cp cu eV eQ di iN dB calm quiet.isCallK cF List.getElem?_cons_zero List.getElem?_cons_succ bk bW cellsOf List.all bA List.length_cons List.length_nil eI bc List.drop List.take List.getD Option.getD_some qc qd pz qe qf qg ef fZ eg eh setAt List.set Nat.reduceAdd Nat.reduceMul cx bq refsOf bD bJ scalar cw dZ bT cv aM after freeze gV gF aS dm dK dd ew cR cS bZ cT cU cX cY cZ c6 c7 c8 da db dc b6 b7 b8 dj iO bytesOf bE cM aR bB dP bw bO cG still bM dY du dR bL ey List.isEmpty b9 ca cd Int.reduceToNat Nat.mul_one Nat.reduceSub nY cN bY dL cE look dM strip guarded fC eA eH cL dQ dk gP cV cW Bool.or_false Bool.or_true Bool.and_true Bool.and_false Nat.blt fQ fq fU dG idxOf gG gH iM eT aM my
open Rf
theorem EC (n:Nat) (es:List Bool) (hn:1≤n) (hn2:n≤6) (hlen:es.length=n*n):ai ctx 145 [.int .i64 n,bQ es] (.tup [.agg [.int .i64 n,bQ es],.bool true]):=by
 have hs:=nP (n:=(n:Int)) (by omega) (by omega);have hl:(es.length:Int)=(n:Int)*n:=by rw[hlen];simp
 refine af (C:=ctx) (Fn.of Fe rfl) rfl ?_;unfold c145;repeat' (first
  |((with_reducible show aF _);first|exact True.intro|(simp only[vb,lb,hs,hl,hn,hn2];and_intros<;>first|omega|(simp<;>omega)))
  |((with_reducible show aO _);first|exact True.intro|((try dsimp only[go_sem]);(simp[vb,hs,hl,hn,hn2]<;>omega)))
  |exact(rfl:some _=_)
  |(
   fail_if_success refine aV ?_
   refine a7 ?_;repeat1' dsimp only[c145,bQ,go_sem]
   first
   |refine aW ?_ ?_ rfl ?_
   |apply aX
   |apply aY
   |(refine aZ (fun hc=>?_) fun hc=>?_<;>first|(cases hc;done)|(try simp only[bn]at hc;try contradiction))
   |skip))
 simp;omega
theorem C5 (n:Nat) (es:List Bool) (fr tg:Nat) (hn:1≤n) (hn2:n≤6) (hlen:es.length=n*n) (hf:fr<n) (ht:tg<n) :
  ai ctx 128 [.int .i64 n,bQ es,.int .i64 fr,.int .i64 tg] (yC (o0 n (bX n es) tg (n+2) [[(fr:Int)]] (jM n fr))):=by
 have h1:=EC n es hn hn2 hlen;have h2:=CT n es fr tg hlen hn2 hf ht;generalize hr:yC (o0 n (bX n es) tg (n+2) [[(fr:Int)]] (jM n fr))=r at *;unfold bQ at h1 h2;refine af (C:=ctx) (Fn.of Fc rfl) rfl ?_;unfold Eh;repeat' (first
  |((with_reducible show aF _);first|exact True.intro|(simp only[vb,lb,h1,h2,hf,ht];and_intros<;>first|omega|(simp<;>omega)))
  |((with_reducible show aO _);first|exact True.intro|((try dsimp only[go_sem]);(simp[vb,h1,h2,hf,ht]<;>omega)))
  |exact(rfl:some _=_)
  |(
   fail_if_success refine aV ?_
   refine iu [(145,fun _=>some (.tup [.agg [.int .i64 n,.sl es.length (es.flatMap fe)],.bool true])),(146,fun _=>some r)] ?_;repeat1' dsimp only[Eh,bQ,go_sem]
   first
   |refine aW ?_ ?_ rfl ?_
   |apply aX
   |apply aY
   |(refine aZ (fun hc=>?_) fun hc=>?_<;>first|(cases hc;done)|(exfalso;(simp at hc<;>omega))|(try simp only[bn]at hc;try contradiction))
   |skip))
def jQ (s:Sy) (rows:List Rw) (b:List Rg) (ch:Bool):List PV:=[ah s.box,ay s.rows,aI s.graphs,aA s.cases,ay rows,ah b,.bool ch]
theorem sI (b:List Rg) (i:Nat) (h:i<b.length):(b.flatMap gZ)[i*2]?.getD default= .int .i64 (b.getD i zr).lo:=by
 have:=eo jb b i zr 0 h (by omega);rw[Nat.add_zero]at this;rw[this];rfl
theorem ED (l:List Bool) (k:Nat) (v:Bool):((l.flatMap fe).map AV.pv).set k (.pv (.bool v))=((l.set k v).flatMap fe).map AV.pv:=by
 rw[nt,nt,List.map_set,List.map_set]
theorem C6 (l:List Int):∃q:Bool,(q=true↔l≠[])∧((l=[]∧yC l= .nilsl∧q=false)∨(∃n c,yC l= .sl (n+1) c∧q=true)):=by
 cases l with
 |nil=>exact⟨false,by simp,.inl ⟨rfl,rfl,rfl⟩⟩
 |cons x r=>exact⟨true,by simp,.inr ⟨r.length,_,rfl,rfl⟩⟩
set_option maxHeartbeats 4000000 in
theorem Bi (s : Sy) (rows : List Rw) (b : List Rg) (ch : Bool) (g : Gr) (k : Nat) (hg : bS b.length g = true) (hb : b.length ≤ 1000000000) (hk : k < g.least.length) :
    ai ctx 106 [.agg (jQ s rows b ch), .agg [.int .i64 g.first, .int .i64 g.size, aj g.least], .int .i64 k] (.bool (jA g b k)) := by
  simp only [bS, aK, Bool.and_eq_true, decide_eq_true_eq] at hg
  obtain ⟨⟨⟨⟨⟨g1, g2⟩, g3⟩, g4⟩, g5⟩, g6⟩ := hg
  have hsq := nP g1 g2
  obtain ⟨n, hn⟩ : ∃ n : Nat, g.size = n := ⟨g.size.toNat, by omega⟩
  obtain ⟨fi, hfi⟩ : ∃ fi : Nat, g.first = fi := ⟨g.first.toNat, by omega⟩
  have hlen : g.least.length = n * n := by rw [hn] at g5; have : (n : Int) * n = ((n * n : Nat) : Int) := by simp
                                           omega
  have hpl := mg g b
  have hn1 : 0 < n := by omega
  have hpa := C5 n (eL g b) (k % n) (k / n) (by omega) (by omega) (by omega) (Nat.mod_lt _ hn1) (by rw [Nat.div_lt_iff_lt_mul hn1]; omega)
  have hcl : jA g b k = true ↔ o0 n (bX n (eL g b)) (k / n) (n + 2) [[((k % n : Nat) : Int)]] (jM n (k % n)) ≠ [] := by
    unfold jA
    rw [hn, sH, FQ (Nat.mod_lt _ hn1)]
    rfl
  generalize hrs : o0 n (bX n (eL g b)) (k / n) (n + 2) [[((k % n : Nat) : Int)]] (jM n (k % n)) = res at *
  generalize jA g b k = q at *
  have hat := qt g b
  have f1 := eM g.least
  have f2 := cz b
  have f4 := ou g.least.length
  have f5 : (du [.bool false] g.least.length).length = g.least.length := by rw [f4, gw]; simp
  obtain ⟨_, _, le⟩ := g
  simp only at *
  subst hn hfi
  generalize eL ⟨fi, n, le⟩ b = ps at *
  simp only [jQ]
  refine af (C := ctx) (Fn.of E5 rfl) rfl ?_
  unfold yw
  repeat' (first
    | ((with_reducible show aF _); first | exact True.intro | (simp only [vb, lb, f5]; and_intros <;> first | omega | (simp <;> omega)))
    | ((with_reducible show aO _); exact True.intro)
    | exact (rfl : some _ = _)
    | (
      fail_if_success refine aV ?_
      refine a7 ?_
      repeat1' dsimp only [yw, aj, ah, ay, aI, aA, go_sem]
      first
      | refine aW ?_ ?_ rfl ?_
      | apply aX
      | apply aY
      | (refine aZ (fun hc => ?_) fun hc => ?_ <;> first | (cases hc; done) | (try simp only [bn] at hc; try contradiction))
      | skip))
  refine bK le.length (fun _ => True) (fun j => [(2, .pv (.int .i64 k)), (3, .ptr 0 0 0), (4, .ptr 1 0 0), (7, .ref 2 0 0 le.length), (15, .pv (aj le)), (16, .pv (.int .i64 le.length)), (17, .pv (.int .i64 j))])
    (fun j => [⟨[.pv (ah s.box), .pv (ay s.rows), .pv (aI s.graphs), .pv (aA s.cases), .pv (ay rows), .pv (ah b), .pv (.bool ch)], 0, 7, 73, false⟩, ⟨[.pv (.int .i64 fi), .pv (.int .i64 n), .pv (aj le)], 0, 3, 99, false⟩, ⟨((nw ps j).flatMap fe).map .pv, 0, 1, 4, false⟩]) trivial (by (repeat' (first | exact trivial | refine And.intro (by first | rfl | (simp [get, Nat.beq]; done) | (simp [get, Nat.beq]; omega) | (dsimp only [get]; congr 1 <;> first | rfl | omega | (simp; done) | (simp; omega))) ?_))) ⟨[], ?_⟩ (fun j => ⟨Nat.zero_le _, rfl, by simp [aP, dJ]⟩) fun j hj _ => ?_
  · rw [yH, hpl, ← f4]
    simp [ah, ay, aI, aA, aj]
  by_cases hlt : j < le.length
  · have e1 := je (g := cA) (fun _ => rfl) le j 0 default hlt
    have e2 := sI b (fi + j) (by omega)
    have e3 := hat j hlt
    have e4 := Bg ps j (by omega)
    have e5 := Bf ps j (by omega)
    have e6 : ((fi : Int) + (j : Int)) = ((fi + j : Nat) : Int) := by simp
    have e7 := gw (nw ps j)
    have hlt2 : fi + j < b.length := by omega
    rw [Int.toNat_natCast] at e3
    rw [e3] at e4
    generalize le.getD j 0 = lj at *
    generalize (b.getD (fi + j) zr).lo = lo at *
    repeat' (first
      | ((with_reducible show aF _); first | exact True.intro | (simp only [vb, lb, e1, e2, e5, e7, hlt, hlt2, hpl, f1, f2]; and_intros <;> first | omega | (simp <;> omega)))
      | ((with_reducible show aO _); first | exact True.intro | ((try dsimp only [go_sem]); (simp only [vb, and_true, true_implies]; (repeat' (first | (with_reducible assumption) | (with_reducible apply And.intro) | intro _ | ((fail_if_success (with_reducible show (_ : Int) ≤ _)); assumption))) <;> first | rfl | (simp only [ab, e1, e2, e5, e7, hlt, hlt2, hpl, f1, f2]; done))))
      | exact (rfl : some _ = _)
      | (
        fail_if_success refine aV ?_
        refine bI [(21, { val := some (.pv (.int .i64 lj)) }), (29, { val := some (.pv (.int .i64 (fi + j : Nat))) }), (32, { val := some (.pv (.int .i64 lo)) })] ?_
        repeat1' dsimp only [yw, aj, ah, ay, aI, aA, go_sem]
        first
        | refine aW ?_ ?_ rfl ?_
        | apply aX
        | apply aY
        | (refine aZ (fun hc => ?_) fun hc => ?_ <;> first | (cases hc; done) | (exfalso; (simp at hc <;> omega)) | (try simp only [bn] at hc; try contradiction))
        | skip))
    refine ⟨hlt, trivial, by (repeat' (first | exact trivial | refine And.intro (by first | rfl | (simp [get, Nat.beq]; done) | (simp [get, Nat.beq]; omega) | (dsimp only [get]; congr 1 <;> first | rfl | omega | (simp; done) | (simp; omega))) ?_)), [], ?_⟩
    rw [← e4, ← ED]
    simp
  · obtain rfl : j = le.length := by omega
    rw [← hpl, Bh]
    unfold bQ at hpa
    have f3 := gw ps
    have hz1 : ¬ n = 0 := by omega
    obtain ⟨q', hq', hqq⟩ := C6 res
    obtain rfl : q = q' := by rw [Bool.eq_iff_iff, hcl, hq']
    refine bH [(7, .ref 2 0 0 ps.length), (2, .pv (.int .i64 k)), (3, .ptr 0 0 0), (4, .ptr 1 0 0), (15, .pv (aj le)), (16, .pv (.int .i64 ps.length)), (17, .pv (.int .i64 ps.length))] (by (repeat' (first | exact trivial | refine And.intro (by first | rfl | (simp [get, Nat.beq]; done) | (simp [get, Nat.beq]; omega) | (dsimp only [get]; congr 1 <;> first | rfl | omega | (simp; done) | (simp; omega))) ?_))) ?_
    refine (lY (μ := [_, _]) (ps := ps.flatMap fe) (n := ps.length) (g := 0) (t := 7) (sz := 1) (by simp [aP, dJ]) (Nat.zero_le _) (by omega) f3 (fun _ => rfl) rfl ?_)
    rcases hqq with ⟨-, hr, rfl⟩ | ⟨m, c, hr, rfl⟩
    · rw [hr] at hpa
      repeat' (first
        | ((with_reducible show aF _); first | exact True.intro | (simp only [vb, lb, hn1, hpa, hz1]; and_intros <;> first | omega | (simp <;> omega)))
        | ((with_reducible show aO _); first | exact True.intro | ((try dsimp only [go_sem]); (simp only [vb, and_true, true_implies]; (repeat' (first | (with_reducible assumption) | (with_reducible apply And.intro) | intro _ | ((fail_if_success (with_reducible show (_ : Int) ≤ _)); assumption))) <;> rfl)))
        | exact (rfl : some _ = _)
        | (
          fail_if_success refine aV ?_
          refine dH [(128, fun _ => some .nilsl)] [(43, { val := some (.pv (.int .i64 (k % n : Nat))) }), (47, { val := some (.pv (.int .i64 (k / n : Nat))) })] ?_
          repeat1' dsimp only [yw, bQ, go_sem]
          first
          | refine aW ?_ ?_ rfl ?_
          | apply aX
          | apply aY
          | (refine aZ (fun hc => ?_) fun hc => ?_ <;> first | (cases hc; done) | (exfalso; (simp at hc <;> omega)) | (try simp only [bn] at hc; try contradiction))
          | skip))
    · rw [hr] at hpa
      repeat' (first
        | ((with_reducible show aF _); first | exact True.intro | (simp only [vb, lb, hn1, hpa, hz1]; and_intros <;> first | omega | (simp <;> omega)))
        | ((with_reducible show aO _); first | exact True.intro | ((try dsimp only [go_sem]); (simp only [vb, and_true, true_implies]; (repeat' (first | (with_reducible assumption) | (with_reducible apply And.intro) | intro _ | ((fail_if_success (with_reducible show (_ : Int) ≤ _)); assumption))) <;> rfl)))
        | exact (rfl : some _ = _)
        | (
          fail_if_success refine aV ?_
          refine dH [(128, fun _ => some (.sl (m + 1) c))] [(43, { val := some (.pv (.int .i64 (k % n : Nat))) }), (47, { val := some (.pv (.int .i64 (k / n : Nat))) })] ?_
          repeat1' dsimp only [yw, bQ, go_sem]
          first
          | refine aW ?_ ?_ rfl ?_
          | apply aX
          | apply aY
          | (refine aZ (fun hc => ?_) fun hc => ?_ <;> first | (cases hc; done) | (exfalso; (simp at hc <;> omega)) | (try simp only [bn] at hc; try contradiction))
          | skip))
      simp
end Pur
end
end Go.Proofs.YtaleoeblooeglaaGreatDoor
