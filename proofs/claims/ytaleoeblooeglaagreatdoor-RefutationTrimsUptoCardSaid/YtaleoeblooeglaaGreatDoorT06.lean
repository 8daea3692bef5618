/-
  RefutationTrims: both libraries trim alike, for any system and tree whose bulk is at most 1048576 (the tables laid); names shortened by a program (RfU4 RfU6 RfU7 RfU8 RfU9 RfU10 RfV3 RfW2 RfTm2 RfCdTrims)
-/
import Derived.Test.YtaleoeblooeglaaGreatDoorT05
set_option maxRecDepth 10000
set_option maxHeartbeats 32000000
set_option linter.unusedSimpArgs false
set_option linter.unusedVariables false
namespace Go.Proofs.YtaleoeblooeglaaGreatDoor
open Go.RowKit
attribute [local go_sem] Pur.ξ Pur.bV Pur.gF Pur.cd Pur.bI Pur.cG Pur.jK List.map Pur.bB Pur.aR Pur.get Pur.put Pur.tmpsOf Pur.eY Pur.oK Pur.kY Pur.oa Pur.conds Pur.ev cond_true cond_false Nat.beq Nat.ble Nat.add Pur.quiet Pur.fc Pur.cW Pur.dH Pur.zP List.append_eq List.nil_append List.cons_append Pur.eX Pur.gq Pur.gr Pur.gu Pur.gv Pur.gw Pur.gx Pur.kf Pur.jM Pur.fQ Pur.pC Pur.gZ Pur.calm Pur.quiet.isCallK Pur.dU List.getElem?_cons_zero List.getElem?_cons_succ Pur.cE Pur.dM Pur.cellsOf List.all Pur.bZ List.length_cons List.length_nil Pur.jr Pur.bC List.drop List.take List.getD Option.getD_some Pur.Eb Pur.Ec Pur.Cn Pur.Ed Pur.Ee Pur.Ef Pur.kZ Pur.nY Pur.k6 Pur.k7 Pur.setAt List.set Nat.reduceAdd Nat.reduceMul Pur.dy Pur.ca Pur.refsOf Pur.bW Pur.cS Pur.scalar Pur.eJ Pur.gO Pur.cU Pur.eI Pur.bA Pur.after Pur.freeze Pur.mT Pur.l5 Pur.bw Pur.fS Pur.iN Pur.jk Pur.iB Pur.iV Pur.iW Pur.gf Pur.iX Pur.iY Pur.jb Pur.jc Pur.jd Pur.je Pur.jf Pur.jg Pur.jh Pur.ji Pur.jj Pur.gg Pur.gi Pur.gj Pur.fR Pur.pD Pur.bytesOf Pur.cf Pur.fk Pur.a8 Pur.cH Pur.fN Pur.bP Pur.cF Pur.dV Pur.still Pur.dk Pur.gN Pur.eC Pur.jH Pur.cA Pur.iC List.isEmpty Pur.gk Pur.gm Pur.gp Int.reduceToNat Nat.mul_one Nat.reduceSub Pur.yx Pur.fp Pur.ef Pur.fl Pur.fe Pur.look Pur.fm Pur.strip Pur.guarded Pur.my Pur.iE Pur.jq Pur.eH Pur.jG Pur.ek Pur.mD Pur.iZ Pur.ja Bool.or_false Bool.or_true Bool.and_true Bool.and_false Nat.blt Pur.iz Pur.gI Pur.j0 Pur.dB Pur.idxOf Pur.kp Pur.l6 Pur.o4 Pur.gy Pur.tz
section
namespace Pur
open Go.RowKit
section
open Rf
def Hr:ay:=(⟨_,by conv=>(lhs;reduce;try simp only[cJ,Int.cast_ofNat_Int,Int.reduceNegSucc,UInt8.reduceOfNat])⟩:{x // codeOf Tryz.prog 151 (fun _=>false)=some x}).1
theorem Io:bp Tryz.prog 151 (fun _=>false)=some (Hr,[.t 4],19,true):=by kernel_rfl
def c152:ay:=(⟨_,by conv=>(lhs;reduce;try simp only[cJ,Int.cast_ofNat_Int,Int.reduceNegSucc,UInt8.reduceOfNat])⟩:{x // codeOf Tryz.prog 152 (fun _=>false)=some x}).1
theorem Ip:bp Tryz.prog 152 (fun _=>false)=some (c152,[.t 4],18,true):=by kernel_rfl
def D5:ay:=(⟨_,by conv=>(lhs;reduce;try simp only[cJ,Int.cast_ofNat_Int,Int.reduceNegSucc,UInt8.reduceOfNat])⟩:{x // codeOf Tryz.prog 153 (fun d=>Nat.beq d 7)=some x}).1
theorem Iq:bp Tryz.prog 153 (fun d=>Nat.beq d 7)=some (D5,[.t 4],25,true):=by kernel_rfl
theorem zC (n:Int) (l:List Bool) (h1:1≤n) (h2:n≤6) (hl:(l.length:Int)=n*n):aj ctx 151 [.int .i64 n,bF l] (.bool true):=by
 have hsq:=n3 h1 h2;have f3:=eT l;refine af (C:=ctx) (Fn.of Io rfl) rfl ?_;unfold Hr;repeat' (first|((with_reducible show aG _);exact True.intro)|((with_reducible show aM _);first|exact True.intro|((try dsimp only[go_sem]);(simp[vb,hl,h1,h2]<;>omega)))|exact(rfl:some _=_)|((fail_if_success refine aT ?_);refine br [ξ 18 (.bool true)] ?_;(repeat1' dsimp only[Hr,bF,go_sem]);first|refine aU ?_ ?_ rfl ?_|apply aV|apply aW|(refine aX (fun hc=>?_) fun hc=>?_<;>first|(cases hc;done)|(try simp only[bn]at hc;try contradiction))|skip))
theorem D6 (l:List Int) (v:Int) (hl:l.length≤1000000000):aj ctx 152 [an l,.int .i64 v] (.bool (decide (v∈l))):=by
 have f1:=dj l;generalize hq:decide (v∈l)=q;refine af (C:=ctx) (Fn.of Ip rfl) rfl ?_;unfold c152;repeat' (first|((with_reducible first|show aG _|show aM _);simp[vb]<;>omega)|exact(rfl:some _=_)|((fail_if_success refine aT ?_);refine aZ ?_;(repeat1' dsimp only[c152,an,go_sem]);first|refine aU ?_ ?_ rfl ?_|apply aV|apply aW|(refine aX (fun hc=>?_) fun hc=>?_<;>first|(cases hc;done)|(exfalso;simp at hc<;>omega)|(try simp only[bn]at hc;try contradiction))|skip))
 refine bg l.length (fun k=>decide (v∈l.drop k)=q) (fun k=>[(0,.pv (an l)),(1,.pv (.int .i64 v)),(5,.pv (.int .i64 k))]) (fun _=>[]) (by simpa using hq) (by (repeat' (first|exact trivial|refine And.intro (by first|rfl|(simp[get,Nat.beq]<;>omega)|(dsimp only[get];congr 1<;>first|rfl|omega|(simp<;>omega))) ?_))) ⟨_,rfl⟩ (fun _=>⟨Nat.zero_le _,rfl,rfl⟩) fun k hk hP=>?_
 by_cases hlt:k<l.length
 ·have e:=iv (g:=bO) (fun _=>rfl) l k 0 default hlt;rw[da l k 0 hlt]at hP;generalize l.getD k 0=x at *;by_cases hx:x=v
  ·subst hx;simp at hP;subst hP;repeat' (first|((with_reducible show aG _);first|exact True.intro|(simp only[vb,lb,e,f1,hlt];and_intros<;>first|omega|(simp<;>omega)))|((with_reducible show aM _);first|exact True.intro|((try dsimp only[go_sem]);(simp only[vb,and_true,true_implies];(repeat' (first|(with_reducible assumption)|(with_reducible apply And.intro)|intro _|((fail_if_success (with_reducible show(_:Int)≤_));assumption)))<;>(simp only[ab,e,f1,hlt];done))))|exact(rfl:some _=_)|((fail_if_success refine aT ?_);refine br [ξ 15 (.int .i64 x)] ?_;(repeat1' dsimp only[c152,an,go_sem]);first|refine aU ?_ ?_ rfl ?_|apply aV|apply aW|(refine aX (fun hc=>?_) fun hc=>?_<;>first|(cases hc;done)|(exfalso;(simp at hc<;>omega))|(try simp only[bn]at hc;try contradiction))|skip))
  ·have hP:decide (v∈l.drop (k+1))=q:=by
    rw[←hP];have:v≠x:=fun h=>hx h.symm
    simp[this]
   repeat' (first|((with_reducible show aG _);first|exact True.intro|(simp only[vb,lb,e,f1,hlt,hx];and_intros<;>first|omega|(simp<;>omega)))|((with_reducible show aM _);first|exact True.intro|((try dsimp only[go_sem]);(simp only[vb,and_true,true_implies];(repeat' (first|(with_reducible assumption)|(with_reducible apply And.intro)|intro _|((fail_if_success (with_reducible show(_:Int)≤_));assumption)))<;>(simp only[ab,e,f1,hlt,hx];done))))|exact(rfl:some _=_)|((fail_if_success refine aT ?_);refine br [ξ 15 (.int .i64 x)] ?_;(repeat1' dsimp only[c152,an,go_sem]);first|refine aU ?_ ?_ rfl ?_|apply aV|apply aW|(refine aX (fun hc=>?_) fun hc=>?_<;>first|(cases hc;done)|(exfalso;(simp at hc<;>omega))|(try simp only[bn]at hc;try contradiction))|skip))
   exact⟨hlt,hP,by (repeat' (first|exact trivial|refine And.intro (by first|rfl|(simp[get,Nat.beq]<;>omega)|(dsimp only[get];congr 1<;>first|rfl|omega|(simp<;>omega))) ?_)),_,rfl⟩
 ·obtain rfl:k=l.length:=by omega
  simp at hP;subst hP;repeat' (first|((with_reducible first|show aG _|show aM _);simp[vb,hlt]<;>omega)|exact(rfl:some _=_)|((fail_if_success refine aT ?_);refine aZ ?_;(repeat1' dsimp only[c152,an,go_sem]);first|refine aU ?_ ?_ rfl ?_|apply aV|apply aW|(refine aX (fun hc=>?_) fun hc=>?_<;>first|(cases hc;done)|(exfalso;simp[hlt]at hc<;>omega)|(try simp only[bn]at hc;try contradiction))|skip))
theorem B4 (l:List Int) (v:Int) (hl:l.length≤1000000000):aj ctx 153 [an l,.int .i64 v] (an (l++[v])):=by
 have f1:=dj l;refine af (C:=ctx) (Fn.of Iq rfl) rfl ?_;unfold D5;repeat' (first|((with_reducible first|show aG _|show aM _);simp[vb]<;>omega)|exact(rfl:some _=_)|((fail_if_success refine aT ?_);refine aZ ?_;(repeat1' dsimp only[D5,an,go_sem]);first|refine aU ?_ ?_ rfl ?_|apply aV|apply aW|(refine aX (fun hc=>?_) fun hc=>?_<;>first|(cases hc;done)|(exfalso;simp at hc<;>omega)|(try simp only[bn]at hc;try contradiction))|skip))
 refine bg l.length (fun _=>True) (fun k=>[(0,.pv (an l)),(1,.pv (.int .i64 v)),(5,.ref 0 k 0 k),(6,.pv (.int .i64 k))]) (fun k=>[⟨((l.take k).flatMap bO).map .pv,k,1,3,false⟩]) trivial (by (repeat' (first|exact trivial|refine And.intro (by first|rfl|(simp[get,Nat.beq]<;>omega)|(dsimp only[get];congr 1<;>first|rfl|omega|(simp<;>omega))) ?_))) ⟨[],rfl⟩ (fun _=>⟨Nat.zero_le _,rfl,by simp[aP,ck]⟩) fun k hk _=>?_
 by_cases hlt:k<l.length
 ·have e:=iv (g:=bO) (fun _=>rfl) l k 0 default hlt;have hs:=aJ l k 0 hlt;have e7:=dj (l.take k);have hll:(l.take k).length=k:=by rw[List.length_take];omega
  rw[hll]at e7;rw[hs];clear hs;generalize l.getD k 0=x at *;generalize l.take k=w at *;repeat' (first|((with_reducible show aG _);first|exact True.intro|(simp only[vb,lb,e,e7,f1,hlt];and_intros<;>first|omega|(simp<;>omega)))|((with_reducible show aM _);first|exact True.intro|((try dsimp only[go_sem]);(simp only[vb,and_true,true_implies];(repeat' (first|(with_reducible assumption)|(with_reducible apply And.intro)|intro _|((fail_if_success (with_reducible show(_:Int)≤_));assumption)))<;>(simp only[ab,e,e7,f1,hlt];done))))|exact(rfl:some _=_)|((fail_if_success refine aT ?_);refine br [ξ 18 (.int .i64 x),(20,{mode:=1})] ?_;(repeat1' dsimp only[D5,an,go_sem]);first|refine aU ?_ ?_ rfl ?_|apply aV|apply aW|(refine aX (fun hc=>?_) fun hc=>?_<;>first|(cases hc;done)|(exfalso;(simp at hc<;>omega))|(try simp only[bn]at hc;try contradiction))|skip))
  exact⟨hlt,trivial,by (repeat' (first|exact trivial|refine And.intro (by first|rfl|(simp[get,Nat.beq]<;>omega)|(dsimp only[get];congr 1<;>first|rfl|omega|(simp<;>omega))) ?_)),[],by simp[List.flatMap_append,bO]⟩
 ·obtain rfl:k=l.length:=by omega
  have ht:l.take l.length=l:=List.take_of_length_le (by omega);simp only[ht];have f3:=dj (l++[v]);repeat' (first|((with_reducible show aG _);first|exact True.intro|(simp only[vb,lb,hlt,f1];and_intros<;>first|omega|(simp<;>omega)))|((with_reducible show aM _);exact True.intro)|exact(rfl:some _=_)|((fail_if_success refine aT ?_);refine br [(24,{mode:=1})] ?_;(repeat1' dsimp only[D5,an,go_sem]);first|refine aU ?_ ?_ rfl ?_|apply aV|apply aW|(refine aX (fun hc=>?_) fun hc=>?_<;>first|(cases hc;done)|(exfalso;(simp at hc<;>omega))|(try simp only[bn]at hc;try contradiction))|skip))
  rw[show List.map AV.pv (List.flatMap bO l)++[AV.pv (PV.int IntKind.i64 v)]=((l++[v]).flatMap bO).map AV.pv by simp[List.flatMap_append,bO],show l.length+1=(l++[v]).length by simp];exact o0 rfl rfl rfl (by rw[List.drop_zero,List.take_of_length_le (by simp only[List.length_map];omega)]) (by simp only[List.length_map];omega)
end
end Pur
end
section
namespace Rf
def kW (u n:Nat) (e:Nat→Nat→Bool) (p:List Nat):List (List Nat):=((List.range u).filter fun u=>e (c8 p) u&& !decide (u∈p)).map fun u=>p++[u]
theorem zD (u n:Nat) (e:Nat→Nat→Bool) (p:List Nat):kW (u+1) n e p=kW u n e p++if (e (c8 p) u&& !decide (u∈p))=true then [p++[u]] else []:=by
 simp only[kW,List.range_succ,List.filter_append,List.map_append];congr 1;by_cases h:(e (c8 p) u&& !decide (u∈p))=true<;>simp[List.filter,h]
theorem uJ (u n:Nat) (e:Nat→Nat→Bool) (p:List Nat):(kW u n e p).length≤u:=by
 rw[kW,List.length_map];have:=List.length_filter_le (fun u=>e (c8 p) u&& !decide (u∈p)) (List.range u);simpa using this
theorem D7 (n:Nat) (e:Nat→Nat→Bool) (p:List Nat):(Dk n e p).length≤n:=uJ n n e p
theorem nT (n:Nat) (e:Nat→Nat→Bool):∀(ps:List (List Nat)),(fP n e ps).length≤ps.length*n
 |[]=>by simp[fP]
 |p::r=>by
  have h1:=nT n e r;have h2:=D7 n e p;simp only[fP,List.flatMap_cons,List.length_append,List.length_cons]at h1 ⊢;rw[Nat.add_mul];omega
theorem AG {n:Nat} (e:Nat→Nat→Bool) (a:Nat) (hn:n≤6):∀(k:Nat),(lvl n e a k).length≤6 ^ k
 |0=>by simp[lvl]
 |k+1=>by
  have h1:=AG e a hn k;have h2:=nT n e (lvl n e a k);rw[lvl,Nat.pow_succ];exact Nat.le_trans h2 (Nat.mul_le_mul h1 hn)
end Rf
namespace Pur
open Go.RowKit
open Rf
abbrev lH (p:List Nat):PV:=.sl p.length ((p.map Int.ofNat).flatMap bO)
def vJ (p:List Nat):List PV:=[lH p]
abbrev AH (ps:List (List Nat)):PV:=.sl ps.length (ps.flatMap vJ)
def th:Option (List Nat)→PV
 |some p=>lH p
 |none=>.nilsl
theorem ti (ps:List (List Nat)):(ps.flatMap vJ).length=ps.length*1:=by
 induction ps with
 |nil=>rfl
 |cons p r ih=>simp only[List.flatMap_cons,List.length_append,List.length_cons,ih,vJ,List.length_nil];omega
def c131:ay:=(⟨_,by conv=>(lhs;reduce;try simp only[cJ,Int.cast_ofNat_Int,Int.reduceNegSucc,UInt8.reduceOfNat])⟩:{x // codeOf Tryz.prog 131 (fun d=>Nat.beq d 45)=some x}).1
theorem Ir:bp Tryz.prog 131 (fun d=>Nat.beq d 45)=some (c131,[.t 8],103,true):=by kernel_rfl
theorem B5 (n:Nat) (es:List Bool) (a v:Nat) (h1:1≤n) (h2:n≤6) (he:es.length=n*n) (ha:a<n) (hv:v<n):aj ctx 131 [.int .i64 n,bF es,.int .i64 a,.int .i64 v] (th (jC n (bL n es) v n [[a]])):=by
 have hV:=zC n es (by omega) (by omega) (by rw[he];simp);have f1:=eT es;generalize hq:jC n (bL n es) v n [[a]]=q;refine af (C:=ctx) (Fn.of Ir rfl) rfl ?_;unfold c131;repeat' (first|((with_reducible show aG _);exact True.intro)|((with_reducible show aM _);first|exact True.intro|((try dsimp only[go_sem]);(simp only[vb,and_true,true_implies];(repeat' (first|(with_reducible assumption)|(with_reducible apply And.intro)|intro _|((fail_if_success (with_reducible show(_:Int)≤_));assumption)))<;>first|rfl|(simp only[ab,hV,h1,ha,hv];done)|(simp[Nat.mul_one,hV,h1,ha,hv]<;>omega))))|exact(rfl:some _=_)|((fail_if_success refine aT ?_);refine fu [(151,fun _=>some (.bool true))] ?_;(repeat1' dsimp only[c131,bF,go_sem]);first|refine aU ?_ ?_ rfl ?_|apply aV|apply aW|(refine aX (fun hc=>?_) fun hc=>?_<;>first|(cases hc;done)|(exfalso;(simp at hc<;>omega))|(try simp only[bn]at hc;try contradiction))|skip))
 refine bg n (fun k=>jC n (bL n es) v (n-k) (lvl n (bL n es) a k)=q) (fun k=>[(0,.pv (.int .i64 n)),(1,.pv (bF es)),(3,.pv (.int .i64 v)),(9,.pv (AH (lvl n (bL n es) a k))),(10,.pv (.int .i64 k))]) (fun _=>[]) hq (by (repeat' (first|exact trivial|refine And.intro (by first|rfl|(simp[get,Nat.beq,lvl,vJ]<;>omega)|(dsimp only[get];congr 1<;>first|rfl|omega|(simp<;>omega))) ?_))) ⟨_,rfl⟩ (fun _=>⟨Nat.zero_le _,rfl,rfl⟩) fun k hk hP=>?_
 by_cases hlt:k<n
 ·obtain⟨g,hg⟩:∃g,n-k=g+1:=⟨n-k-1,by omega⟩
  rw[hg,jC]at hP;have hll:=AG (bL n es) a h2 k;have h6:(6:Nat) ^ k≤6 ^ 6:=Nat.pow_le_pow_right (by omega) (by omega);have hsp:∀p∈lvl n (bL n es) a k,0<p.length∧p.length≤n∧∀x∈p,x<n:=fun p hp=>by
   have s1:=za k p hp;have s2:=xr ha s1;exact⟨(Dl s1).1,zb n p s2.1 s2.2,s2.2⟩
  have hnx:lvl n (bL n es) a (k+1)=fP n (bL n es) (lvl n (bL n es) a k):=rfl;rw[hnx];generalize lvl n (bL n es) a k=ps at *;have f2:=ti ps;repeat' (first|((with_reducible show aG _);exact True.intro)|((with_reducible show aM _);exact True.intro)|exact(rfl:some _=_)|((fail_if_success refine aT ?_);refine aZ ?_;(repeat1' dsimp only[c131,bF,go_sem]);first|refine aU ?_ ?_ rfl ?_|apply aV|apply aW|(refine aX (fun hc=>?_) fun hc=>?_<;>first|(cases hc;done)|(exfalso;(simp at hc<;>omega))|(try simp only[bn]at hc;try contradiction))|skip))
  refine bg ps.length (fun i=>(match (ps.drop i).find? (fun p=>decide (c8 p=v)) with|some p=>some p|none=>jC n (bL n es) v g (fP n (bL n es) ps))=q) (fun i=>[(0,.pv (.int .i64 n)),(1,.pv (bF es)),(3,.pv (.int .i64 v)),(9,.pv (AH ps)),(10,.pv (.int .i64 k)),(11,.ref 0 (fP n (bL n es) (ps.take i)).length 0 (fP n (bL n es) (ps.take i)).length),(12,.pv (.int .i64 i))]) (fun i=>[⟨((fP n (bL n es) (ps.take i)).flatMap vJ).map .pv,(fP n (bL n es) (ps.take i)).length,1,49,false⟩]) hP (by (repeat' (first|exact trivial|refine And.intro (by first|rfl|(simp[get,Nat.beq,fP]<;>omega)|(dsimp only[get];congr 1<;>first|rfl|omega|(simp<;>omega))) ?_))) ⟨[],rfl⟩ (fun _=>⟨Nat.zero_le _,rfl,by simp[aP,ck]⟩) fun i hi hQ=>?_
  by_cases hli:i<ps.length
  ·have hm:=hsp _ (aO (d:=[]) hli);have e:=iv (g:=vJ) (f:=lH) (fun _=>rfl) ps i [] default hli;have hm0:=hm.1;rw[da ps i [] hli,List.find?_cons]at hQ;have hs:=aJ ps i [] hli;generalize ps.getD i []=p at *;have e3:=iv (g:=bO) (fun _=>rfl) (p.map Int.ofNat) (p.length-1) 0 default (by simp;omega);have e4:(p.map Int.ofNat).getD (p.length-1) 0=(c8 p:Nat):=by
    rw[c8,List.getLastD_eq_getLast?,List.getLast?_eq_getElem?,List.getD,List.getElem?_map];rw[List.getElem?_eq_getElem (show p.length-1<p.length by omega)];rfl
   rw[e4]at e3;clear e4;have f4:=dj (p.map Int.ofNat);rw[List.length_map]at f4;have hlast:c8 p<n:=by
    rw[c8,List.getLastD_eq_getLast?,List.getLast?_eq_getElem?,List.getElem?_eq_getElem (show p.length-1<p.length by omega)];exact hm.2.2 _ (List.getElem_mem _)
   by_cases hl:c8 p=v
   ·simp only[hl,decide_true]at hQ;subst hQ;repeat' (first|((with_reducible show aG _);first|exact True.intro|(simp only[vb,lb,e,e3,f2,f4,hli,hm0,hl];and_intros<;>first|omega|(simp<;>omega)))|((with_reducible show aM _);first|exact True.intro|((try dsimp only[go_sem]);first|(simp[vb,e,e3,f2,f4,hli,hm0,hl]<;>omega)|(simp only[vb,and_true,true_implies];(repeat' (first|(with_reducible assumption)|(with_reducible apply And.intro)|intro _|((fail_if_success (with_reducible show(_:Int)≤_));assumption)))<;>first|(simp only[ab,e,e3,f2,f4,hli,hm0,hl];done)|(simp[Nat.mul_one,e,e3,f2,f4,hli,hm0,hl]<;>omega))))|exact(rfl:some _=_)|((fail_if_success refine aT ?_);refine br [ξ 55 (lH p),ξ 59 (lH p),ξ 63 (.int .i64 (c8 p:Nat)),ξ 66 (.bool true),ξ 70 (lH p)] ?_;(repeat1' dsimp only[c131,bF,go_sem]);first|refine aU ?_ ?_ rfl ?_|apply aV|apply aW|(refine aX (fun hc=>?_) fun hc=>?_<;>first|(cases hc;done)|(exfalso;(simp at hc<;>omega))|(try simp only[bn]at hc;try contradiction))|skip))
   ·simp only[hl,decide_false]at hQ;have hl':¬((c8 p:Nat):Int)=(v:Nat):=by omega
    have hwi:∀u:Nat,aj ctx 153 [lH p,.int .i64 u] (lH (p++[u])):=fun u=>by
     have:=B4 (p.map Int.ofNat) u (by simp;omega);simpa [an,lH]using this
    have hha:∀u:Nat,aj ctx 152 [lH p,.int .i64 u] (.bool (decide (u∈p))):=fun u=>by
     have:=D6 (p.map Int.ofNat) u (by simp;omega);have hd:((u:Int)∈p.map Int.ofNat)↔u∈p:=⟨fun h=>by
      obtain⟨x,hx,e⟩:=List.mem_map.mp h;have:x=u:=Int.ofNat.inj e;subst this;exact hx,fun h=>List.mem_map.mpr ⟨u,h,rfl⟩⟩
     rw[decide_eq_decide.mpr hd]at this;simpa only[an,lH,List.length_map]using this
    have hnl:=nT n (bL n es) (ps.take i);rw[List.length_take]at hnl;have hn6:min i ps.length*n≤6 ^ 6*6:=Nat.mul_le_mul (by omega) h2;have hnn:fP n (bL n es) (ps.take (i+1))=fP n (bL n es) (ps.take i)++kW n n (bL n es) p:=by
     rw[hs,fP,List.flatMap_append];simp[fP,Dk,kW]
    rw[hnn];generalize fP n (bL n es) (ps.take i)=ns at *;repeat' (first|((with_reducible show aG _);first|exact True.intro|(simp only[vb,lb,e,e3,f2,f4,hli,hm0,hl,hl'];and_intros<;>first|omega|(simp<;>omega)))|((with_reducible show aM _);first|exact True.intro|((try dsimp only[go_sem]);first|(simp[vb,e,e3,f2,f4,hli,hm0,hl,hl']<;>omega)|(simp only[vb,and_true,true_implies];(repeat' (first|(with_reducible assumption)|(with_reducible apply And.intro)|intro _|((fail_if_success (with_reducible show(_:Int)≤_));assumption)))<;>first|(simp only[ab,e,e3,f2,f4,hli,hm0,hl,hl'];done)|(simp[Nat.mul_one,e,e3,f2,f4,hli,hm0,hl,hl']<;>omega))))|exact(rfl:some _=_)|((fail_if_success refine aT ?_);refine br [ξ 55 (lH p),ξ 59 (lH p),ξ 63 (.int .i64 (c8 p:Nat)),ξ 66 (.bool false)] ?_;(repeat1' dsimp only[c131,bF,go_sem]);first|refine aU ?_ ?_ rfl ?_|apply aV|apply aW|(refine aX (fun hc=>?_) fun hc=>?_<;>first|(cases hc;done)|(exfalso;(simp at hc<;>omega))|(try simp only[bn]at hc;try contradiction))|skip))
    refine bg n (fun _=>True) (fun u=>[(0,.pv (.int .i64 n)),(1,.pv (bF es)),(3,.pv (.int .i64 v)),(9,.pv (AH ps)),(10,.pv (.int .i64 k)),(11,.ref 0 (ns++kW u n (bL n es) p).length 0 (ns++kW u n (bL n es) p).length),(12,.pv (.int .i64 i)),(13,.pv (.int .i64 (c8 p:Nat))),(14,.pv (.int .i64 u))]) (fun u=>[⟨((ns++kW u n (bL n es) p).flatMap vJ).map .pv,(ns++kW u n (bL n es) p).length,1,49,false⟩]) trivial (by (repeat' (first|exact trivial|refine And.intro (by first|rfl|(simp[get,Nat.beq,kW]<;>omega)|(dsimp only[get];congr 1<;>first|rfl|omega|(simp<;>omega))) ?_))) ⟨[],by simp[kW]⟩ (fun _=>⟨Nat.zero_le _,rfl,by simp[aP,ck]⟩) fun u hu _=>?_
    by_cases hlu:u<n
    ·have hgl:=uJ u n (bL n es) p;have hsq:n*n≤36:=Nat.mul_le_mul h2 h2;have hlt2:c8 p*n+u<n*n:=by
      have:=Nat.mul_le_mul_right n (show c8 p+1≤n by omega);rw[Nat.add_mul]at this;omega
     have e5:=iv (g:=dG) (f:=PV.bool) (fun _=>rfl) es (c8 p*n+u) false default (by omega);have e7:((c8 p:Nat):Int)*(n:Int)=((c8 p*n:Nat):Int):=by simp
     have hgs:=zD u n (bL n es) p;rw[show bL n es (c8 p) u=es.getD (c8 p*n+u) false from rfl]at hgs;rw[hgs];clear hgs;have hw:=hwi u;have hh:=hha u;clear hwi hha hsp hm;generalize kW u n (bL n es) p=gs at *;generalize es.getD (c8 p*n+u) false=eb at *;generalize n*n=nn at *;generalize c8 p*n=ln at *;have e6:((ln:Nat):Int)+(u:Int)=((ln+u:Nat):Int):=by simp
     have f5:=ti (ns++gs);have hlt3:ln+u<es.length:=by omega
     cases eb with
     |false =>
      simp only[Bool.false_and,Bool.false_eq_true,if_false,List.append_nil];generalize hdp:decide (u∈p)=dp at hh;repeat' (first|((with_reducible show aG _);first|exact True.intro|(simp only[vb,lb,e,e5,e7,f1,f2,hlu,hli,hlt3,hh];and_intros<;>first|omega|(simp<;>omega)))|((with_reducible show aM _);first|exact True.intro|((try dsimp only[go_sem]);(simp only[vb,and_true,true_implies];(repeat' (first|(with_reducible assumption)|(with_reducible apply And.intro)|intro _|((fail_if_success (with_reducible show(_:Int)≤_));assumption)))<;>first|omega|rfl|(simp only[ab,e,e5,e7,f1,f2,hlu,hli,hlt3,hh];done))))|exact(rfl:some _=_)|((fail_if_success refine aT ?_);refine bX [(152,fun _=>some (.bool dp))] [ξ 79 (.int .i64 (ln:Nat)),ξ 81 (.int .i64 (ln+u:Nat)),ξ 83 (.bool false),ξ 88 (lH p),ξ 92 (.bool false)] ?_;(repeat1' dsimp only[c131,bF,go_sem]);first|refine aU ?_ ?_ rfl ?_|apply aV|apply aW|(refine aX (fun hc=>?_) fun hc=>?_<;>first|(cases hc;done)|(exfalso;(simp at hc<;>omega))|(try simp only[bn]at hc;try contradiction))|skip))
      exact⟨hlu,trivial,by (repeat' (first|exact trivial|refine And.intro (by first|rfl|(simp[get,Nat.beq]<;>omega)|(dsimp only[get];congr 1<;>first|rfl|omega|(simp<;>omega))) ?_)),[],by simp⟩
     |true =>
      by_cases hup:u∈p
      ·simp only[hup,decide_true,Bool.not_true,Bool.and_false,Bool.false_eq_true,if_false,List.append_nil];simp only[hup,decide_true]at hh;repeat' (first|((with_reducible show aG _);first|exact True.intro|(simp only[vb,lb,e,e5,e7,f1,f2,hlu,hli,hlt3,hh];and_intros<;>first|omega|(simp<;>omega)))|((with_reducible show aM _);first|exact True.intro|((try dsimp only[go_sem]);(simp only[vb,and_true,true_implies];(repeat' (first|(with_reducible assumption)|(with_reducible apply And.intro)|intro _|((fail_if_success (with_reducible show(_:Int)≤_));assumption)))<;>first|omega|rfl|(simp only[ab,e,e5,e7,f1,f2,hlu,hli,hlt3,hh];done))))|exact(rfl:some _=_)|((fail_if_success refine aT ?_);refine bX [(152,fun _=>some (.bool true))] [ξ 79 (.int .i64 (ln:Nat)),ξ 81 (.int .i64 (ln+u:Nat)),ξ 83 (.bool true),ξ 88 (lH p),ξ 92 (.bool false)] ?_;(repeat1' dsimp only[c131,bF,go_sem]);first|refine aU ?_ ?_ rfl ?_|apply aV|apply aW|(refine aX (fun hc=>?_) fun hc=>?_<;>first|(cases hc;done)|(exfalso;(simp at hc<;>omega))|(try simp only[bn]at hc;try contradiction))|skip))
       exact⟨hlu,trivial,by (repeat' (first|exact trivial|refine And.intro (by first|rfl|(simp[get,Nat.beq]<;>omega)|(dsimp only[get];congr 1<;>first|rfl|omega|(simp<;>omega))) ?_)),[],by simp⟩
      ·simp only[hup,decide_false,Bool.not_false,Bool.and_true,if_true];simp only[hup,decide_false]at hh;repeat' (first|((with_reducible show aG _);first|exact True.intro|(simp only[vb,lb,e,e5,e7,f1,f2,f5,hlu,hli,hlt3,hh,hw];and_intros<;>first|omega|(simp<;>omega)))|((with_reducible show aM _);first|exact True.intro|((try dsimp only[go_sem]);(simp only[vb,and_true,true_implies];(repeat' (first|(with_reducible assumption)|(with_reducible apply And.intro)|intro _|((fail_if_success (with_reducible show(_:Int)≤_));assumption)))<;>first|omega|rfl|(simp only[ab,e,e5,e7,f1,f2,f5,hlu,hli,hlt3,hh,hw];done))))|exact(rfl:some _=_)|((fail_if_success refine aT ?_);refine bX [(152,fun _=>some (.bool false)),(153,fun _=>some (lH (p++[u])))] [ξ 79 (.int .i64 (ln:Nat)),ξ 81 (.int .i64 (ln+u:Nat)),ξ 83 (.bool true),ξ 88 (lH p),ξ 92 (.bool true),ξ 97 (lH p),(101,{mode:=1})] ?_;(repeat1' dsimp only[c131,bF,go_sem]);first|refine aU ?_ ?_ rfl ?_|apply aV|apply aW|(refine aX (fun hc=>?_) fun hc=>?_<;>first|(cases hc;done)|(exfalso;(simp at hc<;>omega))|(try simp only[bn]at hc;try contradiction))|skip))
       exact⟨hlu,trivial,by (rw[←List.append_assoc];(repeat' (first|exact trivial|refine And.intro (by first|rfl|(simp[get,Nat.beq]<;>omega)|(dsimp only[get];congr 1<;>first|rfl|omega|(simp<;>omega))) ?_)));all_goals omega,[],by simp[vJ,Nat.add_assoc]⟩
    ·obtain rfl:u=n:=by omega
     repeat' (first|((with_reducible show aG _);first|exact True.intro|(simp only[vb,lb,hlu];and_intros<;>first|omega|(simp<;>omega)))|((with_reducible show aM _);exact True.intro)|exact(rfl:some _=_)|((fail_if_success refine aT ?_);refine aZ ?_;(repeat1' dsimp only[c131,bF,go_sem]);first|refine aU ?_ ?_ rfl ?_|apply aV|apply aW|(refine aX (fun hc=>?_) fun hc=>?_<;>first|(cases hc;done)|(exfalso;(simp at hc<;>omega))|(try simp only[bn]at hc;try contradiction))|skip))
     exact⟨hli,hQ,by (repeat' (first|exact trivial|refine And.intro (by first|rfl|(simp[get,Nat.beq]<;>omega)|(dsimp only[get];congr 1<;>first|rfl|omega|(simp<;>omega))) ?_)),[],rfl⟩
  ·obtain rfl:i=ps.length:=by omega
   rw[List.drop_length]at hQ;simp only[List.find?_nil]at hQ;have hnl:=nT n (bL n es) ps;have hn6:ps.length*n≤6 ^ 6*6:=Nat.mul_le_mul (Nat.le_trans hll h6) h2;have f3:=ti (fP n (bL n es) ps);simp only[List.take_length];generalize fP n (bL n es) ps=ns at *
   refine bz [(11,.ref 0 ns.length 0 ns.length),(0,.pv (.int .i64 n)),(1,.pv (bF es)),(3,.pv (.int .i64 v)),(9,.pv (AH ps)),(10,.pv (.int .i64 k)),(12,.pv (.int .i64 ps.length))] (by (repeat' (first|exact trivial|refine And.intro (by first|rfl|(simp[get,Nat.beq]<;>omega)|(dsimp only[get];congr 1<;>first|rfl|omega|(simp<;>omega))) ?_))) ?_;refine(ma (μ:=[]) (ps:=ns.flatMap vJ) (n:=ns.length) (g:=ns.length) (t:=11) (sz:=1) rfl (Nat.zero_le _) (by omega) f3 (fun _=>rfl) rfl ?_);repeat' (first|((with_reducible show aG _);first|exact True.intro|(simp only[vb,lb,hli,hlt];and_intros<;>first|omega|(simp<;>omega)))|((with_reducible show aM _);exact True.intro)|exact(rfl:some _=_)|((fail_if_success refine aT ?_);refine aZ ?_;(repeat1' dsimp only[c131,bF,go_sem]);first|refine aU ?_ ?_ rfl ?_|apply aV|apply aW|(refine aX (fun hc=>?_) fun hc=>?_<;>first|(cases hc;done)|(exfalso;(simp at hc<;>omega))|(try simp only[bn]at hc;try contradiction))|skip))
   exact⟨hlt,by rw[show n-(k+1)=g by omega];exact hQ,by (repeat' (first|exact trivial|refine And.intro (by first|rfl|(simp[get,Nat.beq]<;>omega)|(dsimp only[get];congr 1<;>first|rfl|omega|(simp<;>omega))) ?_)),[],rfl⟩
 ·obtain rfl:k=n:=by omega
  rw[Nat.sub_self,jC]at hP;subst hP;repeat' (first|((with_reducible first|show aG _|show aM _);simp[vb,hlt]<;>omega)|exact(rfl:some _=_)|((fail_if_success refine aT ?_);refine aZ ?_;(repeat1' dsimp only[c131,bF,go_sem]);first|refine aU ?_ ?_ rfl ?_|apply aV|apply aW|(refine aX (fun hc=>?_) fun hc=>?_<;>first|(cases hc;done)|(exfalso;simp[hlt]at hc<;>omega)|(try simp only[bn]at hc;try contradiction))|skip))
end Pur
end
section
namespace Rf
theorem uK {n:Nat} {e:Nat→Nat→Bool} {v:Nat} {p:List Nat}:∀(f:Nat) (ps:List (List Nat)),(∀q∈ps,0<q.length)→jC n e v f ps=some p→0<p.length
 |0,_,_,h=>by simp[jC]at h
 |f+1,ps,hq,h=>by
  rw[jC]at h;split at h
  ·rename_i x hx;injection h with h
   subst h;exact hq _ (List.mem_of_find?_eq_some hx)
  ·refine uK f _ (fun q hm=>?_) h;rw[fP,List.mem_flatMap]at hm;obtain⟨r,-,hr⟩:=hm;obtain⟨u,-,-,-,rfl⟩:=sI.mp hr;simp
end Rf
namespace Pur
open Go.RowKit
open Rf
def tj:ay:=(⟨_,by conv=>(lhs;reduce;try simp only[cJ,Int.cast_ofNat_Int,Int.reduceNegSucc,UInt8.reduceOfNat])⟩:{x // codeOf Tryz.prog 110 (fun _=>false)=some x}).1
theorem xS:bp Tryz.prog 110 (fun _=>false)=some (tj,[.cell 6 2 true],61,true):=by kernel_rfl
theorem D8 (b : List Rg) (g : Gr) (k : Nat) (hg : bH b.length g = true) (hbx : cz b = true) (hk : k < g.least.length) : aj ctx 110 [.agg [.int .i64 g.first, .int .i64 g.size, an g.least], ai b, .int .i64 k] (.agg [.int .i64 (tG g b k).lo, .int .i64 (tG g b k).hi]) := by
  have hb : b.length ≤ 128 := by
    simp only [cz, Bool.and_eq_true, decide_eq_true_eq] at hbx
    exact hbx.2
  have hpr := zB b g hg (by omega)
  simp only [bH, aL, Bool.and_eq_true, decide_eq_true_eq] at hg
  obtain ⟨⟨⟨⟨⟨g1, g2⟩, g3⟩, g4⟩, g5⟩, g6⟩ := hg
  have hsq := n3 g1 g2
  obtain ⟨n, hn⟩ : ∃ n : Nat, g.size = n := ⟨g.size.toNat, by omega⟩
  obtain ⟨fi, hfi⟩ : ∃ fi : Nat, g.first = fi := ⟨g.first.toNat, by omega⟩
  have hlen : g.least.length = n * n := by rw [hn] at g5; have : (n : Int) * n = ((n * n : Nat) : Int) := by simp
                                           omega
  have hpl := mo g b
  have hn1 : 0 < n := by omega
  have hd1 : k % n < n := Nat.mod_lt _ hn1
  have hd2 : k / n < n := by rw [Nat.div_lt_iff_lt_mul hn1]; omega
  have hpa := B5 n (di g b) (k % n) (k / n) (by omega) (by omega) (by omega) hd1 hd2
  have hcl : jm g b k = true ↔ (jC n (bL n (di g b)) (k / n) n [[k % n]]).isSome = true := by
    unfold jm
    rw [hn, sY, qD hd1]
    rfl
  have hpos : ∀ p, jC n (bL n (di g b)) (k / n) n [[k % n]] = some p → 0 < p.length := fun p => uK n _ (by simp)
  have hle : -4000000 ≤ g.least.getD k 0 ∧ g.least.getD k 0 ≤ 4000000 := by
    have := List.all_eq_true.mp g6 _ (aO (d := 0) hk)
    simpa only [eO, aL, Bool.and_eq_true, decide_eq_true_eq] using this
  have hx := kV (gC hbx (fi + k))
  have hself : k / n = k % n → jm g b k = true := fun h => by
    rw [hcl, qD hd1, h]
    exact .here
  have hlt2 : fi + k < b.length := by omega
  have e := kA b ((fi + k : Nat) : Int) (by omega) (by omega)
  have e1 := iv (g := bO) (fun _ => rfl) g.least k 0 default hk
  rw [Int.toNat_natCast] at e
  unfold tG
  rw [show g.first.toNat = fi by omega]
  generalize hrs : jC n (bL n (di g b)) (k / n) n [[k % n]] = res at *
  generalize jm g b k = q at *
  have f1 := dj g.least
  have f2 := bN b
  obtain ⟨_, _, le⟩ := g
  simp only at *
  subst hn hfi
  generalize di ⟨fi, n, le⟩ b = ps at *
  generalize b.getD (fi + k) zr = x at *
  generalize le.getD k 0 = lk at *
  have hz1 : ¬ n = 0 := by omega
  have e6 : ((k : Nat) : Int).tdiv (n : Nat) = ((k / n : Nat) : Int) := by simp [Int.tdiv_eq_ediv]
  have e7 : ((k : Nat) : Int).tmod (n : Nat) = ((k % n : Nat) : Int) := by simp [Int.tmod_eq_emod]
  have e8 : ((k : Nat) : Int) % ((n : Nat) : Int) = ((k % n : Nat) : Int) := by simp
  have e9 : ((k : Nat) : Int) / ((n : Nat) : Int) = ((k / n : Nat) : Int) := by simp
  unfold bF at hpr hpa
  generalize k / n = kd at *
  generalize k % n = km at *
  by_cases hlk : lk ≤ x.hi
  · by_cases hkk : kd = km
    · rw [hself hkk]
      simp only [if_true]
      cases res with
      | none =>
        unfold th at hpa
        refine af (C := ctx) (Fn.of xS rfl) rfl ?_
        unfold tj
        repeat' (first
          | ((with_reducible show aG _); first | exact True.intro | (simp only [vb, lb, e, e1, e6, e7, e8, e9, f1, f2, hz1, hlt2, hk, hpr, hpa, hlk, hkk]; and_intros <;> first | omega | (simp <;> omega)))
          | ((with_reducible show aM _); first | exact True.intro | ((try dsimp only [go_sem]); first | (simp [vb, e, e1, e6, e7, e8, e9, f1, f2, hz1, hlt2, hk, hpr, hpa, hlk, hkk] <;> omega) | (simp only [vb, and_true, true_implies]; (repeat' (first | (with_reducible assumption) | (with_reducible apply And.intro) | intro _ | ((fail_if_success (with_reducible show (_ : Int) ≤ _)); assumption))) <;> first | omega | rfl | (simp only [ab, e, e1, e6, e7, e8, e9, f1, f2, hz1, hlt2, hk, hpr, hpa, hlk, hkk]; done) | (simp [Nat.mul_one, e, e1, e6, e7, e8, e9, f1, f2, hz1, hlt2, hk, hpr, hpa, hlk, hkk] <;> omega) | (simp_all; done))))
          | exact (rfl : some _ = _)
          | (
            fail_if_success refine aT ?_
            refine bX [(132, fun _ => some (.sl ps.length (ps.flatMap dG))), (131, fun _ => some (.nilsl))] [ξ 14 (.int .i64 (fi + k : Nat)), ξ 16 (.agg [.int .i64 x.lo, .int .i64 x.hi]), ξ 20 (.int .i64 kd), ξ 24 (.int .i64 km), ξ 31 (.int .i64 lk), ξ 32 (.bool true), ξ 36 (.bool true), ξ 56 (.int .i64 lk), ξ 49 (.bool true)] ?_
            repeat1' dsimp only [tj, an, ai, go_sem]
            first
            | refine aU ?_ ?_ rfl ?_
            | apply aV
            | apply aW
            | (refine aX (fun hc => ?_) fun hc => ?_ <;> first | (cases hc; done) | (try simp only [bn] at hc; try contradiction))
            | skip))
        rw [ei]
      | some p =>
        unfold th at hpa
        have hp0 := hpos p rfl
        refine af (C := ctx) (Fn.of xS rfl) rfl ?_
        unfold tj
        repeat' (first
          | ((with_reducible show aG _); first | exact True.intro | (simp only [vb, lb, e, e1, e6, e7, e8, e9, f1, f2, hz1, hlt2, hk, hpr, hpa, hlk, hkk, hp0]; and_intros <;> first | omega | (simp <;> omega)))
          | ((with_reducible show aM _); first | exact True.intro | ((try dsimp only [go_sem]); first | (simp [vb, e, e1, e6, e7, e8, e9, f1, f2, hz1, hlt2, hk, hpr, hpa, hlk, hkk, hp0] <;> omega) | (simp only [vb, and_true, true_implies]; (repeat' (first | (with_reducible assumption) | (with_reducible apply And.intro) | intro _ | ((fail_if_success (with_reducible show (_ : Int) ≤ _)); assumption))) <;> first | omega | rfl | (simp only [ab, e, e1, e6, e7, e8, e9, f1, f2, hz1, hlt2, hk, hpr, hpa, hlk, hkk, hp0]; done) | (simp [Nat.mul_one, e, e1, e6, e7, e8, e9, f1, f2, hz1, hlt2, hk, hpr, hpa, hlk, hkk, hp0] <;> omega) | (simp_all; done))))
          | exact (rfl : some _ = _)
          | (
            fail_if_success refine aT ?_
            refine bX [(132, fun _ => some (.sl ps.length (ps.flatMap dG))), (131, fun _ => some (lH p))] [ξ 14 (.int .i64 (fi + k : Nat)), ξ 16 (.agg [.int .i64 x.lo, .int .i64 x.hi]), ξ 20 (.int .i64 kd), ξ 24 (.int .i64 km), ξ 31 (.int .i64 lk), ξ 32 (.bool true), ξ 36 (.bool true), ξ 56 (.int .i64 lk), ξ 49 (.bool true)] ?_
            repeat1' dsimp only [tj, an, ai, go_sem]
            first
            | refine aU ?_ ?_ rfl ?_
            | apply aV
            | apply aW
            | (refine aX (fun hc => ?_) fun hc => ?_ <;> first | (cases hc; done) | (try simp only [bn] at hc; try contradiction))
            | skip))
        rw [ei]
    · have hkk' : ¬((kd : Nat) : Int) = ((km : Nat) : Int) := by omega
      cases res with
      | none =>
        obtain rfl : q = false := by rw [Bool.eq_false_iff]; intro h; rw [hcl] at h; simp at h
        simp only [Bool.false_eq_true, if_false]
        unfold th at hpa
        refine af (C := ctx) (Fn.of xS rfl) rfl ?_
        unfold tj
        repeat' (first
          | ((with_reducible show aG _); first | exact True.intro | (simp only [vb, lb, e, e1, e6, e7, e8, e9, f1, f2, hz1, hlt2, hk, hpr, hpa, hlk, hkk, hkk']; and_intros <;> first | omega | (simp <;> omega)))
          | ((with_reducible show aM _); first | exact True.intro | ((try dsimp only [go_sem]); first | (simp [vb, e, e1, e6, e7, e8, e9, f1, f2, hz1, hlt2, hk, hpr, hpa, hlk, hkk, hkk'] <;> omega) | (simp only [vb, and_true, true_implies]; (repeat' (first | (with_reducible assumption) | (with_reducible apply And.intro) | intro _ | ((fail_if_success (with_reducible show (_ : Int) ≤ _)); assumption))) <;> first | omega | rfl | (simp only [ab, e, e1, e6, e7, e8, e9, f1, f2, hz1, hlt2, hk, hpr, hpa, hlk, hkk, hkk']; done) | (simp [Nat.mul_one, e, e1, e6, e7, e8, e9, f1, f2, hz1, hlt2, hk, hpr, hpa, hlk, hkk, hkk'] <;> omega))))
          | exact (rfl : some _ = _)
          | (
            fail_if_success refine aT ?_
            refine bX [(132, fun _ => some (.sl ps.length (ps.flatMap dG))), (131, fun _ => some (.nilsl))] [ξ 14 (.int .i64 (fi + k : Nat)), ξ 16 (.agg [.int .i64 x.lo, .int .i64 x.hi]), ξ 20 (.int .i64 kd), ξ 24 (.int .i64 km), ξ 31 (.int .i64 lk), ξ 32 (.bool true), ξ 36 (.bool false), ξ 56 (.int .i64 lk), ξ 49 (.bool false)] ?_
            repeat1' dsimp only [tj, an, ai, go_sem]
            first
            | refine aU ?_ ?_ rfl ?_
            | apply aV
            | apply aW
            | (refine aX (fun hc => ?_) fun hc => ?_ <;> first | (cases hc; done) | (try simp only [bn] at hc; try contradiction))
            | skip))
      | some p =>
        obtain rfl : q = true := by rw [hcl]; rfl
        simp only [if_true]
        unfold th at hpa
        have hp0 := hpos p rfl
        refine af (C := ctx) (Fn.of xS rfl) rfl ?_
        unfold tj
        repeat' (first
          | ((with_reducible show aG _); first | exact True.intro | (simp only [vb, lb, e, e1, e6, e7, e8, e9, f1, f2, hz1, hlt2, hk, hpr, hpa, hlk, hkk, hkk', hp0]; and_intros <;> first | omega | (simp <;> omega)))
          | ((with_reducible show aM _); first | exact True.intro | ((try dsimp only [go_sem]); first | (simp [vb, e, e1, e6, e7, e8, e9, f1, f2, hz1, hlt2, hk, hpr, hpa, hlk, hkk, hkk', hp0] <;> omega) | (simp only [vb, and_true, true_implies]; (repeat' (first | (with_reducible assumption) | (with_reducible apply And.intro) | intro _ | ((fail_if_success (with_reducible show (_ : Int) ≤ _)); assumption))) <;> first | omega | rfl | (simp only [ab, e, e1, e6, e7, e8, e9, f1, f2, hz1, hlt2, hk, hpr, hpa, hlk, hkk, hkk', hp0]; done) | (simp [Nat.mul_one, e, e1, e6, e7, e8, e9, f1, f2, hz1, hlt2, hk, hpr, hpa, hlk, hkk, hkk', hp0] <;> omega))))
          | exact (rfl : some _ = _)
          | (
            fail_if_success refine aT ?_
            refine bX [(132, fun _ => some (.sl ps.length (ps.flatMap dG))), (131, fun _ => some (lH p))] [ξ 14 (.int .i64 (fi + k : Nat)), ξ 16 (.agg [.int .i64 x.lo, .int .i64 x.hi]), ξ 20 (.int .i64 kd), ξ 24 (.int .i64 km), ξ 31 (.int .i64 lk), ξ 32 (.bool true), ξ 36 (.bool false), ξ 56 (.int .i64 lk), ξ 49 (.bool true)] ?_
            repeat1' dsimp only [tj, an, ai, go_sem]
            first
            | refine aU ?_ ?_ rfl ?_
            | apply aV
            | apply aW
            | (refine aX (fun hc => ?_) fun hc => ?_ <;> first | (cases hc; done) | (try simp only [bn] at hc; try contradiction))
            | skip))
        rw [ei]
  · have hxq : (if q = true then (⟨x.lo, min x.hi (lk - 1)⟩ : Rg) else x) = x := by
      split
      · rw [show min x.hi (lk - 1) = x.hi by omega]
      · rfl
    rw [hxq]
    refine af (C := ctx) (Fn.of xS rfl) rfl ?_
    unfold tj
    repeat' (first
      | ((with_reducible show aG _); first | exact True.intro | (simp only [vb, lb, e, e1, e6, e7, e8, e9, f1, f2, hz1, hlt2, hk, hpr, hpa, hlk]; and_intros <;> first | omega | (simp <;> omega)))
      | ((with_reducible show aM _); first | exact True.intro | ((try dsimp only [go_sem]); first | (simp [vb, e, e1, e6, e7, e8, e9, f1, f2, hz1, hlt2, hk, hpr, hpa, hlk] <;> omega) | (simp only [vb, and_true, true_implies]; (repeat' (first | (with_reducible assumption) | (with_reducible apply And.intro) | intro _ | ((fail_if_success (with_reducible show (_ : Int) ≤ _)); assumption))) <;> first | omega | rfl | (simp only [ab, e, e1, e6, e7, e8, e9, f1, f2, hz1, hlt2, hk, hpr, hpa, hlk]; done) | (simp [Nat.mul_one, e, e1, e6, e7, e8, e9, f1, f2, hz1, hlt2, hk, hpr, hpa, hlk] <;> omega) | (simp_all; done))))
      | exact (rfl : some _ = _)
      | (
        fail_if_success refine aT ?_
        refine bX [(132, fun _ => some (.sl ps.length (ps.flatMap dG))), (131, fun _ => some (.nilsl))] [ξ 14 (.int .i64 (fi + k : Nat)), ξ 16 (.agg [.int .i64 x.lo, .int .i64 x.hi]), ξ 20 (.int .i64 kd), ξ 24 (.int .i64 km), ξ 31 (.int .i64 lk), ξ 32 (.bool false), ξ 36 (.bool false), ξ 56 (.int .i64 lk), ξ 49 (.bool false)] ?_
        repeat1' dsimp only [tj, an, ai, go_sem]
        first
        | refine aU ?_ ?_ rfl ?_
        | apply aV
        | apply aW
        | (refine aX (fun hc => ?_) fun hc => ?_ <;> first | (cases hc; done) | (try simp only [bn] at hc; try contradiction))
        | skip))
end Pur
end
section
namespace Pur
open Go.RowKit
section
open Rf
def xT:ay:=(⟨_,by conv=>(lhs;reduce;try simp only[cJ,Int.cast_ofNat_Int,Int.reduceNegSucc,UInt8.reduceOfNat])⟩:{x // codeOf Tryz.prog 81 (fun _=>false)=some x}).1
theorem zE:bp Tryz.prog 81 (fun _=>false)=some (xT,[.t 8,.t 9,.t 10],117,true):=by kernel_rfl
abbrev xU (s:Sy):PV:=.agg [ai s.box,ax s.rows,aI s.graphs,aC s.cases]
theorem zF (s:Sy) (rows:List Rw) (b:List Rg) (x:aS) (hx:bk x=true) (hk:x.kind=0) (hr:rows.length≤1000000000) (hrt:∀r∈rows,r.terms.length≤1000000000) (hb:b.length≤1000000000) :
  aj ctx 81 [xU s,ax rows,ai b,cj x] (.tup [ai (b8 s rows b x).1,.bool (b8 s rows b x).2.1,.bool (b8 s rows b x).2.2]):=by
 simp only[bk,hk,aL,Bool.and_eq_true,decide_eq_true_eq]at hx;obtain⟨⟨-,x1,x2⟩,x3,x4⟩:=hx;have x3: -1≤x.cell:=by simpa using x3
 obtain⟨i,hi⟩:∃i:Nat,x.index=i:=⟨x.index.toNat,by omega⟩
 obtain⟨kd,ix,cl⟩:=x;simp only at *;subst hk hi;unfold b8;rw[if_neg (show ¬(0:Int)=1 by decide)];dsimp only;rw[Int.toNat_natCast];have f1:=fL rows;have f2:=bN b;by_cases h1:(i:Int)<rows.length∧cl<b.length
 ·obtain⟨h1,h2⟩:=h1;have h1':i<rows.length:=by omega
  have e1:=bM kQ rows i zw h1';have ht:=hrt _ (aO (d:=zw) h1');have hti:=fun c=>tI b (rows.getD i zw) c hb ht
  rw[if_pos ⟨h1,h2⟩];clear hrt;generalize rows.getD i zw=q at *;by_cases h3:cl<0
  ·rw[if_pos h3];obtain⟨ts,bd⟩:=q;simp only at *;have f3:=gX ts;refine af (C:=ctx) (Fn.of zE rfl) rfl ?_;unfold xT;cases ts with
   |nil =>
    repeat' (first|((with_reducible show aG _);first|exact True.intro|(simp only[vb,lb,e1,f1,h1,h1',h2,h3,dI,av];and_intros<;>first|omega|(simp<;>omega)))|((with_reducible show aM _);first|exact True.intro|((try dsimp only[go_sem]);(simp[vb,e1,f1,h1,h1',h2,h3,dI,av]<;>omega)))|exact(rfl:some _=_)|((fail_if_success refine aT ?_);refine br [ξ 24 (.bool false),ξ 29 (.bool false),ξ 36 (.agg [.sl 0 [],.int .i64 bd]),ξ 39 (.bool true),ξ 43 (.bool true)] ?_;(repeat1' dsimp only[xT,cj,aw,ax,ai,aI,aC,av,dI,go_sem]);first|refine aU ?_ ?_ rfl ?_|apply aV|apply aW|(refine aX (fun hc=>?_) fun hc=>?_<;>first|(cases hc;done)|(try simp only[bn]at hc;try contradiction))|skip))
   |cons t0 tr =>
    repeat' (first|((with_reducible show aG _);first|exact True.intro|(simp only[vb,lb,e1,f1,h1,h1',h2,h3,dI,av];and_intros<;>first|omega|(simp<;>omega)))|((with_reducible show aM _);first|exact True.intro|((try dsimp only[go_sem]);(simp[vb,e1,f1,h1,h1',h2,h3,dI,av]<;>omega)))|exact(rfl:some _=_)|((fail_if_success refine aT ?_);refine br [ξ 24 (.bool false),ξ 29 (.bool false),ξ 36 (.agg [.sl (tr.length+1) ((t0::tr).flatMap j5),.int .i64 bd]),ξ 39 (.bool true),ξ 43 (.bool false)] ?_;(repeat1' dsimp only[xT,cj,aw,ax,ai,aI,aC,av,dI,go_sem]);first|refine aU ?_ ?_ rfl ?_|apply aV|apply aW|(refine aX (fun hc=>?_) fun hc=>?_<;>first|(cases hc;done)|(try simp only[bn]at hc;try contradiction))|skip))
  ·obtain⟨c,rfl⟩:∃c:Nat,cl=c:=⟨cl.toNat,by omega⟩
   rw[if_neg h3];have hti:=hti c;generalize dS q b c=y at *;have hw:=rn b c y hb;rw[mC,if_pos (by omega)]at hw;rw[Int.toNat_natCast]at hw ⊢;have hl:(b.set c y).length=b.length:=by simp
   generalize b.set c y=b2 at *;unfold av ai at hti;unfold ai at hw;refine af (C:=ctx) (Fn.of zE rfl) rfl ?_;unfold xT;repeat' (first|((with_reducible show aG _);first|exact True.intro|(simp only[vb,lb,e1,f1,f2,h1,h1',h2,h3,dI,av,hti,hw];and_intros<;>first|omega|(simp<;>omega)))|((with_reducible show aM _);first|exact True.intro|((try dsimp only[go_sem]);(simp[vb,e1,f1,f2,h1,h1',h2,h3,dI,av,hti,hw]<;>omega)))|exact(rfl:some _=_)|((fail_if_success refine aT ?_);refine bX [(109,fun _=>some (.agg [.int .i64 y.lo,.int .i64 y.hi])),(34,fun _=>some (.sl b2.length (b2.flatMap fW)))] [ξ 24 (.bool false),ξ 29 (.bool false),ξ 36 (.agg [.sl q.terms.length (q.terms.flatMap j5),.int .i64 q.bound]),ξ 39 (.bool false)] ?_;(repeat1' dsimp only[xT,cj,aw,ax,ai,aI,aC,av,go_sem]);first|refine aU ?_ ?_ rfl ?_|apply aV|apply aW|(refine aX (fun hc=>?_) fun hc=>?_<;>first|(cases hc;done)|(try simp only[bn]at hc;try contradiction))|skip))
 ·rw[if_neg h1];refine af (C:=ctx) (Fn.of zE rfl) rfl ?_;unfold xT;by_cases h2:(i:Int)<rows.length
  ·repeat' (first|((with_reducible show aG _);first|exact True.intro|(simp only[vb,lb,h1,h2];and_intros<;>first|omega|(simp<;>omega)))|((with_reducible show aM _);first|exact True.intro|((try dsimp only[go_sem]);(simp[vb,h1,h2]<;>omega)))|exact(rfl:some _=_)|((fail_if_success refine aT ?_);refine br [ξ 24 (.bool false),ξ 29 (.bool true)] ?_;(repeat1' dsimp only[xT,cj,aw,ax,ai,aI,aC,go_sem]);first|refine aU ?_ ?_ rfl ?_|apply aV|apply aW|(refine aX (fun hc=>?_) fun hc=>?_<;>first|(cases hc;done)|(try simp only[bn]at hc;try contradiction))|skip))
  ·repeat' (first|((with_reducible show aG _);first|exact True.intro|(simp only[vb,lb,h2];and_intros<;>first|omega|(simp<;>omega)))|((with_reducible show aM _);first|exact True.intro|((try dsimp only[go_sem]);(simp[vb,h2]<;>omega)))|exact(rfl:some _=_)|((fail_if_success refine aT ?_);refine br [ξ 24 (.bool true)] ?_;(repeat1' dsimp only[xT,cj,aw,ax,ai,aI,aC,go_sem]);first|refine aU ?_ ?_ rfl ?_|apply aV|apply aW|(refine aX (fun hc=>?_) fun hc=>?_<;>first|(cases hc;done)|(try simp only[bn]at hc;try contradiction))|skip))
theorem vL (s:Sy) (rows:List Rw) (b:List Rg) (x:aS) (hx:bk x=true) (hk:x.kind=1) (hs:∀q∈s.graphs,bH b.length q=true) (hg:s.graphs.length≤1000000000) (hb:cz b=true) :
  aj ctx 81 [xU s,ax rows,ai b,cj x] (.tup [ai (b8 s rows b x).1,.bool (b8 s rows b x).2.1,.bool (b8 s rows b x).2.2]):=by
 simp only[bk,hk,aL,Bool.and_eq_true,decide_eq_true_eq]at hx;obtain⟨⟨-,x1,x2⟩,x3,x4⟩:=hx;have x3:0≤x.cell:=by simpa using x3
 obtain⟨i,hi⟩:∃i:Nat,x.index=i:=⟨x.index.toNat,by omega⟩
 have hbl:b.length≤128:=by
  simp only[cz,Bool.and_eq_true,decide_eq_true_eq]at hb;exact hb.2
 obtain⟨kd,ix,cl⟩:=x;simp only at *;subst hk hi;unfold b8;rw[if_pos rfl];dsimp only;rw[Int.toNat_natCast];have f1:=ra s.graphs;have f2:=bN b;by_cases h1:(i:Int)<s.graphs.length
 ·have h1':i<s.graphs.length:=by omega
  have e1:=bM ph s.graphs i zg h1';have hgo:=hs _ (aO (d:=zg) h1');have hcu:=fun k hk=>D8 b (s.graphs.getD i zg) k hgo hb hk
  rw[if_pos h1];clear hs;generalize s.graphs.getD i zg=g at *;simp only[bH,aL,Bool.and_eq_true,decide_eq_true_eq]at hgo;obtain⟨⟨⟨⟨⟨g1,g2⟩,g3⟩,g4⟩,g5⟩,g6⟩:=hgo;have hsq:=n3 g1 g2;by_cases h2:g.first≤cl∧cl<g.first+g.least.length
  ·obtain⟨k,hk⟩:∃k:Nat,cl-g.first=k:=⟨(cl-g.first).toNat,by omega⟩
   rw[if_pos h2];have hcu:=hcu k (by omega);rw[hk,Int.toNat_natCast];generalize tG g b k=y at *;have hw:=rn b cl y (by omega);rw[mC,if_pos (by omega)]at hw;generalize b.set cl.toNat y=b2 at *;obtain⟨fi,sz,le⟩:=g;simp only at *;unfold an ai at hcu;unfold ai at hw;refine af (C:=ctx) (Fn.of zE rfl) rfl ?_;unfold xT;repeat' (first|((with_reducible show aG _);first|exact True.intro|(simp only[vb,lb,e1,f1,f2,h1,h1',h2,hk,g5,dx,an,hcu,hw];and_intros<;>first|omega|(simp<;>omega)))|((with_reducible show aM _);first|exact True.intro|((try dsimp only[go_sem]);(simp[vb,e1,f1,f2,h1,h1',h2,hk,g5,dx,an,hcu,hw]<;>omega)))|exact(rfl:some _=_)|((fail_if_success refine aT ?_);refine bX [(110,fun _=>some (.agg [.int .i64 y.lo,.int .i64 y.hi])),(34,fun _=>some (.sl b2.length (b2.flatMap fW)))] [ξ 79 (.agg [.int .i64 fi,.int .i64 sz,.sl le.length (le.flatMap bO)]),ξ 84 (.bool false),ξ 96 (.bool false),ξ 105 (.int .i64 k)] ?_;(repeat1' dsimp only[xT,cj,aw,ax,ai,aI,aC,an,dx,go_sem]);first|refine aU ?_ ?_ rfl ?_|apply aV|apply aW|(refine aX (fun hc=>?_) fun hc=>?_<;>first|(cases hc;done)|(exfalso;(simp at hc<;>omega))|(try simp only[bn]at hc;try contradiction))|skip))
  ·rw[if_neg h2];obtain⟨fi,sz,le⟩:=g;simp only at *;by_cases h3:cl<fi
   ·refine af (C:=ctx) (Fn.of zE rfl) rfl ?_;unfold xT;repeat' (first|((with_reducible show aG _);first|exact True.intro|(simp only[vb,lb,e1,f1,f2,h1,h1',h2,h3,g5,dx,an];and_intros<;>first|omega|(simp<;>omega)))|((with_reducible show aM _);first|exact True.intro|((try dsimp only[go_sem]);(simp[vb,e1,f1,f2,h1,h1',h2,h3,g5,dx,an]<;>omega)))|exact(rfl:some _=_)|((fail_if_success refine aT ?_);refine br [ξ 79 (.agg [.int .i64 fi,.int .i64 sz,.sl le.length (le.flatMap bO)]),ξ 84 (.bool true)] ?_;(repeat1' dsimp only[xT,cj,aw,ax,ai,aI,aC,an,dx,go_sem]);first|refine aU ?_ ?_ rfl ?_|apply aV|apply aW|(refine aX (fun hc=>?_) fun hc=>?_<;>first|(cases hc;done)|(exfalso;(simp at hc<;>omega))|(try simp only[bn]at hc;try contradiction))|skip))
   ·refine af (C:=ctx) (Fn.of zE rfl) rfl ?_;unfold xT;repeat' (first|((with_reducible show aG _);first|exact True.intro|(simp only[vb,lb,e1,f1,f2,h1,h1',h2,h3,g5,dx,an];and_intros<;>first|omega|(simp<;>omega)))|((with_reducible show aM _);first|exact True.intro|((try dsimp only[go_sem]);(simp[vb,e1,f1,f2,h1,h1',h2,h3,g5,dx,an]<;>omega)))|exact(rfl:some _=_)|((fail_if_success refine aT ?_);refine br [ξ 79 (.agg [.int .i64 fi,.int .i64 sz,.sl le.length (le.flatMap bO)]),ξ 84 (.bool false),ξ 96 (.bool true)] ?_;(repeat1' dsimp only[xT,cj,aw,ax,ai,aI,aC,an,dx,go_sem]);first|refine aU ?_ ?_ rfl ?_|apply aV|apply aW|(refine aX (fun hc=>?_) fun hc=>?_<;>first|(cases hc;done)|(exfalso;(simp at hc<;>omega))|(try simp only[bn]at hc;try contradiction))|skip))
 ·rw[if_neg h1];refine af (C:=ctx) (Fn.of zE rfl) rfl ?_;unfold xT;repeat' (first|((with_reducible show aG _);first|exact True.intro|(simp only[vb,lb,h1];and_intros<;>first|omega|(simp<;>omega)))|((with_reducible show aM _);exact True.intro)|exact(rfl:some _=_)|((fail_if_success refine aT ?_);refine aZ ?_;(repeat1' dsimp only[xT,cj,aw,ax,ai,aI,aC,go_sem]);first|refine aU ?_ ?_ rfl ?_|apply aV|apply aW|(refine aX (fun hc=>?_) fun hc=>?_<;>first|(cases hc;done)|(exfalso;(simp at hc<;>omega))|(try simp only[bn]at hc;try contradiction))|skip))
theorem B6 (s:Sy) (rows:List Rw) (b:List Rg) (x:aS) (hx:bk x=true) (hs:∀q∈s.graphs,bH b.length q=true) (hg:s.graphs.length≤1000000000) (hr:rows.length≤1000000000) (hrt:∀r∈rows,r.terms.length≤1000000000) (hb:cz b=true) :
  aj ctx 81 [xU s,ax rows,ai b,cj x] (.tup [ai (b8 s rows b x).1,.bool (b8 s rows b x).2.1,.bool (b8 s rows b x).2.2]):=by
 have hbl:b.length≤128:=by
  simp only[cz,Bool.and_eq_true,decide_eq_true_eq]at hb;exact hb.2
 have hx':=hx;simp only[bk,aL,Bool.and_eq_true,decide_eq_true_eq]at hx';by_cases hk:x.kind=1
 ·exact vL s rows b x hx hk hs hg hb
 ·exact zF s rows b x hx (by omega) hr hrt (by omega)
end
section
open Rf
def tn:ay:=(⟨_,by conv=>(lhs;reduce;try simp only[cJ,Int.cast_ofNat_Int,Int.reduceNegSucc,UInt8.reduceOfNat])⟩:{x // codeOf Tryz.prog 48 (fun d=>Nat.beq d 131)=some x}).1
theorem It:bp Tryz.prog 48 (fun d=>Nat.beq d 131)=some (tn,[.t 10],176,true):=by kernel_rfl
abbrev zG (s:Sy):dT:=⟨[.pv (ai s.box),.pv (ax s.rows),.pv (aI s.graphs),.pv (aC s.cases)],0,4,36,false⟩
abbrev qI (t:Tree):PV:=.agg [.int .i64 t.kind,.sl t.steps.length (t.steps.flatMap aw),.int .i64 t.cell,.int .i64 t.pos,.sl t.kids.length (t.kids.flatMap cy)]
theorem xV (s:Sy) (hs:uI s) (n:Nat) (hm:Az s n):∀(t:Tree),cT t=true→wt t≤1000000000→∀(rows:List Rw) (b:List Rg) (ch:Bool),rows.length≤mr ch→(∀r∈rows,r.terms.length≤1000000000)→(∀r∈rows,gA n r=true)→b.length=n→n≤128→(dt b=true∨cz b=true) →
  aj ctx 48 [xU s,ax rows,ai b,.bool ch,aA t] (.bool (bf s t rows b ch)):=by
 refine Tree.ind fun kd st c a l ih hf hw rows b ch hr hrt hrow hn hn1 hbo=>?_
 rw[bE]at hw;have hl:=dR l;rw[cD]at hf;simp only[Bool.and_eq_true]at hf;obtain⟨⟨hf1,hf2⟩,hf3⟩:=hf;have hE:=nG b (by omega);have hr':rows.length≤1001000:=by unfold mr at hr;cases ch<;>simp at hr<;>omega
 rw[pf];have f1:=cR st;have f2:=bN b;by_cases heb:dt b=true
 ·rw[heb]at hE ⊢;simp only[if_true];unfold ai at hE;refine af (C:=ctx) (Fn.of It rfl) rfl ?_;unfold tn;repeat' (first|((with_reducible show aG _);exact True.intro)|((with_reducible show aM _);first|exact True.intro|((try dsimp only[go_sem]);(simp[vb,hE]<;>omega)))|exact(rfl:some _=_)|((fail_if_success refine aT ?_);refine fu [(61,fun _=>some (.bool true))] ?_;(repeat1' dsimp only[tn,aA,Tree.kind,Tree.steps,Tree.cell,Tree.pos,Tree.kids,aa,ah,ai,ax,aI,aC,go_sem]);first|refine aU ?_ ?_ rfl ?_|apply aV|apply aW|(refine aX (fun hc=>?_) fun hc=>?_<;>first|(cases hc;done)|(try simp only[bn]at hc;try contradiction))|skip))
 ·have hbo:=hbo.resolve_left heb;rw[Bool.eq_false_iff.mpr heb]at hE ⊢;simp only[Bool.false_eq_true,if_false];unfold ai at hE;refine af (C:=ctx) (Fn.of It rfl) rfl ?_;unfold tn;repeat' (first|((with_reducible show aG _);exact True.intro)|((with_reducible show aM _);first|exact True.intro|((try dsimp only[go_sem]);(simp[vb,hE]<;>omega)))|exact(rfl:some _=_)|((fail_if_success refine aT ?_);refine fu [(61,fun _=>some (.bool false))] ?_;(repeat1' dsimp only[tn,aA,Tree.kind,Tree.steps,Tree.cell,Tree.pos,Tree.kids,aa,ah,ai,ax,aI,aC,go_sem]);first|refine aU ?_ ?_ rfl ?_|apply aV|apply aW|(refine aX (fun hc=>?_) fun hc=>?_<;>first|(cases hc;done)|(try simp only[bn]at hc;try contradiction))|skip))
  refine cC (σ:=Nat×List Rg) (fun q=>q.1≤st.length∧q.2.length=n∧cz q.2=true∧eP s rows (st.drop q.1) q.2=eP s rows st b)
   (fun q=>[(1,.pv (ax rows)),(2,.pv (ai q.2)),(3,.pv (.bool ch)),(5,.ptr 0 0 0),(9,.ptr 1 0 0),(10,.pv (.bool false)),(11,.pv (.int .i64 q.1))])
   (fun _=>[zG s,ae (.node kd st c a l)]) (fun q=>st.length-q.1) (0,b) ⟨Nat.zero_le _,hn,hbo,rfl⟩ (by (repeat' (first|exact trivial|refine And.intro (by first|rfl|(simp[get,Nat.beq]<;>omega)|(dsimp only[get];congr 1<;>first|rfl|omega|(simp<;>omega))) ?_))) ⟨[],rfl⟩ (fun _ _=>⟨Nat.zero_le _,rfl,by simp[aP,ae,ck]⟩) fun q hq=>?_
  obtain⟨k,bb⟩:=q;obtain⟨p1,p2,p4,p3⟩:=hq;simp only at p1 p2 p3 p4 ⊢;clear hE;by_cases hlt:k<st.length
  ·have e:=bM bu st k zs hlt;have hx:=List.all_eq_true.mp hf1 _ (aO (d:=zs) hlt);rw[da st k zs hlt,eP]at p3;generalize st.getD k zs=x at *;have hst:=B6 s rows bb x hx (by rw[p2];exact hm.g) hs.g (by omega) hrt p4;have hln:=p9 s rows bb x;have hcp:=DO s rows bb x;have hsu:=DV p4 (by rw[p2];exact hrow) (by rw[p2];exact hm.g) x (by
    simp only[bk,aL,Bool.and_eq_true,decide_eq_true_eq]at hx;omega)
   generalize b8 s rows bb x=q at *;obtain⟨b2,pp,cc⟩:=q;simp only at hst hln p3 hsu hcp;unfold xU ai ax aI aC cj at hst;simp only[aw]at hst;rw[←p3];cases pp with
   |false =>
    obtain rfl:cc=false:=by
     cases cc with
     |false=>rfl
     |true=>exact absurd (hcp rfl) (by simp)
    simp only[Bool.false_eq_true,if_false];repeat' (first|((with_reducible show aG _);first|exact True.intro|(simp only[vb,lb,e,f1,hlt,aw,hst];and_intros<;>first|omega|(simp<;>omega)))|((with_reducible show aM _);first|exact True.intro|((try dsimp only[go_sem]);(simp[vb,e,f1,hlt,aw,hst]<;>omega)))|exact(rfl:some _=_)|((fail_if_success refine aT ?_);refine bX [(81,fun _=>some (.tup [.sl b2.length (b2.flatMap fW),.bool false,.bool false]))] [ξ 39 (.agg [.int .i64 x.kind,.int .i64 x.index,.int .i64 x.cell])] ?_;(repeat1' dsimp only[tn,ae,Tree.kind,Tree.steps,Tree.cell,Tree.pos,Tree.kids,aa,ah,ai,ax,aI,aC,go_sem]);first|refine aU ?_ ?_ rfl ?_|apply aV|apply aW|(refine aX (fun hc=>?_) fun hc=>?_<;>first|(cases hc;done)|(exfalso;(simp at hc<;>omega))|(try simp only[bn]at hc;try contradiction))|skip))
   |true =>
    cases cc with
    |true =>
     simp only[if_true];repeat' (first|((with_reducible show aG _);first|exact True.intro|(simp only[vb,lb,e,f1,hlt,aw,hst];and_intros<;>first|omega|(simp<;>omega)))|((with_reducible show aM _);first|exact True.intro|((try dsimp only[go_sem]);(simp[vb,e,f1,hlt,aw,hst]<;>omega)))|exact(rfl:some _=_)|((fail_if_success refine aT ?_);refine bX [(81,fun _=>some (.tup [.sl b2.length (b2.flatMap fW),.bool true,.bool true]))] [ξ 39 (.agg [.int .i64 x.kind,.int .i64 x.index,.int .i64 x.cell])] ?_;(repeat1' dsimp only[tn,ae,Tree.kind,Tree.steps,Tree.cell,Tree.pos,Tree.kids,aa,ah,ai,ax,aI,aC,go_sem]);first|refine aU ?_ ?_ rfl ?_|apply aV|apply aW|(refine aX (fun hc=>?_) fun hc=>?_<;>first|(cases hc;done)|(exfalso;(simp at hc<;>omega))|(try simp only[bn]at hc;try contradiction))|skip))
    |false =>
     simp only[Bool.false_eq_true,if_false,if_true];obtain⟨-,u2⟩:=(hsu rfl).resolve_left (by simp);repeat' (first|((with_reducible show aG _);first|exact True.intro|(simp only[vb,lb,e,f1,hlt,aw,hst];and_intros<;>first|omega|(simp<;>omega)))|((with_reducible show aM _);first|exact True.intro|((try dsimp only[go_sem]);(simp[vb,e,f1,hlt,aw,hst]<;>omega)))|exact(rfl:some _=_)|((fail_if_success refine aT ?_);refine bX [(81,fun _=>some (.tup [.sl b2.length (b2.flatMap fW),.bool true,.bool false]))] [ξ 39 (.agg [.int .i64 x.kind,.int .i64 x.index,.int .i64 x.cell])] ?_;(repeat1' dsimp only[tn,ae,Tree.kind,Tree.steps,Tree.cell,Tree.pos,Tree.kids,aa,ah,ai,ax,aI,aC,go_sem]);first|refine aU ?_ ?_ rfl ?_|apply aV|apply aW|(refine aX (fun hc=>?_) fun hc=>?_<;>first|(cases hc;done)|(exfalso;(simp at hc<;>omega))|(try simp only[bn]at hc;try contradiction))|skip))
     exact⟨(k+1,b2),by show st.length-(k+1)<st.length-k;omega,⟨by show k+1≤_;omega,hln.trans p2,u2,rfl⟩,by (repeat' (first|exact trivial|refine And.intro (by first|rfl|(simp[get,Nat.beq]<;>omega)|(dsimp only[get];congr 1<;>first|rfl|omega|(simp<;>omega))) ?_)),_,rfl⟩
  ·obtain rfl:k=st.length:=by omega
   rw[List.drop_length,eP]at p3;rw[←p3];simp only;clear p3 hf1 heb hbo;have f3:=cL l;have f4:=bN bb;by_cases hk1:kd=1
   ·subst hk1;simp[bQ,aL]at hf2;obtain⟨⟨t1,t2,t3⟩,t4,t5⟩:=hf2;by_cases hc:c<bb.length
    ·have hc9:=hc;obtain⟨k0,k1,hl2⟩:∃k0 k1,l=[k0,k1]:=by
      match l,t1 with
      |[k0,k1],_=>exact⟨k0,k1,rfl⟩
     have hacc:nU s 1 c a (l.map (bf s)) rows bb ch=(bf s k0 rows (bb.set c.toNat ⟨(bb.getD c.toNat zr).lo,min (bb.getD c.toNat zr).hi a⟩) ch&&bf s k1 rows (bb.set c.toNat ⟨max (bb.getD c.toNat zr).lo (a+1),(bb.getD c.toNat zr).hi⟩) ch):=by
      rw[nU,if_pos rfl,if_pos hc,hl2];rfl
     rw[hacc];have hk0:k0∈l:=by rw[hl2];simp
     have hk1:k1∈l:=by rw[hl2];simp
     have hf30:=List.all_eq_true.mp hf3 k0 hk0;have hf31:=List.all_eq_true.mp hf3 k1 hk1;have hwk0:=fw hk0;have hwk1:=fw hk1;have e0:=cK l 0 (by omega);have e1:=cK l 1 (by omega);rw[show l.getD 0 zt=k0 by rw[hl2];rfl]at e0;rw[show l.getD 1 zt=k1 by rw[hl2];rfl]at e1;clear hacc hl2;obtain⟨cn,rfl⟩:∃cn:Nat,c=cn:=⟨c.toNat,by omega⟩
     rw[Int.toNat_natCast];have hcb:cn<bb.length:=by omega
     have e:=kA bb (cn:Int) (by omega) (by omega);rw[Int.toNat_natCast]at e;have hx:=kV (gC p4 cn);generalize hxx:bb.getD cn zr=x at *;have hw1:=rn bb cn ⟨x.lo,min x.hi a⟩ (by omega);have hw2:=rn bb cn ⟨max x.lo (a+1),x.hi⟩ (by omega);rw[mC,if_pos (by omega),Int.toNat_natCast]at hw1 hw2;have m1:nE ⟨x.lo,min x.hi a⟩ (bb.getD cn zr):=⟨by rw[hxx];exact Int.le_refl _,by rw[hxx];show min _ _≤_;omega⟩
     have m2:nE ⟨max x.lo (a+1),x.hi⟩ (bb.getD cn zr):=⟨by rw[hxx];show _≤max _ _;omega,by rw[hxx];exact Int.le_refl _⟩
     have q1:=ih k0 hk0 hf30 (by omega) rows (bb.set cn ⟨x.lo,min x.hi a⟩) ch hr hrt hrow (by simpa using p2) hn1 (uF hcb p4 m1);have q2:=ih k1 hk1 hf31 (by omega) rows (bb.set cn ⟨max x.lo (a+1),x.hi⟩) ch hr hrt hrow (by simpa using p2) hn1 (uF hcb p4 m2);clear ih hxx m1 m2 hm;generalize bf s k0 rows (bb.set cn ⟨x.lo,min x.hi a⟩) ch=r1 at *;generalize bf s k1 rows (bb.set cn ⟨max x.lo (a+1),x.hi⟩) ch=r2 at *;generalize bb.set cn ⟨x.lo,min x.hi a⟩=bl at *;generalize bb.set cn ⟨max x.lo (a+1),x.hi⟩=bh at *;simp only[Nat.zero_mul,Nat.one_mul]at e0 e1
     obtain⟨a0,a1,a2,a3,a4⟩:=k0;obtain⟨d0,d1,d2,d3,d4⟩:=k1;simp only[Tree.kind,Tree.steps,Tree.cell,Tree.pos,Tree.kids]at e0 e1;simp only[aA,Tree.kind,Tree.steps,Tree.cell,Tree.pos,Tree.kids]at q1 q2;unfold ai at hw1 hw2;unfold xU ai ax aI aC ah aa at q1 q2;unfold ah aa at e0 e1;cases r1 with
     |true =>
      repeat' (first|((with_reducible show aG _);first|exact True.intro|(simp only[vb,lb,e,e0,e1,f3,t1,f4,hc,hcb,ei,iw,hw1,hw2,q1,q2];and_intros<;>first|omega|(simp<;>omega)))|((with_reducible show aM _);first|exact True.intro|((try dsimp only[go_sem]);first|(simp[vb,e,e0,e1,f3,t1,f4,hc,hcb,ei,iw,hw1,hw2,q1,q2]<;>omega)|(simp only[vb,and_true,true_implies];(repeat' (first|(with_reducible assumption)|(with_reducible apply And.intro)|intro _|((fail_if_success (with_reducible show(_:Int)≤_));assumption)))<;>first|omega|(simp only[ab,e,e0,e1,f3,t1,f4,hc,hcb,ei,iw,hw1,hw2,q1,q2];done)|(simp_all;done))))|exact(rfl:some _=_)|((fail_if_success refine aT ?_);refine br [ξ 62 (.agg [.int .i64 x.lo,.int .i64 x.hi]),ξ 72 (.int .i64 (min x.hi a)),ξ 74 (.sl bl.length (bl.flatMap fW)),ξ 83 (.int .i64 (max x.lo (a+1))),ξ 87 (.sl bh.length (bh.flatMap fW)),ξ 95 (.agg [.int .i64 a0,.sl a1.length (a1.flatMap aw),.int .i64 a2,.int .i64 a3,.sl a4.length (a4.flatMap cy)]),ξ 96 (.bool true),ξ 105 (.agg [.int .i64 d0,.sl d1.length (d1.flatMap aw),.int .i64 d2,.int .i64 d3,.sl d4.length (d4.flatMap cy)]),ξ 106 (.bool r2)] ?_;(repeat1' dsimp only[tn,ae,Tree.kind,Tree.steps,Tree.cell,Tree.pos,Tree.kids,aa,ah,ai,ax,aI,aC,go_sem]);first|refine aU ?_ ?_ rfl ?_|apply aV|apply aW|(refine aX (fun hc=>?_) fun hc=>?_<;>first|(cases hc;done)|(exfalso;(simp at hc<;>omega))|(try simp only[bn]at hc;try contradiction))|skip))
     |false =>
      repeat' (first|((with_reducible show aG _);first|exact True.intro|(simp only[vb,lb,e,e0,e1,f3,t1,f4,hc,hcb,ei,iw,hw1,hw2,q1,q2];and_intros<;>first|omega|(simp<;>omega)))|((with_reducible show aM _);first|exact True.intro|((try dsimp only[go_sem]);first|(simp[vb,e,e0,e1,f3,t1,f4,hc,hcb,ei,iw,hw1,hw2,q1,q2]<;>omega)|(simp only[vb,and_true,true_implies];(repeat' (first|(with_reducible assumption)|(with_reducible apply And.intro)|intro _|((fail_if_success (with_reducible show(_:Int)≤_));assumption)))<;>first|omega|(simp only[ab,e,e0,e1,f3,t1,f4,hc,hcb,ei,iw,hw1,hw2,q1,q2];done)|(simp_all;done))))|exact(rfl:some _=_)|((fail_if_success refine aT ?_);refine br [ξ 62 (.agg [.int .i64 x.lo,.int .i64 x.hi]),ξ 72 (.int .i64 (min x.hi a)),ξ 74 (.sl bl.length (bl.flatMap fW)),ξ 83 (.int .i64 (max x.lo (a+1))),ξ 87 (.sl bh.length (bh.flatMap fW)),ξ 95 (.agg [.int .i64 a0,.sl a1.length (a1.flatMap aw),.int .i64 a2,.int .i64 a3,.sl a4.length (a4.flatMap cy)]),ξ 96 (.bool false),ξ 105 (.agg [.int .i64 d0,.sl d1.length (d1.flatMap aw),.int .i64 d2,.int .i64 d3,.sl d4.length (d4.flatMap cy)]),ξ 106 (.bool r2)] ?_;(repeat1' dsimp only[tn,ae,Tree.kind,Tree.steps,Tree.cell,Tree.pos,Tree.kids,aa,ah,ai,ax,aI,aC,go_sem]);first|refine aU ?_ ?_ rfl ?_|apply aV|apply aW|(refine aX (fun hc=>?_) fun hc=>?_<;>first|(cases hc;done)|(exfalso;(simp at hc<;>omega))|(try simp only[bn]at hc;try contradiction))|skip))
    ·rw[nU,if_pos rfl,if_neg hc];repeat' (first|((with_reducible show aG _);first|exact True.intro|(simp only[vb,lb,hc];and_intros<;>first|omega|(simp<;>omega)))|((with_reducible show aM _);first|exact True.intro|((try dsimp only[go_sem]);(simp[vb,hc]<;>omega)))|exact(rfl:some _=_)|((fail_if_success refine aT ?_);refine br [ξ 110 (.bool false)] ?_;(repeat1' dsimp only[tn,ae,Tree.kind,Tree.steps,Tree.cell,Tree.pos,Tree.kids,aa,ah,ai,ax,aI,aC,go_sem]);first|refine aU ?_ ?_ rfl ?_|apply aV|apply aW|(refine aX (fun hc=>?_) fun hc=>?_<;>first|(cases hc;done)|(exfalso;(simp at hc<;>omega))|(try simp only[bn]at hc;try contradiction))|skip))
   ·by_cases hk2:kd=2
    ·subst hk2;simp[bQ]at hf2;obtain⟨⟨⟨t1,t2⟩,rfl⟩,rfl⟩:=hf2;have hcc:=hs.c;unfold nU;rw[if_neg (by decide),if_pos rfl,List.length_map];cases ch with
     |true =>
      repeat' (first|((with_reducible show aG _);first|exact True.intro|(simp only[vb,lb,hlt];and_intros<;>first|omega|(simp<;>omega)))|((with_reducible show aM _);first|exact True.intro|((try dsimp only[go_sem]);(simp[vb,hlt]<;>omega)))|exact(rfl:some _=_)|((fail_if_success refine aT ?_);refine br [ξ 57 (.bool false),ξ 114 (.bool false),ξ 123 (.bool false)] ?_;(repeat1' dsimp only[tn,ae,Tree.kind,Tree.steps,Tree.cell,Tree.pos,Tree.kids,aa,ah,ai,ax,aI,aC,go_sem]);first|refine aU ?_ ?_ rfl ?_|apply aV|apply aW|(refine aX (fun hc=>?_) fun hc=>?_<;>first|(cases hc;done)|(exfalso;(simp at hc<;>omega))|(try simp only[bn]at hc;try contradiction))|skip))
     |false =>
      by_cases hlc:l.length=s.cases.length
      ·rw[decide_eq_true hlc];have hlc':(l.length:Int)=(s.cases.length:Int):=by omega
       simp only[Bool.not_false,Bool.true_and];generalize hres:np rows bb (l.map (bf s)) s.cases=res;repeat' (first|((with_reducible show aG _);first|exact True.intro|(simp only[vb,lb,hlt,hlc'];and_intros<;>first|omega|(simp<;>omega)))|((with_reducible show aM _);first|exact True.intro|((try dsimp only[go_sem]);(simp[vb,hlt,hlc']<;>omega)))|exact(rfl:some _=_)|((fail_if_success refine aT ?_);refine br [ξ 57 (.bool false),ξ 114 (.bool true),ξ 122 (.bool true),ξ 123 (.bool true)] ?_;(repeat1' dsimp only[tn,ae,Tree.kind,Tree.steps,Tree.cell,Tree.pos,Tree.kids,aa,ah,ai,ax,aI,aC,go_sem]);first|refine aU ?_ ?_ rfl ?_|apply aV|apply aW|(refine aX (fun hc=>?_) fun hc=>?_<;>first|(cases hc;done)|(exfalso;(simp at hc<;>omega))|(try simp only[bn]at hc;try contradiction))|skip))
       refine cC (σ:=Nat) (fun k=>k≤l.length∧np rows bb ((l.map (bf s)).drop k) (s.cases.drop k)=res)
        (fun k=>[(1,.pv (ax rows)),(2,.pv (ai bb)),(5,.ptr 0 0 0),(9,.ptr 1 0 0),(10,.pv (.bool false)),(18,.pv (.int .i64 k))])
        (fun k=>[zG s,ae (.node 2 st 0 0 l)]) (fun k=>l.length-k) 0 ⟨Nat.zero_le _,hres⟩ (by (repeat' (first|exact trivial|refine And.intro (by first|rfl|(simp[get,Nat.beq]<;>omega)|(dsimp only[get];congr 1<;>first|rfl|omega|(simp<;>omega))) ?_))) ⟨[],rfl⟩ (fun _ _=>⟨Nat.zero_le _,rfl,by simp[aP,ae,ck]⟩) fun k hq=>?_
       obtain⟨q1,q2⟩:=hq;by_cases hlk:k<l.length
       ·have hkc:k<s.cases.length:=by omega
        have e:=cK l k hlk;have e2:=mq s.cases k hkc;have e3:=mf s.cases;have hmc:=aO (d:=([]:List Rw)) hkc;have hcl:=hs.l _ hmc;have hcr:=hm.c _ hmc;have hmem:=aO (d:=zt) hlk;have hwk:=fw hmem;have hih:=ih _ hmem (List.all_eq_true.mp hf3 _ hmem) (by omega) (rows++s.cases.getD k []) bb true (by rw[List.length_append];unfold mr at hr ⊢;simp only[cond_true,cond_false]at hr ⊢;omega) (fun r hr=>by
         rcases List.mem_append.mp hr with h|h
         ·exact hrt r h
         ·exact hcl.2 r h) (fun r hr=>by
         rcases List.mem_append.mp hr with h|h
         ·exact hrow r h
         ·exact hcr r h) p2 hn1 (.inr p4)
        rw[da _ k (bf s zt) (by simpa using hlk),da s.cases k [] hkc,np]at q2;rw[show(l.map (bf s)).getD k (bf s zt)=bf s (l.getD k zt) by simp[List.getD]]at q2;generalize hrest:np rows bb ((l.map (bf s)).drop (k+1)) (s.cases.drop (k+1))=rest at *;clear ih hres hcr hmc hmem;generalize s.cases.getD k []=cs at *;have hcl1:=hcl.1;have hcl2:=hcl.2;clear hcl;generalize l.getD k zt=x at *;generalize bf s x (rows++cs) bb true=qx at *;obtain⟨a0,a1,a2,a3,a4⟩:=x;simp only[aA,Tree.kind,Tree.steps,Tree.cell,Tree.pos,Tree.kids]at hih e
        unfold xU ai ax aI aC ah aa at hih;have g1:=fL rows;have g2:=fL cs;repeat' (first|((with_reducible show aG _);first|exact True.intro|(simp only[vb,lb,hlk,hkc];and_intros<;>first|omega|(simp<;>omega)))|((with_reducible show aM _);exact True.intro)|exact(rfl:some _=_)|((fail_if_success refine aT ?_);refine aZ ?_;(repeat1' dsimp only[tn,ae,Tree.kind,Tree.steps,Tree.cell,Tree.pos,Tree.kids,aa,ah,ai,ax,aI,aC,go_sem]);first|refine aU ?_ ?_ rfl ?_|apply aV|apply aW|(refine aX (fun hc=>?_) fun hc=>?_<;>first|(cases hc;done)|(exfalso;(simp at hc<;>omega))|(try simp only[bn]at hc;try contradiction))|skip))
        refine bg rows.length (fun _=>True) (fun j=>[(1,.pv (ax rows)),(2,.pv (ai bb)),(5,.ptr 0 0 0),(9,.ptr 1 0 0),(10,.pv (.bool false)),(18,.pv (.int .i64 k)),(19,.ref 2 j 0 j),(20,.pv (.int .i64 j))])
         (fun j=>[zG s,ae (.node 2 st 0 0 l),⟨((rows.take j).flatMap dI).map .pv,j,2,62,false⟩]) trivial (by (repeat' (first|exact trivial|refine And.intro (by first|rfl|(simp[get,Nat.beq]<;>omega)|(dsimp only[get];congr 1<;>first|rfl|omega|(simp<;>omega))) ?_))) ⟨[],rfl⟩ (fun _=>⟨Nat.zero_le _,rfl,by simp[aP,ae,ck]⟩) fun j hj _=>?_
        by_cases hjt:j<rows.length
        ·have e1:=bM kQ rows j zw hjt;have hst:=aJ rows j zw hjt;have e7:=fL (rows.take j);have hjl:(rows.take j).length=j:=by rw[List.length_take];omega
         rw[hjl]at e7;rw[hst];clear hst;generalize rows.getD j zw=y at *;generalize rows.take j=w at *;obtain⟨ts,bd⟩:=y;repeat' (first|((with_reducible show aG _);first|exact True.intro|(simp only[vb,lb,e1,e7,g1,hjt,dI,av];and_intros<;>first|omega|(simp<;>omega)))|((with_reducible show aM _);first|exact True.intro|((try dsimp only[go_sem]);(simp[vb,e1,e7,g1,hjt,dI,av]<;>omega)))|exact(rfl:some _=_)|((fail_if_success refine aT ?_);refine br [ξ 142 (.agg [.sl ts.length (ts.flatMap j5),.int .i64 bd]),(144,{mode:=1})] ?_;(repeat1' dsimp only[tn,ae,Tree.kind,Tree.steps,Tree.cell,Tree.pos,Tree.kids,aa,ah,ai,ax,aI,aC,go_sem]);first|refine aU ?_ ?_ rfl ?_|apply aV|apply aW|(refine aX (fun hc=>?_) fun hc=>?_<;>first|(cases hc;done)|(exfalso;(simp at hc<;>omega))|(try simp only[bn]at hc;try contradiction))|skip))
         exact⟨hjt,trivial,by (repeat' (first|exact trivial|refine And.intro (by first|rfl|(simp[get,Nat.beq]<;>omega)|(dsimp only[get];congr 1<;>first|rfl|omega|(simp<;>omega))) ?_)),[],by simp[List.flatMap_append,dI,av]⟩
        ·obtain rfl:j=rows.length:=by omega
         rw[List.take_length];repeat' (first|((with_reducible show aG _);exact True.intro)|((with_reducible show aM _);exact True.intro)|exact(rfl:some _=_)|((fail_if_success refine aT ?_);refine aZ ?_;(repeat1' dsimp only[tn,ae,Tree.kind,Tree.steps,Tree.cell,Tree.pos,Tree.kids,aa,ah,ai,ax,aI,aC,go_sem]);first|refine aU ?_ ?_ rfl ?_|apply aV|apply aW|(refine aX (fun hc=>?_) fun hc=>?_<;>first|(cases hc;done)|(exfalso;(simp at hc<;>omega))|(try simp only[bn]at hc;try contradiction))|skip))
         refine bg cs.length (fun _=>True) (fun j=>[(1,.pv (ax rows)),(2,.pv (ai bb)),(5,.ptr 0 0 0),(9,.ptr 1 0 0),(10,.pv (.bool false)),(18,.pv (.int .i64 k)),(19,.ref 2 (rows.length+j) 0 (rows.length+j)),(21,.pv (.int .i64 j))])
          (fun j=>[zG s,ae (.node 2 st 0 0 l),⟨((rows++cs.take j).flatMap dI).map .pv,rows.length+j,2,62,false⟩]) trivial (by (repeat' (first|exact trivial|refine And.intro (by first|rfl|(simp[get,Nat.beq]<;>omega)|(dsimp only[get];congr 1<;>first|rfl|omega|(simp<;>omega))) ?_))) ⟨[],by (simp)<;>rfl⟩ (fun _=>⟨Nat.zero_le _,rfl,by simp[aP,ae,ck]⟩) fun j hj _=>?_
         by_cases hjc:j<cs.length
         ·have e1:=bM kQ cs j zw hjc;have hst:=aJ cs j zw hjc;have e7:=fL (rows++cs.take j);have hjl:(rows++cs.take j).length=rows.length+j:=by rw[List.length_append,List.length_take];omega
          rw[hjl]at e7;rw[hst,←List.append_assoc];clear hst;generalize cs.getD j zw=y at *;generalize rows++cs.take j=w at *;obtain⟨ts,bd⟩:=y;repeat' (first|((with_reducible show aG _);(simp only[vb,lb,e1,e2,e3,e7,g1,g2,hjt,hjc,hkc,dI,av];and_intros<;>first|omega|(simp<;>omega)))|((with_reducible show aM _);first|exact True.intro|((try dsimp only[go_sem]);(simp[vb,e1,e2,e3,e7,g1,g2,hjt,hjc,hkc,dI,av]<;>omega)))|exact(rfl:some _=_)|((fail_if_success refine aT ?_);refine br [ξ 150 (.sl cs.length (cs.flatMap dI)),ξ 160 (.sl cs.length (cs.flatMap dI)),ξ 163 (.agg [.sl ts.length (ts.flatMap j5),.int .i64 bd]),(165,{mode:=1})] ?_;(repeat1' dsimp only[tn,ae,Tree.kind,Tree.steps,Tree.cell,Tree.pos,Tree.kids,aa,ah,ai,ax,aI,aC,go_sem]);first|refine aU ?_ ?_ rfl ?_|apply aV|apply aW|(refine aX (fun hc=>?_) fun hc=>?_<;>first|(cases hc;done)|(exfalso;(simp at hc<;>omega))|(try simp only[bn]at hc;try contradiction))|skip))
          exact⟨hjc,trivial,by (repeat' (first|exact trivial|refine And.intro (by first|rfl|(simp[get,Nat.beq]<;>omega)|(dsimp only[get];congr 1<;>first|rfl|omega|(simp<;>omega))) ?_)),[],by simp[List.flatMap_append,dI,av,Nat.add_assoc]⟩
         ·obtain rfl:j=cs.length:=by omega
          rw[List.take_length];have g3:=fL (rows++cs);rw[List.length_append]at g3 hih;generalize rows++cs=rc at *;refine bz [(19,.ref 2 (rows.length+cs.length) 0 (rows.length+cs.length)),(1,.pv (ax rows)),(2,.pv (ai bb)),(5,.ptr 0 0 0),(9,.ptr 1 0 0),(10,.pv (.bool false)),(18,.pv (.int .i64 k)),(21,.pv (.int .i64 cs.length))] (by (repeat' (first|exact trivial|refine And.intro (by first|rfl|(simp[get,Nat.beq]<;>omega)|(dsimp only[get];congr 1<;>first|rfl|omega|(simp<;>omega))) ?_))) ?_
          refine(ma (μ:=[zG s,ae (.node 2 st 0 0 l)]) (ps:=rc.flatMap dI) (n:=rows.length+cs.length) (g:=rows.length+cs.length) (t:=19) (sz:=2) (by simp[aP,ae,ck]) (Nat.zero_le _) (by omega) g3 (fun _=>rfl) rfl ?_);cases qx with
          |true =>
           repeat' (first|((with_reducible show aG _);(simp only[vb,lb,e,e2,e3,f3,hlk,hkc,hjc,ah,aa,hih];and_intros<;>first|omega|(simp<;>omega)))|((with_reducible show aM _);first|exact True.intro|((try dsimp only[go_sem]);(simp[vb,e,e2,e3,f3,hlk,hkc,hjc,ah,aa,hih]<;>omega)))|exact(rfl:some _=_)|((fail_if_success refine aT ?_);refine bX [(48,fun _=>some (.bool true))] [ξ 150 (.sl cs.length (cs.flatMap dI)),ξ 173 (.agg [.int .i64 a0,.sl a1.length (a1.flatMap aw),.int .i64 a2,.int .i64 a3,.sl a4.length (a4.flatMap cy)])] ?_;(repeat1' dsimp only[tn,ae,Tree.kind,Tree.steps,Tree.cell,Tree.pos,Tree.kids,aa,ah,ai,ax,aI,aC,go_sem]);first|refine aU ?_ ?_ rfl ?_|apply aV|apply aW|(refine aX (fun hc=>?_) fun hc=>?_<;>first|(cases hc;done)|(exfalso;(simp at hc<;>omega))|(try simp only[bn]at hc;try contradiction))|skip))
           exact⟨k+1,by show l.length-(k+1)<l.length-k;omega,⟨by show k+1≤_;omega,by rw[←q2];simpa using hrest⟩,by (repeat' (first|exact trivial|refine And.intro (by first|rfl|(simp[get,Nat.beq]<;>omega)|(dsimp only[get];congr 1<;>first|rfl|omega|(simp<;>omega))) ?_)),_,rfl⟩
          |false =>
           repeat' (first|((with_reducible show aG _);first|exact True.intro|(simp only[vb,lb,e,e2,e3,f3,hlk,hkc,hjc,ah,aa,hih];and_intros<;>first|omega|(simp<;>omega)))|((with_reducible show aM _);first|exact True.intro|((try dsimp only[go_sem]);(simp[vb,e,e2,e3,f3,hlk,hkc,hjc,ah,aa,hih]<;>omega)))|exact(rfl:some _=_)|((fail_if_success refine aT ?_);refine bX [(48,fun _=>some (.bool false))] [ξ 150 (.sl cs.length (cs.flatMap dI)),ξ 173 (.agg [.int .i64 a0,.sl a1.length (a1.flatMap aw),.int .i64 a2,.int .i64 a3,.sl a4.length (a4.flatMap cy)])] ?_;(repeat1' dsimp only[tn,ae,Tree.kind,Tree.steps,Tree.cell,Tree.pos,Tree.kids,aa,ah,ai,ax,aI,aC,go_sem]);first|refine aU ?_ ?_ rfl ?_|apply aV|apply aW|(refine aX (fun hc=>?_) fun hc=>?_<;>first|(cases hc;done)|(exfalso;(simp at hc<;>omega))|(try simp only[bn]at hc;try contradiction))|skip))
           rw[←q2];rfl
       ·obtain rfl:k=l.length:=by omega
        rw[List.drop_of_length_le (by simp),np]at q2;subst q2;repeat' (first|((with_reducible show aG _);first|exact True.intro|(simp only[vb,lb,hlc];and_intros<;>first|omega|(simp<;>omega)))|((with_reducible show aM _);exact True.intro)|exact(rfl:some _=_)|((fail_if_success refine aT ?_);refine aZ ?_;(repeat1' dsimp only[tn,ae,Tree.kind,Tree.steps,Tree.cell,Tree.pos,Tree.kids,aa,ah,ai,ax,aI,aC,go_sem]);first|refine aU ?_ ?_ rfl ?_|apply aV|apply aW|(refine aX (fun hc=>?_) fun hc=>?_<;>first|(cases hc;done)|(exfalso;(simp at hc<;>omega))|(try simp only[bn]at hc;try contradiction))|skip))
        all_goals (intro _ _ _ _ h;cases h)
      ·rw[decide_eq_false hlc];have hlc':¬(l.length:Int)=(s.cases.length:Int):=by omega
       repeat' (first|((with_reducible show aG _);first|exact True.intro|(simp only[vb,lb,hlt,hlc'];and_intros<;>first|omega|(simp<;>omega)))|((with_reducible show aM _);first|exact True.intro|((try dsimp only[go_sem]);(simp[vb,hlt,hlc']<;>omega)))|exact(rfl:some _=_)|((fail_if_success refine aT ?_);refine br [ξ 57 (.bool false),ξ 114 (.bool true),ξ 122 (.bool false),ξ 123 (.bool false)] ?_;(repeat1' dsimp only[tn,ae,Tree.kind,Tree.steps,Tree.cell,Tree.pos,Tree.kids,aa,ah,ai,ax,aI,aC,go_sem]);first|refine aU ?_ ?_ rfl ?_|apply aV|apply aW|(refine aX (fun hc=>?_) fun hc=>?_<;>first|(cases hc;done)|(exfalso;(simp at hc<;>omega))|(try simp only[bn]at hc;try contradiction))|skip))
    ·rw[show nU s kd c a (l.map (bf s)) rows bb ch=false by rw[nU,if_neg hk1,if_neg hk2]];repeat' (first|((with_reducible show aG _);first|exact True.intro|(simp only[vb,lb,hk1,hk2];and_intros<;>first|omega|(simp<;>omega)))|((with_reducible show aM _);first|exact True.intro|((try dsimp only[go_sem]);(simp[vb,hk1,hk2]<;>omega)))|exact(rfl:some _=_)|((fail_if_success refine aT ?_);refine aZ ?_;(repeat1' dsimp only[tn,ae,Tree.kind,Tree.steps,Tree.cell,Tree.pos,Tree.kids,aa,ah,ai,ax,aI,aC,go_sem]);first|refine aU ?_ ?_ rfl ?_|apply aV|apply aW|(refine aX (fun hc=>?_) fun hc=>?_<;>first|(cases hc;done)|(exfalso;(simp at hc<;>omega))|(try simp only[bn]at hc;try contradiction))|skip))
end
section
open Rf
def Hs:ay:=(⟨_,by conv=>(lhs;reduce;try simp only[cJ,Int.cast_ofNat_Int,Int.reduceNegSucc,UInt8.reduceOfNat])⟩:{x // codeOf Tryz.prog 23 (fun _=>false)=some x}).1
theorem Ht:bp Tryz.prog 23 (fun _=>false)=some (Hs,[.t 4],20,true):=by kernel_rfl
theorem qJ (s:Sy) (hs:Ca s) (t:Tree) (ht:wt t≤1000000000):aj ctx 23 [xU s,aA t] (.bool (k8 s t)):=by
 have h1:=kD s hs;have h2:=vx t ht;have h3:im s=true→eV t=true→aj ctx 48 [.agg [ai s.box,ax s.rows,aI s.graphs,aC s.cases],ax s.rows,ai s.box,.bool false,aA t] (.bool (bf s t s.rows s.box false)):=fun a b=>by
  obtain⟨g1,g2,g3⟩:=uI.of a hs;obtain⟨m1,m2,m3⟩:=Az.sys a;simp only[eV,Bool.and_eq_true]at b;have hb:s.box.length≤128:=by
   simp only[cz,Bool.and_eq_true,decide_eq_true_eq]at m2;exact m2.2
  exact xV s g1 s.box.length m1 t b.2 ht s.rows s.box false g3 hs.rt m3 rfl hb (.inr m2)
 unfold k8;generalize bf s t s.rows s.box false=q3 at *;generalize im s=q1 at *;generalize eV t=q2 at *;unfold ai ax aI aC at h1 h3;simp only[aA]at h2 h3;unfold aa ah at h2 h3;cases q1 with
 |false =>
  refine af (C:=ctx) (Fn.of Ht rfl) rfl ?_;unfold Hs;repeat' (first|((with_reducible show aG _);first|exact True.intro|(simp only[vb,lb,h1,h2];and_intros<;>first|omega|(simp<;>omega)))|((with_reducible show aM _);first|exact True.intro|((try dsimp only[go_sem]);(simp[vb,h1,h2]<;>omega)))|exact(rfl:some _=_)|((fail_if_success refine aT ?_);refine fu [(30,fun _=>some (.bool false)),(14,fun _=>some (.bool q2)),(48,fun _=>some (.bool q3))] ?_;(repeat1' dsimp only[Hs,aA,aa,ah,ai,ax,aI,aC,go_sem]);first|refine aU ?_ ?_ rfl ?_|apply aV|apply aW|(refine aX (fun hc=>?_) fun hc=>?_<;>first|(cases hc;done)|(try simp only[bn]at hc;try contradiction))|skip))
 |true =>
  cases q2 with
  |false =>
   refine af (C:=ctx) (Fn.of Ht rfl) rfl ?_;unfold Hs;repeat' (first|((with_reducible show aG _);first|exact True.intro|(simp only[vb,lb,h1,h2];and_intros<;>first|omega|(simp<;>omega)))|((with_reducible show aM _);first|exact True.intro|((try dsimp only[go_sem]);(simp[vb,h1,h2]<;>omega)))|exact(rfl:some _=_)|((fail_if_success refine aT ?_);refine fu [(30,fun _=>some (.bool true)),(14,fun _=>some (.bool false)),(48,fun _=>some (.bool q3))] ?_;(repeat1' dsimp only[Hs,aA,aa,ah,ai,ax,aI,aC,go_sem]);first|refine aU ?_ ?_ rfl ?_|apply aV|apply aW|(refine aX (fun hc=>?_) fun hc=>?_<;>first|(cases hc;done)|(try simp only[bn]at hc;try contradiction))|skip))
  |true =>
   have h3:=h3 rfl rfl;refine af (C:=ctx) (Fn.of Ht rfl) rfl ?_;unfold Hs;repeat' (first|((with_reducible show aG _);first|exact True.intro|(simp only[vb,lb,h1,h2,h3];and_intros<;>first|omega|(simp<;>omega)))|((with_reducible show aM _);first|exact True.intro|((try dsimp only[go_sem]);(simp[vb,h1,h2,h3]<;>omega)))|exact(rfl:some _=_)|((fail_if_success refine aT ?_);refine fu [(30,fun _=>some (.bool true)),(14,fun _=>some (.bool true)),(48,fun _=>some (.bool q3))] ?_;(repeat1' dsimp only[Hs,aA,aa,ah,ai,ax,aI,aC,go_sem]);first|refine aU ?_ ?_ rfl ?_|apply aV|apply aW|(refine aX (fun hc=>?_) fun hc=>?_<;>first|(cases hc;done)|(try simp only[bn]at hc;try contradiction))|skip))
end
section
open Rf
noncomputable def uL (s:Sy) (t:Tree):PV:=if k8 s t=true then .tup [aA (DP s t),.int .i64 0] else .tup [aA zt,.int .i64 1]
def Hu:ay:=(⟨_,by conv=>(lhs;reduce;try simp only[cJ,Int.cast_ofNat_Int,Int.reduceNegSucc,UInt8.reduceOfNat])⟩:{x // codeOf Tryz.prog 24 (fun _=>false)=some x}).1
theorem Gs:bp Tryz.prog 24 (fun _=>false)=some (Hu,[.cell 4 5 true,.t 5],38,true):=by kernel_rfl
theorem FL (s:Sy) (hs:Ca s) (t:Tree) (hw:wt t≤1000000000):aj ctx 24 [xU s,aA t] (uL s t):=by
 have hc:=xQ s hs t hw;try unfold xU at hc
 unfold aA ah aa ai ax aI aC at hc;unfold uL;by_cases hck:k8 s t=true
 ·rw[if_pos hck];rw[hck]at hc;have hsw:=gV t;have hwo:=s8 t hw (-1) (by omega) (by omega);rw[AA t (-1) (.inl (by omega))]at hwo;unfold aA ah aa at hwo;refine af (C:=ctx) (Fn.of Gs rfl) rfl ?_;unfold Hu;repeat' (first|((with_reducible show aG _);first|exact True.intro|(simp only[vb,lb,hc,hwo];and_intros<;>first|omega|(simp<;>omega)))|((with_reducible show aM _);first|exact True.intro|((try dsimp only[go_sem]);(simp only[vb,and_true,true_implies];(repeat' (first|(with_reducible assumption)|(with_reducible apply And.intro)|intro _|((fail_if_success (with_reducible show(_:Int)≤_));assumption))))))|exact(rfl:some _=_)|((fail_if_success refine aT ?_);refine fu [(22,fun _=>some (.bool true)),(49,fun _=>some (.tup [qI t,.int .i64 (bU t:Nat)]))] ?_;(repeat1' dsimp only[c24,aA,Tree.kind,Tree.steps,Tree.cell,Tree.pos,Tree.kids,aa,ah,ai,ax,aI,aC,go_sem]);first|refine aU ?_ ?_ rfl ?_|apply aV|apply aW|(refine aX (fun hc=>?_) fun hc=>?_<;>first|(cases hc;done)|(try simp only[bn]at hc;try contradiction))|skip))
  refine cC (σ:=Nat×Tree) (fun q=>n5 s q.1 q.2=DP s t∧wt q.2≤1000000000∧q.1≤1000000000)
   (fun q=>[(2,.ptr 0 0 0),(3,.ptr 1 0 0),(4,.ptr 2 0 0),(6,.ptr 3 0 0),(8,.pv (.int .i64 (q.1-1:Int)))])
   (fun q=>[zG s,ae t,aE,ae q.2]) (fun q=>q.1) (bU t,t) ⟨rfl,hw,by show bU t≤_;omega⟩ (by (repeat' (first|exact trivial|refine And.intro (by first|rfl|(simp[get,Nat.beq]<;>omega)|(dsimp only[get];congr 1<;>first|rfl|omega|(simp<;>omega))) ?_))) ⟨[],rfl⟩ (fun _ _=>⟨Nat.zero_le _,rfl,by simp[aP,ae,aE,ck]⟩) fun q hq=>?_
  obtain⟨i,out⟩:=q;obtain⟨q1,q2,q3⟩:=hq;simp only at q1 q2 q3 ⊢;clear hc hwo;cases i with
  |zero =>
   rw[n5]at q1;subst q1;repeat' (first|((with_reducible show aG _);first|exact True.intro|(simp[vb]<;>omega))|((with_reducible show aM _);exact True.intro)|exact(rfl:some _=_)|((fail_if_success refine aT ?_);refine aZ ?_;(repeat1' dsimp only[c24,ae,aE,Tree.kind,Tree.steps,Tree.cell,Tree.pos,Tree.kids,aa,ah,ai,ax,aI,aC,go_sem]);first|refine aU ?_ ?_ rfl ?_|apply aV|apply aW|(refine aX (fun hc=>?_) fun hc=>?_<;>first|(cases hc;done)|(try simp only[bn]at hc;try contradiction))|skip))
  |succ i =>
   rw[n5]at q1;have hso:=gV out;have hwo:=s8 out q2 i (by omega) (by omega);have hwc:=vG out i;have hc2:=xQ s hs (la out i) (by omega);generalize la out i=x at *;generalize k8 s x=q at *;try unfold xU at hc2
   unfold aA ah aa ai ax aI aC at hc2;unfold aA ah aa at hwo;have hi1:((i+1:Nat):Int)-1=(i:Nat):=by omega
   rw[hi1];cases q with
   |true =>
    simp only[if_true]at q1;repeat' (first|((with_reducible show aG _);first|exact True.intro|(simp only[vb,lb,hc2,hwo];and_intros<;>first|omega|(simp<;>omega)))|((with_reducible show aM _);first|exact True.intro|((try dsimp only[go_sem]);(simp only[vb,and_true,true_implies];(repeat' (first|(with_reducible assumption)|(with_reducible apply And.intro)|intro _|((fail_if_success (with_reducible show(_:Int)≤_));assumption))))))|exact(rfl:some _=_)|((fail_if_success refine aT ?_);refine fu [(22,fun _=>some (.bool true)),(49,fun _=>some (.tup [qI x,.int .i64 (bU out:Nat)]))] ?_;(repeat1' dsimp only[c24,ae,aE,Tree.kind,Tree.steps,Tree.cell,Tree.pos,Tree.kids,aa,ah,ai,ax,aI,aC,go_sem]);first|refine aU ?_ ?_ rfl ?_|apply aV|apply aW|(refine aX (fun hc=>?_) fun hc=>?_<;>first|(cases hc;done)|(try simp only[bn]at hc;try contradiction))|skip))
    exact⟨(i,x),by show i<i+1;omega,⟨q1,by show wt x≤_;omega,by show i≤_;omega⟩,by (repeat' (first|exact trivial|refine And.intro (by first|rfl|(simp[get,Nat.beq]<;>omega)|(dsimp only[get];congr 1<;>first|rfl|omega|(simp<;>omega))) ?_)),_,rfl⟩
   |false =>
    simp only[Bool.false_eq_true,if_false]at q1;repeat' (first|((with_reducible show aG _);first|exact True.intro|(simp only[vb,lb,hc2,hwo];and_intros<;>first|omega|(simp<;>omega)))|((with_reducible show aM _);first|exact True.intro|((try dsimp only[go_sem]);(simp only[vb,and_true,true_implies];(repeat' (first|(with_reducible assumption)|(with_reducible apply And.intro)|intro _|((fail_if_success (with_reducible show(_:Int)≤_));assumption))))))|exact(rfl:some _=_)|((fail_if_success refine aT ?_);refine fu [(22,fun _=>some (.bool false)),(49,fun _=>some (.tup [qI x,.int .i64 (bU out:Nat)]))] ?_;(repeat1' dsimp only[c24,ae,aE,Tree.kind,Tree.steps,Tree.cell,Tree.pos,Tree.kids,aa,ah,ai,ax,aI,aC,go_sem]);first|refine aU ?_ ?_ rfl ?_|apply aV|apply aW|(refine aX (fun hc=>?_) fun hc=>?_<;>first|(cases hc;done)|(try simp only[bn]at hc;try contradiction))|skip))
    exact⟨(i,out),by show i<i+1;omega,⟨q1,q2,by show i≤_;omega⟩,by (repeat' (first|exact trivial|refine And.intro (by first|rfl|(simp[get,Nat.beq]<;>omega)|(dsimp only[get];congr 1<;>first|rfl|omega|(simp<;>omega))) ?_)),_,rfl⟩
 ·rw[if_neg hck];rw[Bool.eq_false_iff.mpr hck]at hc;refine aj.p6 3 (r:=.tup [.agg [.int .i64 0,.nilsl,.int .i64 0,.int .i64 0,.nilsl],.int .i64 1]) ?_;refine af (C:=ctx) (Fn.of Gs rfl) rfl ?_;unfold Hu;repeat' (first|((with_reducible show aG _);first|exact True.intro|(simp only[vb,lb,hc];and_intros<;>first|omega|(simp<;>omega)))|((with_reducible show aM _);first|exact True.intro|((try dsimp only[go_sem]);(simp only[vb,and_true,true_implies];(repeat' (first|(with_reducible assumption)|(with_reducible apply And.intro)|intro _|((fail_if_success (with_reducible show(_:Int)≤_));assumption))))))|exact(rfl:some _=_)|((fail_if_success refine aT ?_);refine fu [(22,fun _=>some (.bool false))] ?_;(repeat1' dsimp only[c24,aA,zt,Tree.kind,Tree.steps,Tree.cell,Tree.pos,Tree.kids,aa,ah,ai,ax,aI,aC,go_sem]);first|refine aU ?_ ?_ rfl ?_|apply aV|apply aW|(refine aX (fun hc=>?_) fun hc=>?_<;>first|(cases hc;done)|(try simp only[bn]at hc;try contradiction))|skip))
def Gt:ay:=(⟨_,by conv=>(lhs;reduce;try simp only[cJ,Int.cast_ofNat_Int,Int.reduceNegSucc,UInt8.reduceOfNat])⟩:{x // codeOf Tryz.prog 25 (fun _=>false)=some x}).1
theorem Iu:bp Tryz.prog 25 (fun _=>false)=some (Gt,[.cell 4 5 true,.t 5],39,true):=by kernel_rfl
theorem zH (s:Sy) (hs:Ca s) (t:Tree) (hw:wt t≤1000000000):aj ctx 25 [xU s,aA t] (uL s t):=by
 have hc:=qJ s hs t hw;have hst:=xd t hw;unfold aA ah aa at hst;try unfold xU at hc
 unfold aA ah aa ai ax aI aC at hc;unfold uL;by_cases hck:k8 s t=true
 ·rw[if_pos hck];rw[hck]at hc;have hsw:=gV t;have hwo:=n8 t hw (-1) (by omega) (by omega);rw[AA t (-1) (.inl (by omega))]at hwo;unfold aA ah aa at hwo;refine af (C:=ctx) (Fn.of Iu rfl) rfl ?_;unfold Gt;repeat' (first|((with_reducible show aG _);first|exact True.intro|(simp only[vb,lb,hc,hwo,hst];and_intros<;>first|omega|(simp<;>omega)))|((with_reducible show aM _);first|exact True.intro|((try dsimp only[go_sem]);(simp only[vb,and_true,true_implies];(repeat' (first|(with_reducible assumption)|(with_reducible apply And.intro)|intro _|((fail_if_success (with_reducible show(_:Int)≤_));assumption))))))|exact(rfl:some _=_)|((fail_if_success refine aT ?_);refine fu [(23,fun _=>some (.bool true)),(33,fun _=>some (.tup [qI t,.int .i64 (-1-bU t)])),(16,fun _=>some (.int .i64 (bU t:Nat)))] ?_;(repeat1' dsimp only[Gt,aA,Tree.kind,Tree.steps,Tree.cell,Tree.pos,Tree.kids,aa,ah,ai,ax,aI,aC,go_sem]);first|refine aU ?_ ?_ rfl ?_|apply aV|apply aW|(refine aX (fun hc=>?_) fun hc=>?_<;>first|(cases hc;done)|(try simp only[bn]at hc;try contradiction))|skip))
  refine cC (σ:=Nat×Tree) (fun q=>n5 s q.1 q.2=DP s t∧wt q.2≤1000000000∧q.1≤1000000000)
   (fun q=>[(2,.ptr 0 0 0),(3,.ptr 1 0 0),(4,.ptr 2 0 0),(6,.ptr 3 0 0),(8,.pv (.int .i64 (q.1-1:Int)))])
   (fun q=>[zG s,ae t,aE,ae q.2]) (fun q=>q.1) (bU t,t) ⟨rfl,hw,by show bU t≤_;omega⟩ (by (repeat' (first|exact trivial|refine And.intro (by first|rfl|(simp[get,Nat.beq]<;>omega)|(dsimp only[get];congr 1<;>first|rfl|omega|(simp<;>omega))) ?_))) ⟨[],rfl⟩ (fun _ _=>⟨Nat.zero_le _,rfl,by simp[aP,ae,aE,ck]⟩) fun q hq=>?_
  obtain⟨i,out⟩:=q;obtain⟨q1,q2,q3⟩:=hq;simp only at q1 q2 q3 ⊢;clear hc hwo;cases i with
  |zero =>
   rw[n5]at q1;subst q1;repeat' (first|((with_reducible show aG _);first|exact True.intro|(simp[vb]<;>omega))|((with_reducible show aM _);exact True.intro)|exact(rfl:some _=_)|((fail_if_success refine aT ?_);refine aZ ?_;(repeat1' dsimp only[Gt,ae,aE,Tree.kind,Tree.steps,Tree.cell,Tree.pos,Tree.kids,aa,ah,ai,ax,aI,aC,go_sem]);first|refine aU ?_ ?_ rfl ?_|apply aV|apply aW|(refine aX (fun hc=>?_) fun hc=>?_<;>first|(cases hc;done)|(try simp only[bn]at hc;try contradiction))|skip))
  |succ i =>
   rw[n5]at q1;have hso:=gV out;have hwo:=n8 out q2 i (by omega) (by omega);have hwc:=vG out i;have hc2:=qJ s hs (la out i) (by omega);generalize la out i=x at *;generalize k8 s x=q at *;try unfold xU at hc2
   unfold aA ah aa ai ax aI aC at hc2;unfold aA ah aa at hwo;have hi1:((i+1:Nat):Int)-1=(i:Nat):=by omega
   rw[hi1];cases q with
   |true =>
    simp only[if_true]at q1;repeat' (first|((with_reducible show aG _);first|exact True.intro|(simp only[vb,lb,hc2,hwo];and_intros<;>first|omega|(simp<;>omega)))|((with_reducible show aM _);first|exact True.intro|((try dsimp only[go_sem]);(simp only[vb,and_true,true_implies];(repeat' (first|(with_reducible assumption)|(with_reducible apply And.intro)|intro _|((fail_if_success (with_reducible show(_:Int)≤_));assumption))))))|exact(rfl:some _=_)|((fail_if_success refine aT ?_);refine fu [(23,fun _=>some (.bool true)),(33,fun _=>some (.tup [qI x,.int .i64 (i-bU out)]))] ?_;(repeat1' dsimp only[Gt,ae,aE,Tree.kind,Tree.steps,Tree.cell,Tree.pos,Tree.kids,aa,ah,ai,ax,aI,aC,go_sem]);first|refine aU ?_ ?_ rfl ?_|apply aV|apply aW|(refine aX (fun hc=>?_) fun hc=>?_<;>first|(cases hc;done)|(try simp only[bn]at hc;try contradiction))|skip))
    exact⟨(i,x),by show i<i+1;omega,⟨q1,by show wt x≤_;omega,by show i≤_;omega⟩,by (repeat' (first|exact trivial|refine And.intro (by first|rfl|(simp[get,Nat.beq]<;>omega)|(dsimp only[get];congr 1<;>first|rfl|omega|(simp<;>omega))) ?_)),_,rfl⟩
   |false =>
    simp only[Bool.false_eq_true,if_false]at q1;repeat' (first|((with_reducible show aG _);first|exact True.intro|(simp only[vb,lb,hc2,hwo];and_intros<;>first|omega|(simp<;>omega)))|((with_reducible show aM _);first|exact True.intro|((try dsimp only[go_sem]);(simp only[vb,and_true,true_implies];(repeat' (first|(with_reducible assumption)|(with_reducible apply And.intro)|intro _|((fail_if_success (with_reducible show(_:Int)≤_));assumption))))))|exact(rfl:some _=_)|((fail_if_success refine aT ?_);refine fu [(23,fun _=>some (.bool false)),(33,fun _=>some (.tup [qI x,.int .i64 (i-bU out)]))] ?_;(repeat1' dsimp only[Gt,ae,aE,Tree.kind,Tree.steps,Tree.cell,Tree.pos,Tree.kids,aa,ah,ai,ax,aI,aC,go_sem]);first|refine aU ?_ ?_ rfl ?_|apply aV|apply aW|(refine aX (fun hc=>?_) fun hc=>?_<;>first|(cases hc;done)|(try simp only[bn]at hc;try contradiction))|skip))
    exact⟨(i,out),by show i<i+1;omega,⟨q1,q2,by show i≤_;omega⟩,by (repeat' (first|exact trivial|refine And.intro (by first|rfl|(simp[get,Nat.beq]<;>omega)|(dsimp only[get];congr 1<;>first|rfl|omega|(simp<;>omega))) ?_)),_,rfl⟩
 ·rw[if_neg hck];rw[Bool.eq_false_iff.mpr hck]at hc;refine aj.p6 3 (r:=.tup [.agg [.int .i64 0,.nilsl,.int .i64 0,.int .i64 0,.nilsl],.int .i64 1]) ?_;refine af (C:=ctx) (Fn.of Iu rfl) rfl ?_;unfold Gt;repeat' (first|((with_reducible show aG _);first|exact True.intro|(simp only[vb,lb,hc];and_intros<;>first|omega|(simp<;>omega)))|((with_reducible show aM _);first|exact True.intro|((try dsimp only[go_sem]);(simp only[vb,and_true,true_implies];(repeat' (first|(with_reducible assumption)|(with_reducible apply And.intro)|intro _|((fail_if_success (with_reducible show(_:Int)≤_));assumption))))))|exact(rfl:some _=_)|((fail_if_success refine aT ?_);refine fu [(23,fun _=>some (.bool false))] ?_;(repeat1' dsimp only[Gt,aA,zt,Tree.kind,Tree.steps,Tree.cell,Tree.pos,Tree.kids,aa,ah,ai,ax,aI,aC,go_sem]);first|refine aU ?_ ?_ rfl ?_|apply aV|apply aW|(refine aX (fun hc=>?_) fun hc=>?_<;>first|(cases hc;done)|(try simp only[bn]at hc;try contradiction))|skip))
end
section
open Rf
def c5:ay:=(⟨_,by conv=>(lhs;reduce;try simp only[cJ,Int.cast_ofNat_Int,Int.reduceNegSucc,UInt8.reduceOfNat])⟩:{x // codeOf Tryz.prog 5 (fun _=>false)=some x}).1
theorem ID:bp Tryz.prog 5 (fun _=>false)=some (c5,[.t 4],39,true):=by kernel_rfl
theorem D9 (s:Sy) (hs:Ca s) (t:Tree) (hw:vy 1048576 t):aj ctx 5 [xU s,aA t] (.bool true):=by
 have h0:=DJ;have h1:=Ho s hs 2000;have h2:=Bt t hw 120 (by omega) (by omega);generalize Hn s 2000=fb at *;unfold ai ax aI aC at h1;by_cases hwt:(wt t:Int)≤120
 ·have h3:=FL s hs t (by omega);have h4:=zH s hs t (by omega);obtain⟨u,e,hu,he⟩:∃(u:Tree) (e:Int),wt u≤1000000000∧uL s t= .tup [aA u,.int .i64 e]:=by
   unfold uL;split
   ·exact⟨_,_,Nat.le_trans (xK s _ t) (by omega),rfl⟩
   ·exact⟨zt,1,by unfold zt;rw[bE];simp[fg],rfl⟩
  have h5:=EM u u hu hu true (by simp);rw[decide_eq_true hwt]at h2;rw[he]at h3 h4;try unfold xU at h3
  try unfold xU at h4
  unfold ai ax aI aC at h3 h4;unfold aA aa ah at h2 h3 h4 h5;cases fb with
  |false =>
   refine af (C:=ctx) (Fn.of ID rfl) rfl ?_;unfold c5;repeat' (first|((with_reducible show aG _);first|exact True.intro|(simp only[vb,lb,h0,h1,h2];and_intros<;>first|omega|(simp<;>omega)))|((with_reducible show aM _);first|exact True.intro|((try dsimp only[go_sem]);(simp[vb,h0,h1,h2]<;>omega)))|exact(rfl:some _=_)|((fail_if_success refine aT ?_);refine fu [(11,fun _=>some (.bool true)),(21,fun _=>some (.bool false)),(12,fun _=>some (.bool true))] ?_;(repeat1' dsimp only[c5,aA,Tree.kind,Tree.steps,Tree.cell,Tree.pos,Tree.kids,aa,ah,ai,ax,aI,aC,go_sem]);first|refine aU ?_ ?_ rfl ?_|apply aV|apply aW|(refine aX (fun hc=>?_) fun hc=>?_<;>first|(cases hc;done)|(try simp only[bn]at hc;try contradiction))|skip))
  |true =>
   refine af (C:=ctx) (Fn.of ID rfl) rfl ?_;unfold c5;repeat' (first|((with_reducible show aG _);first|exact True.intro|(simp only[vb,lb,h0,h1,h2,h3,h4,h5];and_intros<;>first|omega|(simp<;>omega)))|((with_reducible show aM _);first|exact True.intro|((try dsimp only[go_sem]);first|(simp[vb,h0,h1,h2,h3,h4,h5]<;>omega)|(simp only[vb,and_true,true_implies];(repeat' (first|(with_reducible assumption)|(with_reducible apply And.intro)|intro _|((fail_if_success (with_reducible show(_:Int)≤_));assumption)))<;>first|omega|(simp[Nat.mul_one,h0,h1,h2,h3,h4,h5]<;>omega))))|exact(rfl:some _=_)|((fail_if_success refine aT ?_);refine bX [(11,fun _=>some (.bool true)),(21,fun _=>some (.bool true)),(12,fun _=>some (.bool true)),(24,fun _=>some (.tup [qI u,.int .i64 e])),(25,fun _=>some (.tup [qI u,.int .i64 e])),(20,fun _=>some (.bool true))] [ξ 33 (.bool true)] ?_;(repeat1' dsimp only[c5,aA,Tree.kind,Tree.steps,Tree.cell,Tree.pos,Tree.kids,aa,ah,ai,ax,aI,aC,go_sem]);first|refine aU ?_ ?_ rfl ?_|apply aV|apply aW|(refine aX (fun hc=>?_) fun hc=>?_<;>first|(cases hc;done)|(try simp only[bn]at hc;try contradiction))|skip))
 ·rw[decide_eq_false hwt]at h2;unfold aA aa ah at h2;cases fb with
  |false =>
   refine af (C:=ctx) (Fn.of ID rfl) rfl ?_;unfold c5;repeat' (first|((with_reducible show aG _);first|exact True.intro|(simp only[vb,lb,h0,h1,h2];and_intros<;>first|omega|(simp<;>omega)))|((with_reducible show aM _);first|exact True.intro|((try dsimp only[go_sem]);(simp[vb,h0,h1,h2]<;>omega)))|exact(rfl:some _=_)|((fail_if_success refine aT ?_);refine fu [(11,fun _=>some (.bool true)),(21,fun _=>some (.bool false)),(12,fun _=>some (.bool false))] ?_;(repeat1' dsimp only[c5,aA,Tree.kind,Tree.steps,Tree.cell,Tree.pos,Tree.kids,aa,ah,ai,ax,aI,aC,go_sem]);first|refine aU ?_ ?_ rfl ?_|apply aV|apply aW|(refine aX (fun hc=>?_) fun hc=>?_<;>first|(cases hc;done)|(try simp only[bn]at hc;try contradiction))|skip))
  |true =>
   refine af (C:=ctx) (Fn.of ID rfl) rfl ?_;unfold c5;repeat' (first|((with_reducible show aG _);first|exact True.intro|(simp only[vb,lb,h0,h1,h2];and_intros<;>first|omega|(simp<;>omega)))|((with_reducible show aM _);first|exact True.intro|((try dsimp only[go_sem]);first|(simp[vb,h0,h1,h2]<;>omega)|(simp only[vb,and_true,true_implies];(repeat' (first|(with_reducible assumption)|(with_reducible apply And.intro)|intro _|((fail_if_success (with_reducible show(_:Int)≤_));assumption)))<;>omega)))|exact(rfl:some _=_)|((fail_if_success refine aT ?_);refine fu [(11,fun _=>some (.bool true)),(21,fun _=>some (.bool true)),(12,fun _=>some (.bool false))] ?_;(repeat1' dsimp only[c5,aA,Tree.kind,Tree.steps,Tree.cell,Tree.pos,Tree.kids,aa,ah,ai,ax,aI,aC,go_sem]);first|refine aU ?_ ?_ rfl ?_|apply aV|apply aW|(refine aX (fun hc=>?_) fun hc=>?_<;>first|(cases hc;done)|(try simp only[bn]at hc;try contradiction))|skip))
end
section
open Rf
theorem xW (qs:List PV) (h:sq Tryz.prog 1048576 [36,25] qs):aj ctx 5 qs (.bool true):=by
 match qs,h with
 |[p0,p1],h =>
  obtain⟨h0,h1,-⟩:=h;obtain⟨s,rfl,hs⟩:=J0 (by omega) h0;obtain⟨t,rfl,ht⟩:=HM h1;exact D9 s hs t ht
end
end Pur
end
end Go.Proofs.YtaleoeblooeglaaGreatDoor
namespace Go.Proofs.YtaleoeblooeglaaGreatDoor.lawTrims
open Go.ChangeShapes Go.WideShapes Go.ChangeAt Go.RowKit
theorem Ea (H:Type) (enc:TypeId×Value→H) (W:World) (base:Nat) (args:Array Value) (ds gs:List (DataW H)) (before:List MemPlace)
  (hval:∀(j:Nat) t v,Tryz.f5.params[j]?=some t→args[j]?=some v→Value.okWide Tryz.prog W .any base t v)
  (hW:DataW.Whole enc Tryz.prog Tryz.f5.params.toList Rows.refutationTrimsSpec.vars false W args.toList ds gs before) (hk:Rows.uptoSmall H (ds++gs)=true) (hL:laidMetH Tryz.prog Rows.refutationTrimsUptoRow.laid W) (hsh:W.ShapedOpen Tryz.prog) :
  Calls Tryz.prog 5 args W fun e W'=>∃v,e= .returned v∧Rows.refutationTrimsSpec.post enc Tryz.prog Tryz.f5 false true false false W args v W':=by
 have hW':=hW;obtain⟨p,q,hA0,hV,rfl,hfz,hnd⟩:=hW;have hA:DataW.TrodAll enc Tryz.prog W 0 (fun _=>true) true [36,25] args.toList ds p:=hA0;obtain⟨rfl,rfl⟩:=trodVars_none hV;obtain⟨qs,hty,hps⟩:=Pur.w5 (B:=1048576) (Sm:=(fun d:DataW H=>Rows.uptoBulk d≤1048576)) Pur.wZ.upto (L:=[36,25,3,57,31,32,33,34,62,99,107,60,49,22,66,23]) (r:=.any) (b:=base) (by kernel_rfl) [36,25] args.toList ds p (of_decide_eq_true rfl) (fun j t v h1 h2=>hval j t v (by
  rw[Tryz.params5,List.getElem?_toArray];exact h1) (by rw[Array.getElem?_toList]at h2;exact h2)) hA (fun d hd=>Pur.CZ hk d (List.mem_append_left _ hd))
 have hst:∀(W':World) (sp:Nat→Bool),Below W.heap.size W W'→(∀x∈p++[],sp x.block=true)→DataW.TrodAll enc Tryz.prog W' 0 sp true [36,25] args.toList ds p:=fun W' sp hb hsp =>
  Pur.w6 (by kernel_rfl) _ _ _ _ (of_decide_eq_true (by kernel_rfl)) (fun x hx=>Pur.yU hb (hW'.lt x (List.mem_append_left _ hx))) (fun x hx=>hsp x (List.mem_append_left _ hx)) hA
 have hE:=Cd.GI hL hsh;obtain⟨v0,vs0,d0,ds0,p0,q0,hargs,rfl,hp0,h0,r0⟩:=trodAll_cons hA;obtain⟨v1,vs1,d1,ds1,p1,q1,rfl,rfl,hp1,h1,r1⟩:=trodAll_cons r0;obtain⟨rfl,rfl,rfl⟩:=trodAll_nil r1;obtain rfl:args=#[v0,v1]:=by cases args;simp_all
 refine((Pur.xW qs hty).2 W (Pur.pd W) [v0,v1] hE (fun g h=>h) hps).mono fun e W' hh=>?_
 obtain⟨v,he,hb,hv⟩:=hh;have:=Pur.w8 hv;subst this;subst he;exact⟨_,rfl,yS (pa:=p) (pv:=[]) hW' (fun _ _ _=>trodAll_cons_mk (shut_bool Tryz.underlying4 _) trodAll_mk0)
  (fun sp hsp=>hst W' sp hb hsp) (fun _ _=>rfl) rfl
  hb (ok_one (by kernel_rfl) rfl (okWide_bool_mk Tryz.underlying4 _))⟩
def start:Array Value:=#[.agg #[.slice none 0 0,.slice none 0 0,.slice none 0 0,.slice none 0 0],.agg #[.int .i64 0,.slice none 0 0,.int .i64 0,.int .i64 0,.slice none 0 0]]
theorem met (os:Os):laidMet Tryz.prog Rows.refutationTrimsUptoRow.laid ((World.laidAll Tryz.prog os Rows.refutationTrimsUptoRow.laid).forCall (fun _ _=>0) ⟨#[],start,[]⟩).memory :=
 laidMet_laidAll _ (by kernel_rfl) (by kernel_rfl)
theorem reads (os:Os) {H:Type} (enc:TypeId×Value→H):∃places,DataW.whole enc Tryz.prog ((World.laidAll Tryz.prog os Rows.refutationTrimsUptoRow.laid).forCall (fun _ _=>0) ⟨#[],start,[]⟩).memory Tryz.f5.params.toList Rows.refutationTrimsSpec.vars false start.toList 8=some ([.agg [.nil,.nil,.nil,.nil],.agg [.lit (.int .i64 0),.nil,.lit (.int .i64 0),.lit (.int .i64 0),.nil]],[],places) :=
 ⟨[],by kernel_rfl⟩
set_option maxRecDepth 100000 in
theorem lifted (os:Os) (started:os.Started) (H:Type) (enc:TypeId×Value→H) (F:Stop.Interp) :
  ReturnsInHanded {} Tryz.checked os 5 .any ((Rows.OpenSpec.upto Rows.refutationTrimsSpec).preRow enc Tryz.prog Tryz.f5 Rows.refutationTrimsUptoRow.domain false Rows.refutationTrimsUptoRow.laid) (((Rows.OpenSpec.upto Rows.refutationTrimsSpec).at F).post enc Tryz.prog Tryz.f5 false true false false):=by
 obtain⟨places,hx⟩:=reads os enc;refine returnsInHanded_of_row (C:=Tryz.checked) (s:=(Rows.OpenSpec.upto Rows.refutationTrimsSpec)) Cd.own started (by kernel_rfl) Tryz.func5
  (witness_row_atRef (enc:=enc) (C:=Tryz.checked) false (World.laidAll Tryz.prog os Rows.refutationTrimsUptoRow.laid) start (World.laidAll_os _ _ _) (by kernel_rfl) (by kernel_rfl) (by kernel_rfl)
   (OpenSpec.preRow_of_cond 8 hx (by kernel_rfl) (fun k hk=>by cases hk;kernel_rfl) (by kernel_rfl) (met os))) ?_
 intro W base args ds gs before hval hW _ hk _ hL hsh _;exact Ea H enc W base args ds gs before hval hW (hk _ rfl) hL hsh
theorem said:Rows.RefutationTrimsUptoSaid :=
 OpenClaim.holds_of_cond 5 Tryz.f5 rfl rfl rfl rfl rfl rfl rfl ⟨rfl,rfl,rfl,rfl,rfl⟩ rfl rfl rfl rfl rfl (by kernel_rfl) Tryz.func5 (by kernel_rfl)
  (of_decide_eq_true (by kernel_rfl)) (by unfold Func.isWrapper;rw[if_neg (of_decide_eq_false (by kernel_rfl))];exact⟨rfl,rfl⟩)
  (fun os started H enc _ F=>by rw[OpenClaim.pre_eq_preRow];exact lifted os started H enc F)
theorem plain (f : FuncId) (fn : Func) (hf : Tryz.pinned.checked.prog.funcNamed "confluent/confluentlaw21.RefutationTrims" = some f) (hfn : Tryz.pinned.checked.prog.funcs[f]? = some fn) :
  true=Tryz.pinned.checked.prog.looks []∧∀(j:Nat) t,fn.params[j]?=some t→Tryz.pinned.checked.prog.wantsStandIn t=false:=by
 obtain rfl : f = 5 := Option.some.inj ((show Tryz.prog.funcNamed "confluent/confluentlaw21.RefutationTrims" = some 5 by kernel_rfl).symm.trans hf) |>.symm
 obtain rfl:fn=Tryz.f5:=(Option.some.inj (Tryz.func5.symm.trans hfn)).symm;refine⟨by kernel_rfl,fun j t ht=>?_⟩;rw[Tryz.params5]at ht;have hm:=Array.mem_of_getElem? ht;simp only[List.mem_toArray,List.mem_cons,List.not_mem_nil,or_false]at hm;rcases hm with rfl|rfl
 ·exact(by kernel_rfl:Tryz.prog.wantsStandIn 36=false)
 ·exact(by kernel_rfl:Tryz.prog.wantsStandIn 25=false)
theorem proved:Rows.RefutationTrimsUptoCardSaid :=
 Claim7.holds_tied_plain_at .later [] _ _ _ _ said (fun _ h=>by cases h) (by kernel_rfl) (fun _ h=>by cases h) refutationTrimsUpto_row_tie rfl ⟨rfl,rfl⟩ (by kernel_rfl) rfl plain (by kernel_rfl)
end Go.Proofs.YtaleoeblooeglaaGreatDoor.lawTrims