/-
  RefutationTrims: both libraries trim alike, for any system and tree whose bulk is at most 1048576 (the tables laid); names shortened by a program (RfMo RfT1 RfV1 Grow RfT2 RfT3 RfTa RfV2 RfQ1 RfQ2 RfQ3 RfN RfN2 RfO RfO2 RfP2 RfU1 RfU2 RfU3)
-/
import Derived.Test.YtaleoeblooeglaaGreatDoorT04
import Derived.Shelf.Spec.SlicesGrow
set_option maxRecDepth 10000
set_option maxHeartbeats 32000000
set_option linter.unusedSimpArgs false
set_option linter.unusedVariables false
namespace Go.Proofs.YtaleoeblooeglaaGreatDoor
section
namespace Rf
open Pur (aL)
def nE (x y:Rg):Prop:=y.lo≤x.lo∧x.hi≤y.hi
structure nF (b b':List Rg):Prop where
 len:b.length=b'.length
 at_:∀k,k<b.length→nE (b.getD k zr) (b'.getD k zr)
structure Ib (r r':Rw):Prop where
 t:r.terms=r'.terms
 b:r.bound≤r'.bound
structure s4 (l l':List Rw):Prop where
 len:l.length=l'.length
 at_:∀k,k<l.length→Ib (l.getD k zw) (l'.getD k zw)
theorem nE.refl (x:Rg):nE x x:=⟨Int.le_refl _,Int.le_refl _⟩
theorem nF.refl (b:List Rg):nF b b:=⟨rfl,fun _ _=>nE.refl _⟩
theorem s4.refl (l:List Rw):s4 l l:=⟨rfl,fun _ _=>⟨rfl,Int.le_refl _⟩⟩
theorem xJ {α:Type} (l:List α) (k:Nat) (d:α) (h:¬k<l.length):l.getD k d=d:=by
 rw[List.getD,List.getElem?_eq_none (by omega)];rfl
theorem nF.all {b b':List Rg} (h:nF b b') (k:Nat):nE (b.getD k zr) (b'.getD k zr):=by
 by_cases hk:k<b.length
 ·exact h.at_ k hk
 ·rw[xJ b k zr hk,xJ b' k zr (by rw[←h.len];exact hk)];exact nE.refl _
theorem lF {b:List Rg} {c k:Nat} {x:Rg} (hc:c<b.length):(b.set c x).getD k zr=if k=c then x else b.getD k zr:=by
 rw[List.getD,List.getD];by_cases h:c=k
 ·subst h;simp[hc]
 ·rw[List.getElem?_set_ne h,if_neg (Ne.symm h)]
theorem nF.set {b b':List Rg} (h:nF b b') {c:Nat} {x y:Rg} (hc:c<b.length) (hxy:nE x y):nF (b.set c x) (b'.set c y):=by
 refine⟨by simp[h.len],fun k hk=>?_⟩;rw[lF hc,lF (by rw[←h.len];exact hc)];split
 ·exact hxy
 ·exact h.all k
theorem s4.app {l l':List Rw} (h:s4 l l') (m:List Rw):s4 (l++m) (l'++m):=by
 refine⟨by simp[h.len],fun k hk=>?_⟩;by_cases h1:k<l.length
 ·have h2:=h.at_ k h1;rw[List.getD,List.getD,List.getElem?_append_left h1,List.getElem?_append_left (by rw[←h.len];exact h1)];exact h2
 ·rw[List.getD,List.getD,List.getElem?_append_right (by omega),List.getElem?_append_right (by rw[←h.len];omega),h.len];exact⟨rfl,Int.le_refl _⟩
theorem s5 (b:List Rg):dt b=true↔∃k,k<b.length∧(b.getD k zr).hi<(b.getD k zr).lo:=by
 unfold dt;rw[List.any_eq_true];constructor
 ·rintro⟨x,hx,h⟩;obtain⟨k,hk,rfl⟩:=List.mem_iff_getElem.mp hx;exact⟨k,hk,by rw[List.getD,List.getElem?_eq_getElem hk];simpa [dX]using h⟩
 ·rintro⟨k,hk,h⟩;exact⟨_,Pur.aO hk,by simpa [dX]using h⟩
theorem nF.empty {b b':List Rg} (h:nF b b') (he:dt b'=true):dt b=true:=by
 rw[s5]at he ⊢;obtain⟨k,hk,h1⟩:=he;have:=h.all k;exact⟨k,by rw[h.len];exact hk,by obtain⟨a,c⟩:=this;omega⟩
theorem uE {b:List Rg} {r:Rw} (c:Int) (h:¬(fF r b c).hi<(fF r b c).lo):nE (fF r b c) (b.getD c.toNat zr):=by
 unfold fF at h ⊢;dsimp only at h ⊢;generalize b.getD c.toNat zr=x at *;generalize (r.bound-eF b c r.terms)=rest at *;generalize kP c r.terms=f at *;by_cases hf:f=0
 ·rw[if_pos hf];exact nE.refl _
 ·rw[if_neg hf]at h ⊢;by_cases hp:0<f
  ·simp only[hp,if_true]at h ⊢;by_cases he:min x.hi (rest / f)<x.lo
   ·rw[if_pos he]at h;exact absurd (by decide) h
   ·rw[if_neg he];exact⟨Int.le_refl _,by show min _ _≤_;omega⟩
  ·simp only[hp,if_false]at h ⊢;by_cases he:x.hi<max x.lo (-(rest / -f))
   ·rw[if_pos he]at h;exact absurd (by decide) h
   ·rw[if_neg he];exact⟨by show _≤max _ _;omega,Int.le_refl _⟩
theorem Fx (g:Gr) (b:List Rg) (k:Nat):nE (tG g b k) (b.getD (g.first.toNat+k) zr):=by
 unfold tG;dsimp only;split
 ·exact⟨Int.le_refl _,by show min _ _≤_;omega⟩
 ·exact nE.refl _
theorem s6 {x y:Rg} (hy:mc y=true) (h:nE x y) (he:¬x.hi<x.lo):mc x=true:=by
 obtain⟨h1,h2⟩:=h;have:=kV hy;simp only[mc,aL,Bool.and_eq_true,decide_eq_true_eq];omega
theorem qp {b:List Rg} {c:Nat} {x:Rg} (hb:cz b=true) (hx:mc x=true):cz (b.set c x)=true:=by
 simp only[cz,Bool.and_eq_true,List.all_eq_true,decide_eq_true_eq,List.length_set]at hb ⊢;refine⟨fun y hy=>?_,hb.2⟩;rcases List.mem_or_eq_of_mem_set hy with h|h
 ·exact hb.1 y h
 ·rw[h];exact hx
theorem DO (s:Sy) (rows:List Rw) (b:List Rg) (x:aS):(b8 s rows b x).2.2=true→(b8 s rows b x).2.1=true:=by
 unfold b8;dsimp only;(repeat' split)<;>simp
structure Az (s:Sy) (n:Nat):Prop where
 g:∀q∈s.graphs,bH n q=true
 c:∀l∈s.cases,∀r∈l,gA n r=true
theorem uF {b:List Rg} {c:Nat} {x:Rg} (hc:c<b.length) (hok:cz b=true) (hx:nE x (b.getD c zr)):dt (b.set c x)=true∨cz (b.set c x)=true:=by
 by_cases he:x.hi<x.lo
 ·exact .inl ((s5 _).mpr ⟨c,by simpa using hc,by rw[lF hc,if_pos rfl];exact he⟩)
 ·exact .inr (qp hok (s6 (gC hok c) hx he))
end Rf
end
section
namespace Rf
def du (st:List aS) (n:Int):List aS:=if 0≤n then st.eraseIdx n.toNat else st
def Hl:List (Nat×(Int→Tree))→Int→List Tree
 |[],_=>[]
 |(m,f)::r,n=>f n::Hl r (n-m)
def la:Tree→Int→Tree
 | .node k st c a l=>fun n=>.node k (du st n) c a (Hl (l.attach.map fun x=>(bU x.1,la x.1)) (n-st.length))
decreasing_by
 have:=List.sizeOf_lt_of_mem x.2;simp;omega
def ff (l:List Tree) (n:Int):List Tree:=Hl (l.map fun x=>(bU x,la x)) n
theorem nQ (k:Int) (st:List aS) (c a:Int) (l:List Tree) (n:Int):la (.node k st c a l) n= .node k (du st n) c a (ff l (n-st.length)):=by
 rw[la,ff];simp only[List.attach_map_subtype_val,List.map_attach_eq_pmap,List.pmap_eq_map]
theorem kC (t:Tree) (r:List Tree) (n:Int):ff (t::r) n=la t n::ff r (n-bU t):=rfl
theorem fM:∀(l:List Tree) (n:Int),(ff l n).length=l.length
 |[],_=>rfl
 |t::r,n=>by rw[kC,List.length_cons,List.length_cons,fM r]
theorem iS (st:List aS) (n:Int) (h:n<0∨(st.length:Int)≤n):du st n=st:=by
 unfold du;split
 ·exact List.eraseIdx_of_length_le (by omega)
 ·rfl
theorem qq (st:List aS) (n:Int):(du st n).length≤st.length:=by
 unfold du;split
 ·exact List.length_eraseIdx_le _ _
 ·exact Nat.le_refl _
theorem AA:∀(t:Tree) (n:Int),(n<0∨(bU t:Int)≤n)→la t n=t:=by
 refine Tree.ind fun k st c a l ih n h=>?_
 have key:∀(l:List Tree),(∀t∈l,∀n:Int,(n<0∨(bU t:Int)≤n)→la t n=t)→∀n:Int,(n<0∨(bj l:Int)≤n)→ff l n=l:=by
  intro l;induction l with
  |nil=>intro _ _ _;rfl
  |cons t r ihr =>
   intro h1 n h2;rw[bj]at h2;rw[kC,h1 t (by simp) n (by omega),ihr (fun t ht=>h1 t (by simp[ht])) _ (by omega)]
 rw[fv]at h;rw[nQ,iS st n (by omega),key l ih _ (by omega)]
theorem vG:∀(t:Tree) (n:Int),wt (la t n)≤wt t:=by
 refine Tree.ind fun k st c a l ih n=>?_
 have key:∀(l:List Tree),(∀t∈l,∀n:Int,wt (la t n)≤wt t)→∀n:Int,fg (ff l n)≤fg l:=by
  intro l;induction l with
  |nil=>intro _ _;exact Nat.le_refl _
  |cons t r ihr =>
   intro h1 n;have e1:=h1 t (by simp) n;have e2:=ihr (fun t ht=>h1 t (by simp[ht])) (n-bU t);rw[kC,fg,fg];omega
 have e1:=key l ih (n-st.length);have e2:=qq st n;rw[nQ,bE,bE];omega
noncomputable def n5 (s:Sy):Nat→Tree→Tree
 |0,t=>t
 |i+1,t=>n5 s i (if k8 s (la t i)=true then la t i else t)
noncomputable def DP (s:Sy) (t:Tree):Tree:=n5 s (bU t) t
theorem xK (s:Sy):∀(i:Nat) (t:Tree),wt (n5 s i t)≤wt t
 |0,t=>Nat.le_refl _
 |i+1,t=>by
  rw[n5];refine Nat.le_trans (xK s i _) ?_;split
  ·exact vG t i
  ·exact Nat.le_refl _
end Rf
end
open Go.RowKit
attribute [local go_sem] Pur.ξ Pur.bV Pur.gF Pur.cd Pur.bI Pur.cG Pur.jK List.map Pur.bB Pur.aR Pur.get Pur.put Pur.tmpsOf Pur.eY Pur.oK Pur.kY Pur.oa Pur.conds Pur.ev cond_true cond_false Nat.beq Nat.ble Nat.add Pur.quiet Pur.fc Pur.cW Pur.dH Pur.zP List.append_eq List.nil_append List.cons_append Pur.eX Pur.gq Pur.gr Pur.gu Pur.gv Pur.gw Pur.gx Pur.kf Pur.jM Pur.fQ Pur.pC Pur.gZ Pur.calm Pur.quiet.isCallK Pur.dU List.getElem?_cons_zero List.getElem?_cons_succ Pur.cE Pur.dM Pur.cellsOf List.all Pur.bZ List.length_cons List.length_nil Pur.jr Pur.bC List.drop List.take List.getD Option.getD_some Pur.Eb Pur.Ec Pur.Cn Pur.Ed Pur.Ee Pur.Ef Pur.kZ Pur.nY Pur.k6 Pur.k7 Pur.setAt List.set Nat.reduceAdd Nat.reduceMul Pur.dy Pur.ca Pur.refsOf Pur.bW Pur.cS Pur.scalar Pur.eJ Pur.gO Pur.cU Pur.eI Pur.bA Pur.after Pur.freeze Pur.mT Pur.l5 Pur.bw Pur.fS Pur.iN Pur.jk Pur.iB Pur.iV Pur.iW Pur.gf Pur.iX Pur.iY Pur.jb Pur.jc Pur.jd Pur.je Pur.jf Pur.jg Pur.jh Pur.ji Pur.jj Pur.gg Pur.gi Pur.gj Pur.fR Pur.pD Pur.bytesOf Pur.cf Pur.fk Pur.a8 Pur.cH Pur.fN Pur.bP Pur.cF Pur.dV Pur.still Pur.dk Pur.gN Pur.eC Pur.jH Pur.cA Pur.iC List.isEmpty Pur.gk Pur.gm Pur.gp Int.reduceToNat Nat.mul_one Nat.reduceSub Pur.yx Pur.fp Pur.ef Pur.fl Pur.fe Pur.look Pur.fm Pur.strip Pur.guarded Pur.my Pur.iE Pur.jq Pur.eH Pur.jG Pur.ek Pur.mD Pur.iZ Pur.ja Bool.or_false Bool.or_true Bool.and_true Bool.and_false Nat.blt Pur.iz Pur.gI Pur.j0 Pur.dB Pur.idxOf Pur.kp Pur.l6 Pur.o4 Pur.gy Pur.tz
section
namespace Rf
theorem xL (l:List aS) (x:aS) (n:Int):du (l++[x]) n=if (l.length:Int)=n then du l n else du l n++[x]:=by
 by_cases h1:(l.length:Int)=n
 ·rw[if_pos h1,iS l n (by omega)];unfold du;rw[if_pos (by omega),List.eraseIdx_append_of_length_le (by omega),show n.toNat-l.length=0 by omega];simp
 ·rw[if_neg h1];by_cases h2:0≤n∧n<l.length
  ·unfold du;rw[if_pos h2.1,if_pos h2.1,List.eraseIdx_append_of_lt_length (by omega)]
  ·rw[iS l n (by omega),iS _ n (by rw[List.length_append,List.length_singleton];omega)]
theorem xM:∀(l:List Tree) (m:Int) (k:Nat),k<l.length→(ff l m).getD k zt=la (l.getD k zt) (m-bj (l.take k))
 |t::r,m,0,_=>by simp[kC,bj]
 |t::r,m,k+1,h=>by
  have:=xM r (m-bU t) k (by simpa using h);rw[kC,List.getD_cons_succ,List.getD_cons_succ,this,List.take_succ_cons,bj];congr 1;omega
theorem s7 (l:List Tree) (m:Int) (k:Nat) (h:k<l.length):(ff l m).take (k+1)=(ff l m).take k++[la (l.getD k zt) (m-bj (l.take k))]:=by
 rw[Pur.aJ _ k zt (by rw[fM];exact h),xM l m k h]
theorem qH (st:List aS) (n:Int) (k:Nat) (h:k<st.length):du (st.take (k+1)) n=if (k:Int)=n then du (st.take k) n else du (st.take k) n++[st.getD k zs]:=by
 rw[Pur.aJ st k zs h,xL];rw[show((st.take k).length:Int)=k by rw[List.length_take];omega]
end Rf
namespace Pur
open Go.RowKit
open Rf
def vS (i:Nat) (k c a:Int):List aS→dT
 |[]=>⟨[.pv (.int .i64 k),.pv .nilsl,.pv (.int .i64 c),.pv (.int .i64 a),.pv .nilsl],0,5,25,false⟩
 |_::l=>⟨[.pv (.int .i64 k),.ref i l.length 0 (l.length+1),.pv (.int .i64 c),.pv (.int .i64 a),.pv .nilsl],0,5,25,false⟩
theorem vH (i:Nat) (k c a:Int):vS i k c a []=⟨[.pv (.int .i64 k),.pv .nilsl,.pv (.int .i64 c),.pv (.int .i64 a),.pv .nilsl],0,5,25,false⟩:=rfl
theorem nR (i:Nat) (k c a:Int) (x:aS) (l:List aS):vS i k c a (x::l)=⟨[.pv (.int .i64 k),.ref i l.length 0 (l.length+1),.pv (.int .i64 c),.pv (.int .i64 a),.pv .nilsl],0,5,25,false⟩:=rfl
def Fy (J:aS→AM):List aS→AM
 |[]=>[]
 |x::l=>J x++[⟨(x::l).flatMap aw |>.map .pv,l.length,3,66,false⟩]
theorem rj (J:aS→AM):Fy J []=[]:=rfl
theorem lG (J:aS→AM) (x:aS) (l:List aS):Fy J (x::l)=J x++[⟨(x::l).flatMap aw |>.map .pv,l.length,3,66,false⟩]:=rfl
def vK (i:Nat) (k c a:Int) (S:List aS):List Tree→dT
 |[]=>⟨[.pv (.int .i64 k),.pv (aa S),.pv (.int .i64 c),.pv (.int .i64 a),.pv .nilsl],0,5,25,false⟩
 |_::l=>⟨[.pv (.int .i64 k),.pv (aa S),.pv (.int .i64 c),.pv (.int .i64 a),.ref i l.length 0 (l.length+1)],0,5,25,false⟩
theorem vI (i:Nat) (k c a:Int) (S:List aS):vK i k c a S []=⟨[.pv (.int .i64 k),.pv (aa S),.pv (.int .i64 c),.pv (.int .i64 a),.pv .nilsl],0,5,25,false⟩:=rfl
theorem rk (i:Nat) (k c a:Int) (S:List aS) (t:Tree) (l:List Tree):vK i k c a S (t::l)=⟨[.pv (.int .i64 k),.pv (aa S),.pv (.int .i64 c),.pv (.int .i64 a),.ref i l.length 0 (l.length+1)],0,5,25,false⟩:=rfl
def Eh (J:Tree→AM):List Tree→AM
 |[]=>[]
 |t::l=>J t++[⟨(t::l).flatMap cy |>.map .pv,l.length,5,25,false⟩]
theorem AB (J:Tree→AM):Eh J []=[]:=rfl
theorem pA (J:Tree→AM) (t:Tree) (l:List Tree):Eh J (t::l)=J t++[⟨(t::l).flatMap cy |>.map .pv,l.length,5,25,false⟩]:=rfl
abbrev DQ (x:aS):dT:=⟨[.pv (.int .i64 x.kind),.pv (.int .i64 x.index),.pv (.int .i64 x.cell)],0,3,66,false⟩
theorem Fz {n':Nat} {x:ay} {R:Exit→AF→AM→Prop} {F:AF} (t:Tree) (kd c a:Int) (S:List aS) (hF:iz [0,1,2,4] F=F) (hs:∀M,kp M 3 F=F) (hof:dm F 3=true)
  (h:Aw ctx (fun _=>false) n' 0 x R F [ae t,aE,vK 5 kd c a S []]):Aw ctx (fun _=>false) n' 0 x R F ([ae t,aE,vS 4 kd c a S]++Fy (fun x=>[DQ x]) S):=by
 cases S with
 |nil=>exact nM (μ':=[ae t,aE,vK 5 kd c a [] []]) (MW.last (μ:=[ae t,aE]) ⟨(PW.refl CW.refl [AV.pv (.int .i64 kd)]).kF (PW.cons CW.nil (PW.refl CW.refl [AV.pv (.int .i64 c),.pv (.int .i64 a),.pv .nilsl])),rfl,rfl,rfl,rfl⟩) h
 |cons x l =>
  refine fK [0,1,2,4] rfl ?_;have e:gI [0,1,2,4] ([ae t,aE,vS 4 kd c a (x::l)]++Fy (fun x=>[DQ x]) (x::l))=[ae t,aE,⟨[.pv (.int .i64 kd),.ref 3 l.length 0 (l.length+1),.pv (.int .i64 c),.pv (.int .i64 a),.pv .nilsl],0,5,25,false⟩,⟨(((x::l).flatMap aw).map AV.pv).map (dB [0,1,2,4] 3),l.length,3,66,false⟩]:=rfl;rw[e,rb,hF];exact gJ (μ:=[ae t,aE]) (c1:=[.int .i64 kd]) (c2:=[.int .i64 c,.int .i64 a,.nilsl]) (ps:=(x::l).flatMap aw) (by simp[aP,ck,aE,ae]) (by simp) (by simp) (cR _) hs hof h
theorem FA {n':Nat} {x:ay} {R:Exit→AF→AM→Prop} {F:AF} (t:Tree) (o:Tree) (kd c a:Int) (S:List aS) (ks:List Tree) (hF:iz [0,1,2,5] F=F) (hs:∀M,kp M 3 F=F) (hof:dm F 3=true)
  (h:Aw ctx (fun _=>false) n' 0 x R F [ae t,aE,ae (.node kd S c a ks)]):Aw ctx (fun _=>false) n' 0 x R F ([ae t,aE,vK 5 kd c a S ks]++Eh (fun t0=>[ae o,ae t0]) ks):=by
 cases ks with
 |nil=>exact nM (μ':=[ae t,aE,ae (.node kd S c a [])]) (MW.last (μ:=[ae t,aE]) ⟨(PW.refl CW.refl [AV.pv (.int .i64 kd),.pv (aa S),.pv (.int .i64 c),.pv (.int .i64 a)]).kF (PW.cons CW.nil PW.nil),rfl,rfl,rfl,rfl⟩) h
 |cons t0 l =>
  refine fK [0,1,2,5] rfl ?_;have e:gI [0,1,2,5] ([ae t,aE,vK 5 kd c a S (t0::l)]++Eh (fun t0=>[ae o,ae t0]) (t0::l))=[ae t,aE,⟨[.pv (.int .i64 kd),.pv (aa S),.pv (.int .i64 c),.pv (.int .i64 a),.ref 3 l.length 0 (l.length+1)],0,5,25,false⟩,⟨(((t0::l).flatMap cy).map AV.pv).map (dB [0,1,2,5] 3),l.length,5,25,false⟩]:=rfl;rw[e,rb,hF];exact gJ (μ:=[ae t,aE]) (c1:=[.int .i64 kd,aa S,.int .i64 c,.int .i64 a]) (c2:=[]) (ps:=(t0::l).flatMap cy) (by simp[aP,ck,aE,ae]) (by simp) (by simp) (cL _) hs hof h
def Ic:ay:=(⟨_,by conv=>(lhs;reduce;try simp only[cJ,Int.cast_ofNat_Int,Int.reduceNegSucc,UInt8.reduceOfNat])⟩:{x // codeOf Tryz.prog 49 (fun _=>false)=some x}).1
theorem Ie:bp Tryz.prog 49 (fun _=>false)=some (Ic,[.cell 4 5 true,.t 5],69,true):=by kernel_rfl
theorem s8:∀(t:Tree),wt t≤1000000000→∀(n:Int),(wt t:Int)-1000000000000≤n→n≤1000000000000 →
  aj ctx 49 [aA t,.int .i64 n] (.tup [aA (la t n),.int .i64 (bU t:Nat)]):=by
 refine Tree.ind fun kd st c a l ih hw n hn1 hn2=>?_
 rw[bE]at hw hn1;have hl:=dR l;have hsw:=fy l;rw[nQ,fv];have f1:=cR st;have f2:=cL l;refine af (C:=ctx) (Fn.of Ie rfl) rfl ?_;unfold Ic;repeat' (first|((with_reducible show aG _);first|exact True.intro|(simp[vb]<;>omega))|((with_reducible show aM _);exact True.intro)|exact(rfl:some _=_)|((fail_if_success refine aT ?_);refine aZ ?_;(repeat1' dsimp only[c49,aA,Tree.kind,Tree.steps,Tree.cell,Tree.pos,Tree.kids,aa,ah,go_sem]);first|refine aU ?_ ?_ rfl ?_|apply aV|apply aW|(refine aX (fun hc=>?_) fun hc=>?_<;>first|(cases hc;done)|(try simp only[bn]at hc;try contradiction))|skip))
 refine bg st.length (fun _=>True) (fun k=>[(1,.pv (.int .i64 n)),(2,.ptr 0 0 0),(4,.ptr 1 0 0),(6,.ptr 2 0 0),(7,.pv (.int .i64 st.length)),(25,.pv (aa st)),(26,.pv (.int .i64 st.length)),(27,.pv (.int .i64 k))])
  (fun k=>[ae (.node kd st c a l),aE,vS 4 kd c a (du (st.take k) n)]++Fy (fun x=>[DQ x]) (du (st.take k) n)) trivial (by (repeat' (first|exact trivial|refine And.intro (by first|rfl|(simp[get,Nat.beq]<;>omega)|(dsimp only[get];congr 1<;>first|rfl|omega|(simp<;>omega))) ?_))) ⟨[],by rw[List.take_zero,iS [] n (by simp;omega)];rfl⟩ (fun k=>?_) fun k hk _=>?_
 ·generalize du (st.take k) n=S;cases S with
  |nil=>exact⟨Nat.zero_le _,rfl,rfl⟩
  |cons x S=>exact⟨Nat.zero_le _,rfl,by simp[vS,Fy,aP,aE,ae,ck]⟩
 by_cases hlt:k<st.length
 ·have e:=bM bu st k zs hlt;have hd:=qH st n k hlt;have hdl:=qq (st.take k) n;rw[List.length_take]at hdl;rw[hd];clear hd;generalize st.getD k zs=x at *;generalize du (st.take k) n=S at *;by_cases hkn:(k:Int)=n
  ·rw[if_pos hkn];obtain rfl:n=(k:Int):=hkn.symm;clear hkn;cases S with
   |nil =>
    simp only[vH,rj,List.append_nil];repeat' (first|((with_reducible show aG _);first|exact True.intro|(simp only[vb,lb,e,f1,hlt,aw];and_intros<;>first|omega|(simp<;>omega)))|((with_reducible show aM _);first|exact True.intro|((try dsimp only[go_sem]);(simp[vb,e,f1,hlt,aw]<;>omega)))|exact(rfl:some _=_)|((fail_if_success refine aT ?_);refine br [ξ 31 (.agg [.int .i64 x.kind,.int .i64 x.index,.int .i64 x.cell])] ?_;(repeat1' dsimp only[c49,ae,aE,Tree.kind,Tree.steps,Tree.cell,Tree.pos,Tree.kids,aa,ah,go_sem]);first|refine aU ?_ ?_ rfl ?_|apply aV|apply aW|(refine aX (fun hc=>?_) fun hc=>?_<;>first|(cases hc;done)|(exfalso;(simp at hc<;>omega))|(try simp only[bn]at hc;try contradiction))|skip))
    exact⟨hlt,trivial,by (repeat' (first|exact trivial|refine And.intro (by first|rfl|(simp[get,Nat.beq]<;>omega)|(dsimp only[get];congr 1<;>first|rfl|omega|(simp<;>omega))) ?_)),_,rfl⟩
   |cons s0 l0 =>
    simp only[nR,lG,List.append_nil,List.cons_append,List.nil_append];repeat' (first|((with_reducible show aG _);first|exact True.intro|(simp only[vb,lb,e,f1,hlt,aw];and_intros<;>first|omega|(simp<;>omega)))|((with_reducible show aM _);first|exact True.intro|((try dsimp only[go_sem]);(simp[vb,e,f1,hlt,aw]<;>omega)))|exact(rfl:some _=_)|((fail_if_success refine aT ?_);refine br [ξ 31 (.agg [.int .i64 x.kind,.int .i64 x.index,.int .i64 x.cell])] ?_;(repeat1' dsimp only[c49,ae,aE,Tree.kind,Tree.steps,Tree.cell,Tree.pos,Tree.kids,aa,ah,go_sem]);first|refine aU ?_ ?_ rfl ?_|apply aV|apply aW|(refine aX (fun hc=>?_) fun hc=>?_<;>first|(cases hc;done)|(exfalso;(simp at hc<;>omega))|(try simp only[bn]at hc;try contradiction))|skip))
    exact⟨hlt,trivial,by (repeat' (first|exact trivial|refine And.intro (by first|rfl|(simp[get,Nat.beq]<;>omega)|(dsimp only[get];congr 1<;>first|rfl|omega|(simp<;>omega))) ?_)),_,rfl⟩
  ·rw[if_neg hkn];cases S with
   |nil =>
    simp only[vH,rj,List.append_nil,List.nil_append,nR,lG,List.length_nil];repeat' (first|((with_reducible show aG _);first|exact True.intro|(simp only[vb,lb,e,f1,hlt,aw,hkn];and_intros<;>first|omega|(simp<;>omega)))|((with_reducible show aM _);first|exact True.intro|((try dsimp only[go_sem]);(simp[vb,e,f1,hlt,aw,hkn]<;>omega)))|exact(rfl:some _=_)|((fail_if_success refine aT ?_);refine br [ξ 31 (.agg [.int .i64 x.kind,.int .i64 x.index,.int .i64 x.cell])] ?_;(repeat1' dsimp only[c49,ae,aE,Tree.kind,Tree.steps,Tree.cell,Tree.pos,Tree.kids,aa,ah,go_sem]);first|refine aU ?_ ?_ rfl ?_|apply aV|apply aW|(refine aX (fun hc=>?_) fun hc=>?_<;>first|(cases hc;done)|(exfalso;(simp at hc<;>omega))|(try simp only[bn]at hc;try contradiction))|skip))
    exact⟨hlt,trivial,by (repeat' (first|exact trivial|refine And.intro (by first|rfl|(simp[get,Nat.beq]<;>omega)|(dsimp only[get];congr 1<;>first|rfl|omega|(simp<;>omega))) ?_)),[],by simp[aw]⟩
   |cons s0 l0 =>
    simp only[List.length_cons]at hdl;simp only[nR,lG,List.append_nil,List.cons_append,List.nil_append];repeat' (first|((with_reducible show aG _);first|exact True.intro|(simp only[vb,lb,e,f1,hlt,aw,hkn,bu,qS,hdl];and_intros<;>first|omega|(simp<;>omega))|(simp[vb,e,f1,hlt,aw,hkn,bu,qS,hdl]<;>omega))|((with_reducible show aM _);first|exact True.intro|((try dsimp only[go_sem]);(simp[vb,e,f1,hlt,aw,hkn,bu,qS,hdl]<;>omega)))|exact(rfl:some _=_)|((fail_if_success refine aT ?_);refine br [ξ 31 (.agg [.int .i64 x.kind,.int .i64 x.index,.int .i64 x.cell])] ?_;(repeat1' dsimp only[c49,ae,aE,Tree.kind,Tree.steps,Tree.cell,Tree.pos,Tree.kids,aa,ah,go_sem]);first|refine aU ?_ ?_ rfl ?_|apply aV|apply aW|(refine aX (fun hc=>?_) fun hc=>?_<;>first|(cases hc;done)|(exfalso;(simp at hc<;>omega))|(try simp only[bn]at hc;try contradiction))|skip))
    exact⟨hlt,trivial,by (repeat' (first|exact trivial|refine And.intro (by first|rfl|(simp[get,Nat.beq]<;>omega)|(dsimp only[get];congr 1<;>first|rfl|omega|(simp<;>omega))) ?_)),_,by simp[aw];rfl⟩
 obtain rfl:k=st.length:=by omega
 rw[List.take_of_length_le (Nat.le_refl _)];generalize hS:du st n=S at *;refine Fz (.node kd st c a l) kd c a S rfl (fun _=>rfl) rfl ?_;rw[vI];repeat' (first|((with_reducible show aG _);first|exact True.intro|(simp only[vb,lb,f1,hlt];and_intros<;>first|omega|(simp<;>omega)))|((with_reducible show aM _);exact True.intro)|exact(rfl:some _=_)|((fail_if_success refine aT ?_);refine aZ ?_;(repeat1' dsimp only[c49,ae,aE,Tree.kind,Tree.steps,Tree.cell,Tree.pos,Tree.kids,aa,ah,go_sem]);first|refine aU ?_ ?_ rfl ?_|apply aV|apply aW|(refine aX (fun hc=>?_) fun hc=>?_<;>first|(cases hc;done)|(exfalso;(simp at hc<;>omega))|(try simp only[bn]at hc;try contradiction))|skip))
 refine bg l.length (fun _=>True) (fun k=>[(2,.ptr 0 0 0),(4,.ptr 1 0 0),(6,.ptr 2 0 0),(1,.pv (.int .i64 n)),(7,.pv (.int .i64 (st.length+bj (l.take k):Nat))),(43,.pv (ah l)),(44,.pv (.int .i64 l.length)),(45,.pv (.int .i64 k))])
  (fun k=>[ae (.node kd st c a l),aE,vK 5 kd c a S ((ff l (n-st.length)).take k)]++Eh (fun t0=>[ae (l.getD 0 zt),ae t0]) ((ff l (n-st.length)).take k)) trivial (by (repeat' (first|exact trivial|refine And.intro (by first|rfl|(simp[get,Nat.beq,bj]<;>omega)|(dsimp only[get];congr 1<;>first|rfl|omega|(simp<;>omega))) ?_))) ⟨[],rfl⟩ (fun k=>?_) fun k hk _=>?_
 ·generalize (ff l (n-st.length)).take k=ks;cases ks with
  |nil=>exact⟨Nat.zero_le _,rfl,rfl⟩
  |cons x S=>exact⟨Nat.zero_le _,rfl,by simp[vK,Eh,aP,aE,ae,ck]⟩
 by_cases hlk:k<l.length
 ·have e:=cK l k hlk;have hmem:=aO (d:=zt) hlk;have hwk:=fw hmem;have hta:=s7 l (n-st.length) k hlk;have hkl:((ff l (n-st.length)).take k).length=k:=by rw[List.length_take,fM];omega
  have hs1:=ik (l.take k) [l.getD k zt];rw[←aJ l k zt hlk,bj,bj]at hs1;have hs2:=iP (l.take k) [l.getD k zt];rw[←aJ l k zt hlk,fg,fg]at hs2;have hs3:=nk l (k+1);have hs4:=fy (l.take k);have hs5:=gV (l.getD k zt);have hih:=ih _ hmem (by omega) (n-st.length-bj (l.take k)) (by omega) (by omega);rw[hta,hs1];have hor:k=0→l.getD 0 zt=l.getD k zt:=fun h=>by rw[h]
  clear ih hta hs1;generalize l.getD k zt=x at *;generalize la x (n-st.length-bj (l.take k))=y at *;generalize bU x=m at *;generalize bj (l.take k)=cnt at *;generalize (ff l (n-st.length)).take k=ks at *;obtain⟨a0,a1,a2,a3,a4⟩:=x;obtain⟨y0,y1,y2,y3,y4⟩:=y;simp only[aA,Tree.kind,Tree.steps,Tree.cell,Tree.pos,Tree.kids]at hih e;unfold ah aa at hih e;rw[show n-(st.length:Int)-cnt=n-((st.length+cnt:Nat):Int) by omega]at hih;clear hlt;have hlt:=hlk;cases ks with
  |nil =>
   simp only[vI,AB,List.append_nil,List.nil_append,rk,pA,List.length_nil];simp only[List.length_nil]at hkl;subst hkl;try rw[hor rfl]
   repeat' (first|((with_reducible show aG _);first|exact True.intro|(simp only[vb,lb,e,f2,hlt,hih];and_intros<;>first|omega|(simp<;>omega)))|((with_reducible show aM _);first|exact True.intro|((try dsimp only[go_sem]);(simp only[vb,and_true,true_implies];(repeat' (first|(with_reducible assumption)|(with_reducible apply And.intro)|intro _|((fail_if_success (with_reducible show(_:Int)≤_));assumption)))<;>(simp only[ab,e,f2,hlt,hih];done))))|exact(rfl:some _=_)|((fail_if_success refine aT ?_);refine bX [(49,fun _=>some (.tup [.agg [.int .i64 y0,.sl y1.length (y1.flatMap aw),.int .i64 y2,.int .i64 y3,.sl y4.length (y4.flatMap cy)],.int .i64 (m:Nat)]))] [ξ 48 (.agg [.int .i64 a0,.sl a1.length (a1.flatMap aw),.int .i64 a2,.int .i64 a3,.sl a4.length (a4.flatMap cy)])] ?_;(repeat1' dsimp only[c49,ae,aE,Tree.kind,Tree.steps,Tree.cell,Tree.pos,Tree.kids,aa,ah,go_sem]);first|refine aU ?_ ?_ rfl ?_|apply aV|apply aW|(refine aX (fun hc=>?_) fun hc=>?_<;>first|(cases hc;done)|(exfalso;(simp[e,f2,hlt,hih]at hc;done))|(try simp only[bn]at hc;try contradiction))|skip))
   exact⟨hlt,trivial,by (repeat' (first|exact trivial|refine And.intro (by first|rfl|(simp[get,Nat.beq]<;>omega)|(dsimp only[get];congr 1<;>first|rfl|omega|(simp<;>omega))) ?_)),[],by simp[fC,ae,Tree.kind,Tree.steps,Tree.cell,Tree.pos,Tree.kids,aa,ah]⟩
  |cons t0 l0 =>
   simp only[List.length_cons]at hkl;clear hor;simp only[rk,pA,List.append_nil,List.cons_append,List.nil_append];repeat' (first|((with_reducible show aG _);first|exact True.intro|(simp only[vb,lb,e,f2,hlt,hih,c7,vz,hkl];and_intros<;>first|omega|(simp<;>omega))|(simp[vb,e,f2,hlt,hih,c7,vz,hkl]<;>omega))|((with_reducible show aM _);first|exact True.intro|((try dsimp only[go_sem]);first|(simp[vb,e,f2,hlt,hih,c7,vz,hkl]<;>omega)|(simp only[vb,and_true,true_implies];(repeat' (first|(with_reducible assumption)|(with_reducible apply And.intro)|intro _|((fail_if_success (with_reducible show(_:Int)≤_));assumption))))))|exact(rfl:some _=_)|((fail_if_success refine aT ?_);refine bX [(49,fun _=>some (.tup [.agg [.int .i64 y0,.sl y1.length (y1.flatMap aw),.int .i64 y2,.int .i64 y3,.sl y4.length (y4.flatMap cy)],.int .i64 (m:Nat)]))] [ξ 48 (.agg [.int .i64 a0,.sl a1.length (a1.flatMap aw),.int .i64 a2,.int .i64 a3,.sl a4.length (a4.flatMap cy)])] ?_;(repeat1' dsimp only[c49,ae,aE,Tree.kind,Tree.steps,Tree.cell,Tree.pos,Tree.kids,aa,ah,go_sem]);first|refine aU ?_ ?_ rfl ?_|apply aV|apply aW|(refine aX (fun hc=>?_) fun hc=>?_<;>first|(cases hc;done)|(exfalso;(simp at hc<;>omega))|(try simp only[bn]at hc;try contradiction))|skip))
   exact⟨hlt,trivial,by (repeat' (first|exact trivial|refine And.intro (by first|rfl|(simp[get,Nat.beq]<;>omega)|(dsimp only[get];congr 1<;>first|rfl|omega|(simp<;>omega))) ?_)),_,by simp[fC,ae,Tree.kind,Tree.steps,Tree.cell,Tree.pos,Tree.kids,aa,ah];rfl⟩
 obtain rfl:k=l.length:=by omega
 rw[List.take_of_length_le (show(ff l (n-st.length)).length≤l.length by rw[fM];exact Nat.le_refl _),List.take_of_length_le (Nat.le_refl l.length)];generalize ff l (n-st.length)=ks at *;refine FA (.node kd st c a l) (l.getD 0 zt) kd c a S ks rfl (fun _=>rfl) rfl ?_;repeat' (first|((with_reducible show aG _);first|exact True.intro|(simp only[vb,lb,f2,hlk];and_intros<;>first|omega|(simp<;>omega)))|((with_reducible show aM _);exact True.intro)|exact(rfl:some _=_)|((fail_if_success refine aT ?_);refine aZ ?_;(repeat1' dsimp only[c49,ae,aE,aA,Tree.kind,Tree.steps,Tree.cell,Tree.pos,Tree.kids,aa,ah,go_sem]);first|refine aU ?_ ?_ rfl ?_|apply aV|apply aW|(refine aX (fun hc=>?_) fun hc=>?_<;>first|(cases hc;done)|(exfalso;(simp at hc<;>omega))|(try simp only[bn]at hc;try contradiction))|skip))
end Pur
end
section
open Go.Shelf
def AD:Go.Shelf.Ren:=⟨fun|4=>108|n=>n,fun|0=>0|3=>3|4=>4|9=>9|20=>20|22=>32|25=>62|n=>n,fun|n=>n⟩
theorem xN:Go.Proofs.Lays8.n4 Tryz.prog AD:={
 mixed:=by kernel_rfl
 f4 := ⟨"slices.Grow[[]confluent/api.Row,confluent/api.Row]", by rfl, Tryz.func108.trans (congrArg some (by kernel_rfl))⟩
 t0:=Tryz.underlying0
 a0:=Tryz.isAgg0
 z0:=Tryz.sizeOf0
 v0:=Tryz.zeroValue0
 t3:=Tryz.underlying3
 a3:=Tryz.isAgg3
 z3:=Tryz.sizeOf3
 v3:=Tryz.zeroValue3
 t4:=Tryz.underlying4
 a4:=Tryz.isAgg4
 z4:=Tryz.sizeOf4
 v4:=Tryz.zeroValue4
 t9:=Tryz.underlying9
 a9:=Tryz.isAgg9
 z9:=Tryz.sizeOf9
 v9:=Tryz.zeroValue9
 t20:=Tryz.underlying20
 a20:=Tryz.isAgg20
 z20:=Tryz.sizeOf20
 v20:=Tryz.zeroValue20
 t22:=Tryz.underlying32
 a22:=Tryz.isAgg32
 z22:=Tryz.sizeOf32
 v22:=Tryz.zeroValue32}
namespace Pur
open Go.RowKit
open Rf
theorem DR:∃i0 z,Tryz.prog.info? 62=some i0∧i0.zero=some z∧i0.size=2∧i0.bytes=32∧z.cells.size=2:=by
 have h:(Tryz.prog.info? 62).map (fun i=>(i.size,i.bytes,i.zero.map fun z=>z.cells.size))=some (2,32,some 2):=by kernel_rfl
 cases hi:Tryz.prog.info? 62 with
 |none=>rw[hi]at h;cases h
 |some i0 =>
  rw[hi]at h;simp only[Option.map_some,Option.some.injEq,Prod.mk.injEq]at h;obtain⟨h1,h2,h3⟩:=h;cases hz:i0.zero with
  |none=>rw[hz]at h3;cases h3
  |some z =>
   rw[hz]at h3;exact⟨i0,z,rfl,hz,h1,h2,by simpa using h3⟩
theorem DS:aj ctx 108 [.nilsl,.int .i64 0] .nilsl:=by
 refine aj.ss (by kernel_rfl) fun w S vs hE hl hp=>?_
 obtain⟨v,u,rfl,h1,h2⟩:=Jz hp;cases h1;obtain rfl:=su h2;refine(Any8.slices_Grow_room xN none 0 0 0 w (by omega) (by omega) (by omega) (by omega)).mono fun e w' hh=>?_
 obtain⟨rfl,rfl⟩:=hh;exact⟨_,rfl,Below.refl _ _,fun _ _=>.nilsl⟩
theorem FB (n:Nat) (h0:0<n) (hn:n≤1000000000) (μ:AM):aN ctx 108 [.pv .nilsl,.pv (.int .i64 n)] μ (.ref μ.length 0 0 0) (μ++[⟨[],0,2,62,false⟩]):=by
 refine⟨by kernel_rfl,fun w0 S γ w vs hW hp=>?_⟩;obtain⟨i0,z,hi,hz,hs,hb,hzc⟩:=DR;have hvs:vs=[.slice none 0 0,.int .i64 n]:=by
  have hl:=hp.len;match vs,hl with
  |[v,u],_ =>
   have h1:=iH (hp.at_ 0 _ _ rfl rfl);have h2:=eZ (hp.at_ 1 _ _ rfl rfl);rw[h1,h2]
 subst hvs;refine(Any8.slices_Grow_grow xN i0 z hi hz (by omega) none 0 0 n [] w (by omega) (by omega) (by rw[hb];omega) (by omega) (by simp) (fun _=>rfl) (fun a h=>by cases h)).mono fun e w' hh=>?_
 obtain⟨he,hw⟩:=hh;rw[show AD.t 25=62 from rfl]at he hw;obtain⟨hW1,hE1⟩:=hW.drew;have hge:=grownCap_ge w (0+n) 0 62;have hgm:=grownCap_le_maxLen w (0+n) 0 62 (by simp only[maxLen];omega);generalize hG:grownCap w (0+n) 0 62=G at *;obtain⟨hW2,hE2⟩:=hW1.Ep (avs:=[]) (cs:=(Builtin.zeroCells z.cells (0+n-0)++Builtin.zeroCells z.cells (G-(0+n))).toList) (elem:=62) 2 (by omega) (Nat.zero_le _) fun i x hx=>by simp at hx
 have hco:(Builtin.zeroCells z.cells (0+n-0)++Builtin.zeroCells z.cells (G-(0+n))).toList.toArray=[].toArray++Builtin.zeroCells z.cells (0+n-0)++Builtin.zeroCells z.cells (G-(0+n)):=by simp
 have hcl:(Builtin.zeroCells z.cells (0+n-0)++Builtin.zeroCells z.cells (G-(0+n))).toList.length=G*2:=by
  rw[Array.length_toList,Array.size_append,size_zeroCells,size_zeroCells,hzc];omega
 rw[hco,hcl]at hW2 hE2;subst he hw;exact⟨_,S,_,rfl,hE1.trans hE2,hW2,.ref _ _ _ _ _ _ ⟨w.heap.size,0,none⟩ G (eK _ _ _) (Nat.le_refl _) ⟨rfl,Nat.zero_le _⟩ fun _=>.inl ⟨G,rfl,Nat.zero_add _,Nat.zero_le _,hgm⟩⟩
def c80:ay:=(⟨_,by conv=>(lhs;reduce;try simp only[cJ,Int.cast_ofNat_Int,Int.reduceNegSucc,UInt8.reduceOfNat])⟩:{x // codeOf Tryz.prog 80 (fun _=>false)=some x}).1
theorem Ig:bp Tryz.prog 80 (fun _=>false)=some (c80,[.t 2],36,true):=by kernel_rfl
def j6 (L:List (List Rw)):Nat:=(L.map List.length).sum
theorem nS (L:List (List Rw)) (k:Nat) (h:k<L.length):j6 (L.take (k+1))=j6 (L.take k)+(L.getD k []).length:=by
 rw[j6,aJ L k [] h];simp[j6]
theorem FC (L:List (List Rw)) (k:Nat):j6 (L.take k)≤j6 L:=by
 have:=congrArg j6 (List.take_append_drop k L);simp only[j6,List.map_append,List.sum_append]at this ⊢;omega
theorem B0 (L:List (List Rw)) (k:Nat) (h:k<L.length):(L.take (k+1)).flatten=(L.take k).flatten++L.getD k []:=by
 rw[aJ L k [] h];simp
theorem xO (L:List (List Rw)):L.flatten.length=j6 L:=by
 rw[List.length_flatten];rfl
theorem mq (L:List (List Rw)) (k:Nat) (hk:k<L.length) (h:k<(L.flatMap sE).length):(L.flatMap sE)[k]'h= .sl (L.getD k []).length ((L.getD k []).flatMap dI):=by
 have:=cX xj L k [] 0 hk (by omega);rw[Nat.mul_one,Nat.add_zero,List.getElem?_eq_getElem h]at this;exact Option.some.inj this
theorem uG (L:List (List Rw)) (hL:L.length≤1000000) (hS:j6 L≤1000000000):aj ctx 80 [aC L] (ax L.flatten):=by
 have f1:=mf L;have hle:=FC L;have hfl:=xO L;have loop1:∀{R:Exit→AF→AM→Prop} {x:ay} {f:AF},Sub [(0,.pv (aC L)),(3,.pv (.int .i64 0)),(9,.pv (aC L)),(10,.pv (.int .i64 L.length)),(11,.pv (.int .i64 0))] f →
   (∀k,k≤L.length→Aw ctx (fun _=>false) 36 0 x (cW (fun f' μ'=>k<L.length∧True∧Sub [(0,.pv (aC L)),(3,.pv (.int .i64 (j6 (L.take (k+1))))),(9,.pv (aC L)),(10,.pv (.int .i64 L.length)),(11,.pv (.int .i64 (k+1:Nat)))] f'∧∃junk,μ'=[]++junk) R) [(0,.pv (aC L)),(3,.pv (.int .i64 (j6 (L.take k)))),(9,.pv (aC L)),(10,.pv (.int .i64 L.length)),(11,.pv (.int .i64 k))] [])→Aw ctx (fun _=>false) 36 0 (.loop x) R f []:=fun hs st =>
  bg L.length (fun _=>True) (fun k=>[(0,.pv (aC L)),(3,.pv (.int .i64 (j6 (L.take k)))),(9,.pv (aC L)),(10,.pv (.int .i64 L.length)),(11,.pv (.int .i64 k))]) (fun _=>[]) trivial hs ⟨[],rfl⟩ (fun _=>⟨Nat.zero_le _,rfl,rfl⟩) fun k hk _=>st k hk
 by_cases h0:j6 L=0
 ·have:aj ctx 80 [aC L] .nilsl:=by
   have hg:=DS;have hz:∀k,j6 (L.take k)=0:=fun k=>by have:=hle k;omega
   refine af (C:=ctx) (Fn.of Ig rfl) rfl ?_;unfold c80;repeat' (first|((with_reducible first|show aG _|show aM _);simp[vb]<;>omega)|exact(rfl:some _=_)|((fail_if_success refine aT ?_);refine aZ ?_;(repeat1' dsimp only[c80,aC,go_sem]);first|refine aU ?_ ?_ rfl ?_|apply aV|apply aW|(refine aX (fun hc=>?_) fun hc=>?_<;>first|(cases hc;done)|(exfalso;simp at hc<;>omega)|(try simp only[bn]at hc;try contradiction))|skip))
   refine loop1 (by (repeat' (first|exact trivial|refine And.intro (by first|rfl|(simp[get,Nat.beq]<;>omega)|(dsimp only[get];congr 1<;>first|rfl|omega|(simp<;>omega))) ?_))) fun k hk=>?_
   by_cases hlt:k<L.length
   ·have e:=mq L k hlt;clear loop1;have hl:=nS L k hlt;rw[hz,hz]at hl;rw[hz,hz];generalize L.getD k []=l at *;obtain rfl:l=[]:=List.eq_nil_of_length_eq_zero (by omega);repeat' (first|((with_reducible show aG _);first|exact True.intro|(simp only[vb,lb,e,f1,hlt];and_intros<;>first|omega|(simp<;>omega)))|((with_reducible show aM _);first|exact True.intro|((try dsimp only[go_sem]);(simp[vb,e,f1,hlt]<;>omega)))|exact(rfl:some _=_)|((fail_if_success refine aT ?_);refine br [ξ 14 (.sl 0 [])] ?_;(repeat1' dsimp only[c80,aC,go_sem]);first|refine aU ?_ ?_ rfl ?_|apply aV|apply aW|(refine aX (fun hc=>?_) fun hc=>?_<;>first|(cases hc;done)|(exfalso;(simp at hc<;>omega))|(try simp only[bn]at hc;try contradiction))|skip))
    exact⟨hlt,trivial,by (repeat' (first|exact trivial|refine And.intro (by first|rfl|(simp[get,Nat.beq]<;>omega)|(dsimp only[get];congr 1<;>first|rfl|omega|(simp<;>omega))) ?_)),_,rfl⟩
   ·obtain rfl:k=L.length:=by omega
    rw[hz];repeat' (first|((with_reducible show aG _);exact True.intro)|((with_reducible show aM _);first|exact True.intro|((try dsimp only[go_sem]);(simp only[vb,and_true,true_implies];(repeat' (first|(with_reducible assumption)|(with_reducible apply And.intro)|intro _|((fail_if_success (with_reducible show(_:Int)≤_));assumption)))<;>(simp_all;done))))|exact(rfl:some _=_)|((fail_if_success refine aT ?_);refine fu [(108,fun _=>some .nilsl)] ?_;(repeat1' dsimp only[c80,aC,go_sem]);first|refine aU ?_ ?_ rfl ?_|apply aV|apply aW|(refine aX (fun hc=>?_) fun hc=>?_<;>first|(cases hc;done)|(exfalso;(simp at hc<;>omega))|(try simp only[bn]at hc;try contradiction))|skip))
    refine bg L.length (fun _=>True) (fun k=>[(6,.pv .nilsl),(25,.pv (aC L)),(26,.pv (.int .i64 L.length)),(27,.pv (.int .i64 k))]) (fun _=>[]) trivial (by (repeat' (first|exact trivial|refine And.intro (by first|rfl|(simp[get,Nat.beq]<;>omega)|(dsimp only[get];congr 1<;>first|rfl|omega|(simp<;>omega))) ?_))) ⟨[],rfl⟩ (fun _=>⟨Nat.zero_le _,rfl,rfl⟩) fun k hk _=>?_
    by_cases hlt:k<L.length
    ·have e:=mq L k hlt;clear loop1;have hl:=nS L k hlt;rw[hz,hz]at hl;generalize L.getD k []=l at *;obtain rfl:l=[]:=List.eq_nil_of_length_eq_zero (by omega);repeat' (first|((with_reducible show aG _);first|exact True.intro|(simp only[vb,lb,e,f1,hlt];and_intros<;>first|omega|(simp<;>omega)))|((with_reducible show aM _);first|exact True.intro|((try dsimp only[go_sem]);(simp[vb,e,f1,hlt]<;>omega)))|exact(rfl:some _=_)|((fail_if_success refine aT ?_);refine br [ξ 30 (.sl 0 []),(33,{mode:=2})] ?_;(repeat1' dsimp only[c80,aC,go_sem]);first|refine aU ?_ ?_ rfl ?_|apply aV|apply aW|(refine aX (fun hc=>?_) fun hc=>?_<;>first|(cases hc;done)|(exfalso;(simp at hc<;>omega))|(try simp only[bn]at hc;try contradiction))|skip))
     exact⟨hlt,trivial,by (repeat' (first|exact trivial|refine And.intro (by first|rfl|(simp[get,Nat.beq]<;>omega)|(dsimp only[get];congr 1<;>first|rfl|omega|(simp<;>omega))) ?_)),_,rfl⟩
    ·obtain rfl:k=L.length:=by omega
     repeat' (first|((with_reducible show aG _);exact True.intro)|((with_reducible show aM _);exact True.intro)|exact(rfl:some _=_)|((fail_if_success refine aT ?_);refine aZ ?_;(repeat1' dsimp only[c80,aC,go_sem]);first|refine aU ?_ ?_ rfl ?_|apply aV|apply aW|(refine aX (fun hc=>?_) fun hc=>?_<;>first|(cases hc;done)|(exfalso;(simp at hc<;>omega))|(try simp only[bn]at hc;try contradiction))|skip))
  have hc:=this.p6 1;have hn:L.flatten=[]:=List.eq_nil_of_length_eq_zero (by omega);rw[hn];exact hc
 ·have hg:=FB (j6 L) (by omega) hS [];refine af (C:=ctx) (Fn.of Ig rfl) rfl ?_;unfold c80;repeat' (first|((with_reducible first|show aG _|show aM _);simp[vb]<;>omega)|exact(rfl:some _=_)|((fail_if_success refine aT ?_);refine aZ ?_;(repeat1' dsimp only[c80,aC,go_sem]);first|refine aU ?_ ?_ rfl ?_|apply aV|apply aW|(refine aX (fun hc=>?_) fun hc=>?_<;>first|(cases hc;done)|(exfalso;simp at hc<;>omega)|(try simp only[bn]at hc;try contradiction))|skip))
  refine loop1 (by (repeat' (first|exact trivial|refine And.intro (by first|rfl|(simp[get,Nat.beq]<;>omega)|(dsimp only[get];congr 1<;>first|rfl|omega|(simp<;>omega))) ?_))) fun k hk=>?_
  by_cases hlt:k<L.length
  ·have e:=mq L k hlt;clear loop1;have hl:=nS L k hlt;have hl2:=hle (k+1);rw[hl]at hl2 ⊢;clear hl hle hfl;generalize L.getD k []=l at *;generalize j6 (L.take k)=sm at *;repeat' (first|((with_reducible show aG _);first|exact True.intro|(simp only[vb,lb,e,f1,hlt];and_intros<;>first|omega|(simp<;>omega)))|((with_reducible show aM _);first|exact True.intro|((try dsimp only[go_sem]);(simp[vb,e,f1,hlt]<;>omega)))|exact(rfl:some _=_)|((fail_if_success refine aT ?_);refine br [ξ 14 (.sl l.length (l.flatMap dI))] ?_;(repeat1' dsimp only[c80,aC,go_sem]);first|refine aU ?_ ?_ rfl ?_|apply aV|apply aW|(refine aX (fun hc=>?_) fun hc=>?_<;>first|(cases hc;done)|(exfalso;(simp at hc<;>omega))|(try simp only[bn]at hc;try contradiction))|skip))
   exact⟨hlt,trivial,by (repeat' (first|exact trivial|refine And.intro (by first|rfl|(simp[get,Nat.beq]<;>omega)|(dsimp only[get];congr 1<;>first|rfl|omega|(simp<;>omega))) ?_)),_,rfl⟩
  ·obtain rfl:k=L.length:=by omega
   rw[List.take_length];repeat' (first|((with_reducible show aG _);exact True.intro)|((with_reducible show aM _);first|exact True.intro|((try dsimp only[go_sem]);(simp only[vb,and_true,true_implies];(repeat' (first|(with_reducible assumption)|(with_reducible apply And.intro)|intro _|((fail_if_success (with_reducible show(_:Int)≤_));assumption))))))|exact(rfl:some _=_)|((fail_if_success refine aT ?_);refine br [(24,{val:=some (.ref 0 0 0 0),mem:=some [⟨[],0,2,62,false⟩]})] ?_;(repeat1' dsimp only[c80,aC,go_sem]);first|refine aU ?_ ?_ rfl ?_|apply aV|apply aW|(refine aX (fun hc=>?_) fun hc=>?_<;>first|(cases hc;done)|(exfalso;(simp at hc<;>omega))|(try simp only[bn]at hc;try contradiction))|skip))
   refine bg L.length (fun _=>True) (fun k=>[(6,.ref 0 k 0 (L.take k).flatten.length),(25,.pv (aC L)),(26,.pv (.int .i64 L.length)),(27,.pv (.int .i64 k))]) (fun k=>[⟨((L.take k).flatten.flatMap dI).map .pv,k,2,62,false⟩]) trivial (by (repeat' (first|exact trivial|refine And.intro (by first|rfl|(simp[get,Nat.beq]<;>omega)|(dsimp only[get];congr 1<;>first|rfl|omega|(simp<;>omega))) ?_))) ⟨[],rfl⟩ (fun _=>⟨Nat.zero_le _,rfl,by simp[aP,ck]⟩) fun k hk _=>?_
   by_cases hlt:k<L.length
   ·have e:=mq L k hlt;clear loop1;have hl:=nS L k hlt;have hl2:=hle (k+1);have hf:=B0 L k hlt;have f2:=fL (L.take k).flatten;have f3:=xO (L.take k);generalize L.getD k []=l at *;have f4:=fL l;rw[hf];generalize (L.take k).flatten=m at *;repeat' (first|((with_reducible show aG _);first|exact True.intro|(simp only[vb,lb,e,f1,f2,f4,hlt];and_intros<;>first|omega|(simp<;>omega)))|((with_reducible show aM _);first|exact True.intro|((try dsimp only[go_sem]);(simp[vb,e,f1,f2,f4,hlt]<;>omega)))|exact(rfl:some _=_)|((fail_if_success refine aT ?_);refine br [ξ 30 (.sl l.length (l.flatMap dI)),(33,{mode:=1})] ?_;(repeat1' dsimp only[c80,aC,go_sem]);first|refine aU ?_ ?_ rfl ?_|apply aV|apply aW|(refine aX (fun hc=>?_) fun hc=>?_<;>first|(cases hc;done)|(exfalso;(simp at hc<;>omega))|(try simp only[bn]at hc;try contradiction))|skip))
    exact⟨hlt,trivial,by simp only[List.length_append];(repeat' (first|exact trivial|refine And.intro (by first|rfl|(simp[get,Nat.beq]<;>omega)|(dsimp only[get];congr 1<;>first|rfl|omega|(simp<;>omega))) ?_)),[],by simp[List.flatMap_append]⟩
   ·obtain rfl:k=L.length:=by omega
    rw[List.take_length];repeat' (first|((with_reducible show aG _);exact True.intro)|((with_reducible show aM _);exact True.intro)|exact(rfl:some _=_)|((fail_if_success refine aT ?_);refine aZ ?_;(repeat1' dsimp only[c80,aC,go_sem]);first|refine aU ?_ ?_ rfl ?_|apply aV|apply aW|(refine aX (fun hc=>?_) fun hc=>?_<;>first|(cases hc;done)|(exfalso;(simp at hc<;>omega))|(try simp only[bn]at hc;try contradiction))|skip))
    have f2:=fL L.flatten;exact o0 rfl rfl rfl (by rw[List.drop_zero,List.take_of_length_le (by simp only[List.length_map];omega)]) (by simp only[List.length_map];omega)
end Pur
end
section
namespace Rf
open Pur (aL)
structure DT (b:List Rg) (v:List Int):Prop where
 len:v.length=b.length
 at_:∀k,k<b.length→(b.getD k zr).lo≤v.getD k 0∧v.getD k 0≤(b.getD k zr).hi
theorem DT.set {b:List Rg} {v:List Int} (h:DT b v) {c:Nat} {x:Rg} (hc:c<b.length) (h1:x.lo≤v.getD c 0) (h2:v.getD c 0≤x.hi):DT (b.set c x) v:=by
 refine⟨by simp[h.len],fun k hk=>?_⟩;rw[lF hc];split
 ·rename_i e;subst e;exact⟨h1,h2⟩
 ·exact h.at_ k (by simpa using hk)
end Rf
end
section
namespace Rf
open Pur (aL)
theorem DU {b:List Rg} {c:Nat} {x:Rg} (hc:c<b.length) (h:nE x (b.getD c zr)):nF (b.set c x) b:=by
 refine⟨by simp,fun k _=>?_⟩;rw[lF hc];split
 ·rename_i e;subst e;exact h
 ·exact nE.refl _
theorem DV {s:Sy} {rows:List Rw} {b:List Rg} (hok:cz b=true) (hrow:∀r∈rows,gA b.length r=true) (hgo:∀q∈s.graphs,bH b.length q=true) (x:aS) (hx:0≤x.index) (hp:(b8 s rows b x).2.1=true) :
  (b8 s rows b x).2.2=true∨(nF (b8 s rows b x).1 b∧cz (b8 s rows b x).1=true):=by
 unfold b8 at hp ⊢;by_cases hk:x.kind=1
 ·simp only[if_pos hk]at hp ⊢;by_cases h1:x.index<s.graphs.length
  ·simp only[if_pos h1]at hp ⊢;have hq:=hgo _ (Pur.aO (d:=zg) (show x.index.toNat<s.graphs.length by omega));generalize s.graphs.getD x.index.toNat zg=g at *;by_cases h2:g.first≤x.cell∧x.cell<g.first+g.least.length
   ·simp only[if_pos h2];have hsub:=Fx g b (x.cell-g.first).toNat;simp only[bH,aL,Bool.and_eq_true,decide_eq_true_eq]at hq;obtain⟨⟨⟨⟨⟨g1,g2⟩,g3⟩,g4⟩,g5⟩,g6⟩:=hq;have hc:x.cell.toNat<b.length:=by omega
    rw[show g.first.toNat+(x.cell-g.first).toNat=x.cell.toNat by omega]at hsub;by_cases he:(tG g b (x.cell-g.first).toNat).hi<(tG g b (x.cell-g.first).toNat).lo
    ·exact .inl (by simp[dX,he])
    ·exact .inr ⟨DU hc hsub,qp hok (s6 (gC hok _) hsub he)⟩
   ·rw[if_neg h2]at hp;cases hp
  ·rw[if_neg h1]at hp;cases hp
 ·rw[if_neg hk]at hp ⊢;by_cases h1:x.index<rows.length∧x.cell<b.length
  ·rw[if_pos h1]at hp ⊢;have hro:=hrow _ (Pur.aO (d:=zw) (show x.index.toNat<rows.length by omega));generalize rows.getD x.index.toNat zw=r at *;dsimp only at hp ⊢;by_cases h3:x.cell<0
   ·rw[if_pos h3]at hp ⊢;exact .inl hp
   ·rw[if_neg h3];have hc:x.cell.toNat<b.length:=by omega
    have t1:dS r b x.cell=fF r b x.cell:=by
     unfold dS;rw[if_pos ⟨by simp[eA,hok,hro],by omega,by omega⟩]
    rw[t1];by_cases he:(fF r b x.cell).hi<(fF r b x.cell).lo
    ·exact .inl (by simp[dX,he])
    ·exact .inr ⟨DU hc (uE x.cell he),qp hok (s6 (gC hok _) (uE x.cell he) he)⟩
  ·rw[if_neg h1]at hp;cases hp
theorem Az.sys {s:Sy} (h:im s=true):Az s s.box.length∧cz s.box=true∧(∀r∈s.rows,gA s.box.length r=true):=by
 simp only[im,eA,Bool.and_eq_true,decide_eq_true_eq]at h;obtain⟨⟨⟨⟨⟨⟨⟨h1,h1'⟩,h2⟩,h3⟩,h4⟩,h5⟩,h6⟩,h7⟩:=h;refine⟨⟨fun q hq=>List.all_eq_true.mp h6 q hq,fun l hl r hr=>?_⟩,h1,fun r hr=>List.all_eq_true.mp h1' r hr⟩;have:=List.all_eq_true.mp h7 l hl;simp only[fD,eA,Bool.and_eq_true]at this;exact List.all_eq_true.mp this.2.2 r hr
end Rf
end
section
namespace Pur
open Go.RowKit
section
open Rf
theorem JI:Tryz.prog.cellsOf 57=2:=by kernel_rfl
theorem JJ:Tryz.prog.cellsOf 107=2:=by kernel_rfl
theorem Jn:Tryz.prog.cellsOf 62=2:=by kernel_rfl
theorem JK:Tryz.prog.cellsOf 99=3:=by kernel_rfl
theorem JR:Tryz.prog.cellsOf 36=4:=by kernel_rfl
theorem JS:Tryz.prog.cellsOf 31=1:=by kernel_rfl
theorem JL:Tryz.prog.cellsOf 32=1:=by kernel_rfl
theorem JT:Tryz.prog.cellsOf 33=1:=by kernel_rfl
theorem JU:Tryz.prog.cellsOf 34=1:=by kernel_rfl
theorem JV:Tryz.prog.cellsOf 60=1:=by kernel_rfl
theorem JW:Tryz.prog.cellsOf 49=1:=by kernel_rfl
theorem JX {n B:Nat} {l:List PV} (h:Typed Tryz.prog B n 57 l):∃x,l=fW x∧True:=by
 obtain⟨hl,m,rfl,hf⟩:=iO h Tryz.underlying57;rw[JI]at hl;match l,hl with
 |[a,b],_ =>
  obtain⟨x,hx⟩:=po (piece hf 0 0 3 Aj rfl);obtain⟨y,hy⟩:=po (piece hf 1 1 3 Aj rfl);simp at hx hy;subst hx hy;exact⟨⟨x,y⟩,rfl,trivial⟩
theorem JY {n B:Nat} {l:List PV} (h:Typed Tryz.prog B n 107 l):∃x,l=j5 x∧True:=by
 obtain⟨hl,m,rfl,hf⟩:=iO h Tryz.underlying107;rw[JJ]at hl;match l,hl with
 |[a,b],_ =>
  obtain⟨x,hx⟩:=po (piece hf 0 0 3 Aj rfl);obtain⟨y,hy⟩:=po (piece hf 1 1 3 Aj rfl);simp at hx hy;subst hx hy;exact⟨⟨x,y⟩,rfl,trivial⟩
theorem JM {n B:Nat} {l:List PV} (h:Typed Tryz.prog B n 62 l):∃x,l=dI x∧x.terms.length≤B:=by
 obtain⟨hl,m,rfl,hf⟩:=iO h Tryz.underlying62;rw[Jn]at hl;match l,hl with
 |[a,b],_ =>
  obtain⟨x,hx,lx,-⟩:=ij (piece hf 0 0 60 JV rfl) Tryz.underlying60 JJ j5 (fun _=>True) (fun _ _=>rfl) fun m c _ hc=>JY hc
  obtain⟨y,hy⟩:=po (piece hf 1 1 3 Aj rfl);simp at hx hy;subst hx hy;exact⟨⟨x,y⟩,rfl,lx⟩
theorem JZ {n B:Nat} {l:List PV} (h:Typed Tryz.prog B n 99 l):∃x,l=dx x∧x.least.length≤B:=by
 obtain⟨hl,m,rfl,hf⟩:=iO h Tryz.underlying99;rw[JK]at hl;match l,hl with
 |[a,b,c],_ =>
  obtain⟨x,hx⟩:=po (piece hf 0 0 3 Aj rfl);obtain⟨y,hy⟩:=po (piece hf 1 1 3 Aj rfl);obtain⟨z,hz,lz,-⟩:=ij (piece hf 2 2 49 JW rfl) Tryz.underlying49 Aj bO (fun _=>True) (fun _ _=>rfl) fun m c _ hc=>by
   obtain⟨x,hx⟩:=po hc;exact⟨x,hx,trivial⟩
  simp at hx hy hz;subst hx hy hz;exact⟨⟨x,y,z⟩,rfl,lz⟩
theorem J0 {B:Nat} (hB:B≤1000000000) {p:PV} (h:pZ Tryz.prog B 36 p):∃s,p= .agg [ai s.box,ax s.rows,aI s.graphs,aC s.cases]∧Ca s:=by
 obtain⟨n,l,h',rfl⟩:=C0 h Tryz.underlying36;obtain⟨hl,m,rfl,hf⟩:=iO h' Tryz.underlying36;rw[JR]at hl;match l,hl with
 |[a,b,c,d],_ =>
  obtain⟨x0,e0,l0,-⟩:=ij (piece hf 0 0 31 JS rfl) Tryz.underlying31 JI fW (fun _=>True) (fun _ _=>rfl) fun m c _ hc=>JX hc
  obtain⟨x1,e1,l1,w1⟩:=ij (piece hf 1 1 32 JL rfl) Tryz.underlying32 Jn dI (fun x=>x.terms.length≤B) (fun _ _=>rfl) fun m c _ hc=>JM hc
  obtain⟨x2,e2,l2,w2⟩:=ij (piece hf 2 2 33 JT rfl) Tryz.underlying33 JK dx (fun x=>x.least.length≤B) (fun _ _=>rfl) fun m c _ hc=>JZ hc
  obtain⟨x3,e3,l3,w3⟩:=ij (piece hf 3 3 34 JU rfl) Tryz.underlying34 JL sE (fun x=>x.length≤B∧∀r∈x,r.terms.length≤B) (fun _ _=>rfl) fun m c _ hc=>by
   obtain⟨x,e,lx,wx⟩:=ij hc Tryz.underlying32 Jn dI (fun x=>x.terms.length≤B) (fun _ _=>rfl) fun m c _ hc=>JM hc
   exact⟨x,e,lx,wx⟩
  simp at e0 e1 e2 e3;subst e0 e1 e2 e3;exact⟨⟨x0,x1,x2,x3⟩,rfl,by show x0.length≤_;omega,by show x1.length≤_;omega,by show x2.length≤_;omega,by show x3.length≤_;omega,fun x hx=>Nat.le_trans (w1 x hx) hB,fun x hx=>Nat.le_trans (w2 x hx) hB,fun x hx=>Nat.le_trans (w3 x hx).1 hB,fun x hx r hr=>Nat.le_trans ((w3 x hx).2 r hr) hB⟩
end
section
open Rf
theorem FD {n':Nat} {x:ay} {R:Exit→AF→AM→Prop} {F:AF} (t:Tree) (kd c a:Int) (S:List aS) (hs:∀M,kp M 3 F=F) (hof:dm F 3=true)
  (h:Aw ctx (fun _=>false) n' 0 x R F [ae t,aE,vK 4 kd c a S []]):Aw ctx (fun _=>false) n' 0 x R F ([ae t,aE,vS 3 kd c a S]++Fy (fun _=>[]) S):=by
 cases S with
 |nil=>exact nM (μ':=[ae t,aE,vK 4 kd c a [] []]) (MW.last (μ:=[ae t,aE]) ⟨(PW.refl CW.refl [AV.pv (.int .i64 kd)]).kF (PW.cons CW.nil (PW.refl CW.refl [AV.pv (.int .i64 c),.pv (.int .i64 a),.pv .nilsl])),rfl,rfl,rfl,rfl⟩) h
 |cons x l =>
  exact gJ (μ:=[ae t,aE]) (c1:=[.int .i64 kd]) (c2:=[.int .i64 c,.int .i64 a,.nilsl]) (ps:=(x::l).flatMap aw) (by simp[aP,ck,aE,ae]) (by simp) (by simp) (cR _) hs hof h
theorem FE {n':Nat} {x:ay} {R:Exit→AF→AM→Prop} {F:AF} (t:Tree) (kd c a:Int) (S:List aS) (ks:List Tree) (hF:iz [0,1,2,4] F=F) (hs:∀M,kp M 3 F=F) (hof:dm F 3=true)
  (h:Aw ctx (fun _=>false) n' 0 x R F [ae t,aE,ae (.node kd S c a ks)]):Aw ctx (fun _=>false) n' 0 x R F ([ae t,aE,vK 4 kd c a S ks]++Eh (fun t0=>[ae t0]) ks):=by
 cases ks with
 |nil=>exact nM (μ':=[ae t,aE,ae (.node kd S c a [])]) (MW.last (μ:=[ae t,aE]) ⟨(PW.refl CW.refl [AV.pv (.int .i64 kd),.pv (aa S),.pv (.int .i64 c),.pv (.int .i64 a)]).kF (PW.cons CW.nil PW.nil),rfl,rfl,rfl,rfl⟩) h
 |cons t0 l =>
  refine fK [0,1,2,4] rfl ?_;have e:gI [0,1,2,4] ([ae t,aE,vK 4 kd c a S (t0::l)]++Eh (fun t0=>[ae t0]) (t0::l))=[ae t,aE,⟨[.pv (.int .i64 kd),.pv (aa S),.pv (.int .i64 c),.pv (.int .i64 a),.ref 3 l.length 0 (l.length+1)],0,5,25,false⟩,⟨(((t0::l).flatMap cy).map AV.pv).map (dB [0,1,2,4] 3),l.length,5,25,false⟩]:=rfl;rw[e,rb,hF];exact gJ (μ:=[ae t,aE]) (c1:=[.int .i64 kd,aa S,.int .i64 c,.int .i64 a]) (c2:=[]) (ps:=(t0::l).flatMap cy) (by simp[aP,ck,aE,ae]) (by simp) (by simp) (cL _) hs hof h
def DW:ay:=(⟨_,by conv=>(lhs;reduce;try simp only[cJ,Int.cast_ofNat_Int,Int.reduceNegSucc,UInt8.reduceOfNat])⟩:{x // codeOf Tryz.prog 33 (fun _=>false)=some x}).1
theorem Jo:bp Tryz.prog 33 (fun _=>false)=some (DW,[.cell 4 5 true,.t 5],69,true):=by kernel_rfl
theorem n8:∀(t:Tree),wt t≤1000000000→∀(n:Int),(wt t:Int)-1000000000000≤n→n≤1000000000000 →
  aj ctx 33 [aA t,.int .i64 n] (.tup [aA (la t n),.int .i64 (n-bU t)]):=by
 refine Tree.ind fun kd st c a l ih hw n hn1 hn2=>?_
 rw[bE]at hw hn1;have hl:=dR l;have hsw:=fy l;rw[nQ,fv];have f1:=cR st;have f2:=cL l;refine af (C:=ctx) (Fn.of Jo rfl) rfl ?_;unfold DW;repeat' (first|((with_reducible show aG _);first|exact True.intro|(simp[vb]<;>omega))|((with_reducible show aM _);exact True.intro)|exact(rfl:some _=_)|((fail_if_success refine aT ?_);refine aZ ?_;(repeat1' dsimp only[DW,aA,Tree.kind,Tree.steps,Tree.cell,Tree.pos,Tree.kids,aa,ah,go_sem]);first|refine aU ?_ ?_ rfl ?_|apply aV|apply aW|(refine aX (fun hc=>?_) fun hc=>?_<;>first|(cases hc;done)|(try simp only[bn]at hc;try contradiction))|skip))
 refine bg st.length (fun _=>True) (fun k=>[(1,.pv (.int .i64 n)),(2,.ptr 0 0 0),(4,.ptr 1 0 0),(6,.ptr 2 0 0),(7,.pv (.int .i64 k))])
  (fun k=>[ae (.node kd st c a l),aE,vS 3 kd c a (du (st.take k) n)]++Fy (fun _=>[]) (du (st.take k) n)) trivial (by (repeat' (first|exact trivial|refine And.intro (by first|rfl|(simp[get,Nat.beq]<;>omega)|(dsimp only[get];congr 1<;>first|rfl|omega|(simp<;>omega))) ?_))) ⟨[],by rw[List.take_zero,iS [] n (by simp;omega)];rfl⟩ (fun k=>?_) fun k hk _=>?_
 ·generalize du (st.take k) n=S;cases S with
  |nil=>exact⟨Nat.zero_le _,rfl,rfl⟩
  |cons x S=>exact⟨Nat.zero_le _,rfl,by simp[vS,Fy,aP,aE,ae,ck]⟩
 by_cases hlt:k<st.length
 ·have e:=bM bu st k zs hlt;have hd:=qH st n k hlt;have hdl:=qq (st.take k) n;rw[List.length_take]at hdl;rw[hd];clear hd;generalize st.getD k zs=x at *;generalize du (st.take k) n=S at *;by_cases hkn:(k:Int)=n
  ·rw[if_pos hkn];obtain rfl:n=(k:Int):=hkn.symm;clear hkn;cases S with
   |nil =>
    simp only[vH,rj,List.append_nil];repeat' (first|((with_reducible show aG _);first|exact True.intro|(simp only[vb,lb,e,f1,hlt,aw];and_intros<;>first|omega|(simp<;>omega)))|((with_reducible show aM _);exact True.intro)|exact(rfl:some _=_)|((fail_if_success refine aT ?_);refine br [ξ 34 (.agg [.int .i64 x.kind,.int .i64 x.index,.int .i64 x.cell])] ?_;(repeat1' dsimp only[DW,ae,aE,Tree.kind,Tree.steps,Tree.cell,Tree.pos,Tree.kids,aa,ah,go_sem]);first|refine aU ?_ ?_ rfl ?_|apply aV|apply aW|(refine aX (fun hc=>?_) fun hc=>?_<;>first|(cases hc;done)|(exfalso;(simp at hc<;>omega))|(try simp only[bn]at hc;try contradiction))|skip))
    exact⟨hlt,trivial,by (repeat' (first|exact trivial|refine And.intro (by first|rfl|(simp[get,Nat.beq]<;>omega)|(dsimp only[get];congr 1<;>first|rfl|omega|(simp<;>omega))) ?_)),_,rfl⟩
   |cons s0 l0 =>
    simp only[nR,lG,List.append_nil,List.cons_append,List.nil_append];repeat' (first|((with_reducible show aG _);first|exact True.intro|(simp only[vb,lb,e,f1,hlt,aw];and_intros<;>first|omega|(simp<;>omega)))|((with_reducible show aM _);exact True.intro)|exact(rfl:some _=_)|((fail_if_success refine aT ?_);refine br [ξ 34 (.agg [.int .i64 x.kind,.int .i64 x.index,.int .i64 x.cell])] ?_;(repeat1' dsimp only[DW,ae,aE,Tree.kind,Tree.steps,Tree.cell,Tree.pos,Tree.kids,aa,ah,go_sem]);first|refine aU ?_ ?_ rfl ?_|apply aV|apply aW|(refine aX (fun hc=>?_) fun hc=>?_<;>first|(cases hc;done)|(exfalso;(simp at hc<;>omega))|(try simp only[bn]at hc;try contradiction))|skip))
    exact⟨hlt,trivial,by (repeat' (first|exact trivial|refine And.intro (by first|rfl|(simp[get,Nat.beq]<;>omega)|(dsimp only[get];congr 1<;>first|rfl|omega|(simp<;>omega))) ?_)),_,rfl⟩
  ·rw[if_neg hkn];cases S with
   |nil =>
    simp only[vH,rj,List.append_nil,List.nil_append,nR,lG,List.length_nil];repeat' (first|((with_reducible show aG _);first|exact True.intro|(simp only[vb,lb,e,f1,hlt,aw,hkn];and_intros<;>first|omega|(simp<;>omega)))|((with_reducible show aM _);first|exact True.intro|((try dsimp only[go_sem]);(simp[vb,e,f1,hlt,aw,hkn]<;>omega)))|exact(rfl:some _=_)|((fail_if_success refine aT ?_);refine br [ξ 34 (.agg [.int .i64 x.kind,.int .i64 x.index,.int .i64 x.cell])] ?_;(repeat1' dsimp only[DW,ae,aE,Tree.kind,Tree.steps,Tree.cell,Tree.pos,Tree.kids,aa,ah,go_sem]);first|refine aU ?_ ?_ rfl ?_|apply aV|apply aW|(refine aX (fun hc=>?_) fun hc=>?_<;>first|(cases hc;done)|(exfalso;(simp at hc<;>omega))|(try simp only[bn]at hc;try contradiction))|skip))
    exact⟨hlt,trivial,by (repeat' (first|exact trivial|refine And.intro (by first|rfl|(simp[get,Nat.beq]<;>omega)|(dsimp only[get];congr 1<;>first|rfl|omega|(simp<;>omega))) ?_)),[],by simp[aw]⟩
   |cons s0 l0 =>
    simp only[List.length_cons]at hdl;simp only[nR,lG,List.append_nil,List.cons_append,List.nil_append];repeat' (first|((with_reducible show aG _);first|exact True.intro|(simp only[vb,lb,e,f1,hlt,aw,hkn,bu,qS,hdl];and_intros<;>first|omega|(simp<;>omega))|(simp[vb,e,f1,hlt,aw,hkn,bu,qS,hdl]<;>omega))|((with_reducible show aM _);first|exact True.intro|((try dsimp only[go_sem]);(simp[vb,e,f1,hlt,aw,hkn,bu,qS,hdl]<;>omega)))|exact(rfl:some _=_)|((fail_if_success refine aT ?_);refine br [ξ 34 (.agg [.int .i64 x.kind,.int .i64 x.index,.int .i64 x.cell])] ?_;(repeat1' dsimp only[DW,ae,aE,Tree.kind,Tree.steps,Tree.cell,Tree.pos,Tree.kids,aa,ah,go_sem]);first|refine aU ?_ ?_ rfl ?_|apply aV|apply aW|(refine aX (fun hc=>?_) fun hc=>?_<;>first|(cases hc;done)|(exfalso;(simp at hc<;>omega))|(try simp only[bn]at hc;try contradiction))|skip))
    exact⟨hlt,trivial,by (repeat' (first|exact trivial|refine And.intro (by first|rfl|(simp[get,Nat.beq]<;>omega)|(dsimp only[get];congr 1<;>first|rfl|omega|(simp<;>omega))) ?_)),_,by simp[aw];rfl⟩
 obtain rfl:k=st.length:=by omega
 rw[List.take_of_length_le (Nat.le_refl _)];generalize hS:du st n=S at *;refine FD (.node kd st c a l) kd c a S (fun _=>rfl) rfl ?_;rw[vI];repeat' (first|((with_reducible show aG _);first|exact True.intro|(simp only[vb,lb,f1,hlt];and_intros<;>first|omega|(simp<;>omega)))|((with_reducible show aM _);exact True.intro)|exact(rfl:some _=_)|((fail_if_success refine aT ?_);refine aZ ?_;(repeat1' dsimp only[DW,ae,aE,Tree.kind,Tree.steps,Tree.cell,Tree.pos,Tree.kids,aa,ah,go_sem]);first|refine aU ?_ ?_ rfl ?_|apply aV|apply aW|(refine aX (fun hc=>?_) fun hc=>?_<;>first|(cases hc;done)|(exfalso;(simp at hc<;>omega))|(try simp only[bn]at hc;try contradiction))|skip))
 refine bg l.length (fun _=>True) (fun k=>[(2,.ptr 0 0 0),(4,.ptr 1 0 0),(6,.ptr 2 0 0),(1,.pv (.int .i64 (n-st.length-bj (l.take k)))),(8,.pv (.int .i64 k))])
  (fun k=>[ae (.node kd st c a l),aE,vK 4 kd c a S ((ff l (n-st.length)).take k)]++Eh (fun t0=>[ae t0]) ((ff l (n-st.length)).take k)) trivial (by (repeat' (first|exact trivial|refine And.intro (by first|rfl|(simp[get,Nat.beq,bj]<;>omega)|(dsimp only[get];congr 1<;>first|rfl|omega|(simp<;>omega))) ?_))) ⟨[],rfl⟩ (fun k=>?_) fun k hk _=>?_
 ·generalize (ff l (n-st.length)).take k=ks;cases ks with
  |nil=>exact⟨Nat.zero_le _,rfl,rfl⟩
  |cons x S=>exact⟨Nat.zero_le _,rfl,by simp[vK,Eh,aP,aE,ae,ck]⟩
 by_cases hlk:k<l.length
 ·have e:=cK l k hlk;have hmem:=aO (d:=zt) hlk;have hwk:=fw hmem;have hta:=s7 l (n-st.length) k hlk;have hkl:((ff l (n-st.length)).take k).length=k:=by rw[List.length_take,fM];omega
  have hs1:=ik (l.take k) [l.getD k zt];rw[←aJ l k zt hlk,bj,bj]at hs1;have hs2:=iP (l.take k) [l.getD k zt];rw[←aJ l k zt hlk,fg,fg]at hs2;have hs3:=nk l (k+1);have hs4:=fy (l.take k);have hs5:=gV (l.getD k zt);have hih:=ih _ hmem (by omega) (n-st.length-bj (l.take k)) (by omega) (by omega);rw[hta,hs1];have hor:k=0→l.getD 0 zt=l.getD k zt:=fun h=>by rw[h]
  clear ih hta hs1;generalize l.getD k zt=x at *;generalize la x (n-st.length-bj (l.take k))=y at *;generalize bU x=m at *;generalize bj (l.take k)=cnt at *;generalize (ff l (n-st.length)).take k=ks at *;obtain⟨a0,a1,a2,a3,a4⟩:=x;obtain⟨y0,y1,y2,y3,y4⟩:=y;simp only[aA,Tree.kind,Tree.steps,Tree.cell,Tree.pos,Tree.kids]at hih e;unfold ah aa at hih e;clear hlt;have hlt:=hlk;cases ks with
  |nil =>
   simp only[vI,AB,List.append_nil,List.nil_append,rk,pA,List.length_nil];simp only[List.length_nil]at hkl;subst hkl;try rw[hor rfl]
   repeat' (first|((with_reducible show aG _);first|exact True.intro|(simp only[vb,lb,e,f2,hlt,hih];and_intros<;>first|omega|(simp<;>omega)))|((with_reducible show aM _);first|exact True.intro|((try dsimp only[go_sem]);(simp only[vb,and_true,true_implies];(repeat' (first|(with_reducible assumption)|(with_reducible apply And.intro)|intro _|((fail_if_success (with_reducible show(_:Int)≤_));assumption)))<;>(simp only[ab,e,f2,hlt,hih];done))))|exact(rfl:some _=_)|((fail_if_success refine aT ?_);refine bX [(33,fun _=>some (.tup [.agg [.int .i64 y0,.sl y1.length (y1.flatMap aw),.int .i64 y2,.int .i64 y3,.sl y4.length (y4.flatMap cy)],.int .i64 (n-st.length-cnt-m)]))] [ξ 55 (.agg [.int .i64 a0,.sl a1.length (a1.flatMap aw),.int .i64 a2,.int .i64 a3,.sl a4.length (a4.flatMap cy)])] ?_;(repeat1' dsimp only[DW,ae,aE,Tree.kind,Tree.steps,Tree.cell,Tree.pos,Tree.kids,aa,ah,go_sem]);first|refine aU ?_ ?_ rfl ?_|apply aV|apply aW|(refine aX (fun hc=>?_) fun hc=>?_<;>first|(cases hc;done)|(exfalso;(simp[e,f2,hlt,hih]at hc;done))|(try simp only[bn]at hc;try contradiction))|skip))
   exact⟨hlt,trivial,by (repeat' (first|exact trivial|refine And.intro (by first|rfl|(simp[get,Nat.beq]<;>omega)|(dsimp only[get];congr 1<;>first|rfl|omega|(simp<;>omega))) ?_)),[],by simp[fC,ae,Tree.kind,Tree.steps,Tree.cell,Tree.pos,Tree.kids,aa,ah]⟩
  |cons t0 l0 =>
   simp only[List.length_cons]at hkl;clear hor;simp only[rk,pA,List.append_nil,List.cons_append,List.nil_append];repeat' (first|((with_reducible show aG _);first|exact True.intro|(simp only[vb,lb,e,f2,hlt,hih,c7,vz,hkl];and_intros<;>first|omega|(simp<;>omega))|(simp[vb,e,f2,hlt,hih,c7,vz,hkl]<;>omega))|((with_reducible show aM _);first|exact True.intro|((try dsimp only[go_sem]);(simp[vb,e,f2,hlt,hih,c7,vz,hkl]<;>omega)))|exact(rfl:some _=_)|((fail_if_success refine aT ?_);refine bX [(33,fun _=>some (.tup [.agg [.int .i64 y0,.sl y1.length (y1.flatMap aw),.int .i64 y2,.int .i64 y3,.sl y4.length (y4.flatMap cy)],.int .i64 (n-st.length-cnt-m)]))] [ξ 55 (.agg [.int .i64 a0,.sl a1.length (a1.flatMap aw),.int .i64 a2,.int .i64 a3,.sl a4.length (a4.flatMap cy)])] ?_;(repeat1' dsimp only[DW,ae,aE,Tree.kind,Tree.steps,Tree.cell,Tree.pos,Tree.kids,aa,ah,go_sem]);first|refine aU ?_ ?_ rfl ?_|apply aV|apply aW|(refine aX (fun hc=>?_) fun hc=>?_<;>first|(cases hc;done)|(exfalso;(simp at hc<;>omega))|(try simp only[bn]at hc;try contradiction))|skip))
   exact⟨hlt,trivial,by (repeat' (first|exact trivial|refine And.intro (by first|rfl|(simp[get,Nat.beq]<;>omega)|(dsimp only[get];congr 1<;>first|rfl|omega|(simp<;>omega))) ?_)),_,by simp[fC,ae,Tree.kind,Tree.steps,Tree.cell,Tree.pos,Tree.kids,aa,ah];rfl⟩
 obtain rfl:k=l.length:=by omega
 rw[List.take_of_length_le (show(ff l (n-st.length)).length≤l.length by rw[fM];exact Nat.le_refl _),List.take_of_length_le (Nat.le_refl l.length)];generalize ff l (n-st.length)=ks at *;refine FE (.node kd st c a l) kd c a S ks rfl (fun _=>rfl) rfl ?_;repeat' (first|((with_reducible show aG _);(simp only[vb,lb,f2,hlk];and_intros<;>first|omega|(simp<;>omega)))|((with_reducible show aM _);exact True.intro)|exact(rfl:some _=_)|((fail_if_success refine aT ?_);refine aZ ?_;(repeat1' dsimp only[DW,ae,aE,aA,Tree.kind,Tree.steps,Tree.cell,Tree.pos,Tree.kids,aa,ah,go_sem]);first|refine aU ?_ ?_ rfl ?_|apply aV|apply aW|(refine aX (fun hc=>?_) fun hc=>?_<;>first|(cases hc;done)|(exfalso;(simp at hc<;>omega))|(try simp only[bn]at hc;try contradiction))|skip))
 rw[show n-(st.length:Int)-(bj l:Int)=n-((st.length+bj l:Nat):Int) by omega]
end
section
open Rf
def Jp:ay:=(⟨_,by conv=>(lhs;reduce;try simp only[cJ,Int.cast_ofNat_Int,Int.reduceNegSucc,UInt8.reduceOfNat])⟩:{x // codeOf Tryz.prog 90 (fun _=>false)=some x}).1
theorem Jq:bp Tryz.prog 90 (fun _=>false)=some (Jp,[.t 6],15,true):=by kernel_rfl
def c91:ay:=(⟨_,by conv=>(lhs;reduce;try simp only[cJ,Int.cast_ofNat_Int,Int.reduceNegSucc,UInt8.reduceOfNat])⟩:{x // codeOf Tryz.prog 91 (fun _=>false)=some x}).1
theorem Jr:bp Tryz.prog 91 (fun _=>false)=some (c91,[.t 4],46,true):=by kernel_rfl
def FF:ay:=(⟨_,by conv=>(lhs;reduce;try simp only[cJ,Int.cast_ofNat_Int,Int.reduceNegSucc,UInt8.reduceOfNat])⟩:{x // codeOf Tryz.prog 60 (fun _=>false)=some x}).1
theorem Ih:bp Tryz.prog 60 (fun _=>false)=some (FF,[.t 4],46,true):=by kernel_rfl
def Ii:ay:=(⟨_,by conv=>(lhs;reduce;try simp only[cJ,Int.cast_ofNat_Int,Int.reduceNegSucc,UInt8.reduceOfNat])⟩:{x // codeOf Tryz.prog 61 (fun _=>false)=some x}).1
theorem Js:bp Tryz.prog 61 (fun _=>false)=some (Ii,[.t 2],21,true):=by kernel_rfl
theorem rl (n lo hi:Int):aj ctx 90 [.int .i64 n,.int .i64 lo,.int .i64 hi] (.bool (aL n lo hi)):=by
 refine af (C:=ctx) (Fn.of Jq rfl) rfl ?_;unfold Jp;repeat' (first|((with_reducible first|show aG _|show aM _);simp[vb]<;>omega)|exact(rfl:some _=_)|((fail_if_success refine aT ?_);refine aZ ?_;(repeat1' dsimp only[Jp,go_sem]);first|refine aU ?_ ?_ rfl ?_|apply aV|apply aW|(refine aX (fun hc=>?_) fun hc=>?_<;>first|(cases hc;done)|(exfalso;simp at hc<;>omega)|(try simp only[bn]at hc;try contradiction))|skip))
 rw[ie];rfl
theorem B1 (n : Int) (r : Rw) (hr : r.terms.length ≤ 1000000000) : aj ctx 91 [.agg [av r.terms, .int .i64 r.bound], .int .i64 n] (.bool (gA n r)) := by
  obtain ⟨ts, bd⟩ := r
  unfold gA
  simp only at hr ⊢
  generalize hq : dF n (-1) ts = q
  have f1 := gX ts
  refine af (C := ctx) (Fn.of Jr rfl) rfl ?_
  unfold c91
  repeat' (first
    | ((with_reducible first | show aG _ | show aM _); simp [vb] <;> omega)
    | exact (rfl : some _ = _)
    | (
      fail_if_success refine aT ?_
      refine aZ ?_
      repeat1' dsimp only [c91, av, go_sem]
      first
      | refine aU ?_ ?_ rfl ?_
      | apply aV
      | apply aW
      | (refine aX (fun hc => ?_) fun hc => ?_ <;> first | (cases hc; done) | (exfalso; simp at hc <;> omega) | (try simp only [bn] at hc; try contradiction))
      | skip))
  refine cC (σ := Nat × Int) (fun s => s.1 ≤ ts.length ∧ dF n s.2 (ts.drop s.1) = q) (fun s => [(1, .pv (.int .i64 n)), (2, .ptr 0 0 0), (5, .pv (.int .i64 s.2)), (6, .pv (.int .i64 s.1))]) (fun _ => [⟨[.pv (av ts), .pv (.int .i64 bd)], 0, 2, 62, false⟩]) (fun s => ts.length - s.1) (0, -1) ⟨Nat.zero_le _, hq⟩ (by (repeat' (first | exact trivial | refine And.intro (by first | rfl | (simp [get, Nat.beq]; done) | (simp [get, Nat.beq]; omega) | (dsimp only [get]; congr 1 <;> first | rfl | omega | (simp; done) | (simp; omega))) ?_))) ⟨[], rfl⟩ (fun _ _ => ⟨Nat.zero_le _, rfl, rfl⟩) fun s hP => ?_
  obtain ⟨k, last⟩ := s
  obtain ⟨p1, p2⟩ := hP
  simp only at p1 p2
  by_cases hlt : k < ts.length
  · have e := bM me ts k zm hlt
    rw [da ts k zm hlt, dF] at p2
    generalize ts.getD k zm = x at *
    have hin := rl x.fac (-1000) 1000
    generalize hq2 : dF n x.cell (ts.drop (k + 1)) = q2 at *
    generalize aL x.fac (-1000) 1000 = qi at *
    repeat' (first
      | ((with_reducible show aG _); first | exact True.intro | (simp only [vb, lb, e, f1, hlt, j5, hin]; and_intros <;> first | omega | (simp <;> omega)))
      | ((with_reducible show aM _); first | exact True.intro | ((try dsimp only [go_sem]); (simp [vb, e, f1, hlt, j5, hin] <;> omega)))
      | exact (rfl : some _ = _)
      | (
        fail_if_success refine aT ?_
        refine bX [(90, fun _ => some (.bool qi))] [ξ 19 (.agg [.int .i64 x.cell, .int .i64 x.fac])] ?_
        repeat1' dsimp only [c91, av, go_sem]
        first
        | refine aU ?_ ?_ rfl ?_
        | apply aV
        | apply aW
        | (refine aX (fun hc => ?_) fun hc => ?_ <;> first | (cases hc; done) | (exfalso; (simp at hc <;> omega)) | (try simp only [bn] at hc; try contradiction))
        | skip))
    all_goals first
      | (rw [← p2, show (decide (last < x.cell) && decide (x.cell < n) && decide (x.fac ≠ 0) && qi) = false from by
          rw [Bool.eq_false_iff]
          simp only [ne_eq, Bool.and_eq_true, decide_eq_true_eq]
          rintro ⟨⟨⟨a1, a2⟩, a3⟩, a4⟩
          subst a4
          simp at hc
          omega]; rfl)
      | (
        refine ⟨(k + 1, x.cell), by show ts.length - (k + 1) < ts.length - k; omega, ⟨by show k + 1 ≤ _; omega, ?_⟩, by (repeat' (first | exact trivial | refine And.intro (by first | rfl | (simp [get, Nat.beq]; done) | (simp [get, Nat.beq]; omega) | (dsimp only [get]; congr 1 <;> first | rfl | omega | (simp; done) | (simp; omega))) ?_)), _, rfl⟩
        show dF n x.cell (ts.drop (k + 1)) = q
        obtain ⟨⟨⟨a1, a2⟩, a3⟩, a4⟩ := hc
        rw [hq2, ← p2, show (decide (last < x.cell) && decide (x.cell < n) && decide (x.fac ≠ 0) && qi) = true from by
         simp only [ne_eq, Bool.and_eq_true, decide_eq_true_eq]
         exact ⟨⟨⟨by omega, by omega⟩, a3⟩, a4⟩, Bool.true_and])
  · obtain rfl : k = ts.length := by omega
    rw [List.drop_length, dF] at p2
    subst p2
    have hin := rl bd (-1000000000) 1000000000
    generalize aL bd (-1000000000) 1000000000 = qi at *
    repeat' (first
      | ((with_reducible show aG _); first | exact True.intro | (simp only [vb, lb, hlt, hin]; and_intros <;> first | omega | (simp <;> omega)))
      | ((with_reducible show aM _); first | exact True.intro | ((try dsimp only [go_sem]); (simp [vb, hlt, hin] <;> omega)))
      | exact (rfl : some _ = _)
      | (
        fail_if_success refine aT ?_
        refine fu [(90, fun _ => some (.bool qi))] ?_
        repeat1' dsimp only [c91, av, go_sem]
        first
        | refine aU ?_ ?_ rfl ?_
        | apply aV
        | apply aW
        | (refine aX (fun hc => ?_) fun hc => ?_ <;> first | (cases hc; done) | (exfalso; (simp at hc <;> omega)) | (try simp only [bn] at hc; try contradiction))
        | skip))
theorem jo (b:List Rg) (l:List Rw) (hb:b.length≤1000000000) (hl:l.length≤1000000000) (ht:∀r∈l,r.terms.length≤1000000000):aj ctx 60 [ai b,ax l] (.bool (eA b l)):=by
 have f1:=bN b;have f2:=fL l;unfold eA cz;by_cases h0:b.length≤128
 ·rw[decide_eq_true h0,Bool.and_true];refine af (C:=ctx) (Fn.of Ih rfl) rfl ?_;unfold FF;repeat' (first|((with_reducible first|show aG _|show aM _);simp[vb,h0]<;>omega)|exact(rfl:some _=_)|((fail_if_success refine aT ?_);refine aZ ?_;(repeat1' dsimp only[FF,ai,ax,go_sem]);first|refine aU ?_ ?_ rfl ?_|apply aV|apply aW|(refine aX (fun hc=>?_) fun hc=>?_<;>first|(cases hc;done)|(exfalso;simp[h0]at hc<;>omega)|(try simp only[bn]at hc;try contradiction))|skip))
  refine bg b.length (fun k=>(b.take k).all mc=true) (fun k=>[(0,.pv (ai b)),(1,.pv (ax l)),(5,.pv (.int .i64 k))]) (fun _=>[]) rfl (by (repeat' (first|exact trivial|refine And.intro (by first|rfl|(simp[get,Nat.beq]<;>omega)|(dsimp only[get];congr 1<;>first|rfl|omega|(simp<;>omega))) ?_))) ⟨[],rfl⟩ (fun _=>⟨Nat.zero_le _,rfl,rfl⟩) fun k hk hP=>?_
  by_cases hlt:k<b.length
  ·have e1:=sZ b k hlt;have e2:(b.flatMap fW)[k*2+1]?.getD default= .int .i64 (b.getD k zr).hi:=by rw[cX iq b k zr 1 hlt (by omega)];rfl
   have i1:=dh mc b k zr hlt;have i2:=kq mc b k zr hlt;rw[i1,hP,Bool.true_and];clear i1;unfold mc at i2 ⊢;generalize b.getD k zr=x at *;have h1:=rl x.lo (-1000000) 1000000;have h2:=rl x.hi (-1000000) 1000000;generalize aL x.lo (-1000000) 1000000=q1 at *;generalize aL x.hi (-1000000) 1000000=q2 at *;repeat' (first|((with_reducible show aG _);first|exact True.intro|(simp only[vb,lb,e1,e2,f1,hlt,h1,h2];and_intros<;>first|omega|(simp<;>omega)))|((with_reducible show aM _);first|exact True.intro|((try dsimp only[go_sem]);(simp only[vb,and_true,true_implies];(repeat' (first|(with_reducible assumption)|(with_reducible apply And.intro)|intro _|((fail_if_success (with_reducible show(_:Int)≤_));assumption)))<;>first|omega|(simp only[ab,e1,e2,f1,hlt,h1,h2];done)|(simp_all;done))))|exact(rfl:some _=_)|((fail_if_success refine aT ?_);refine br [ξ 20 (.int .i64 x.lo),ξ 21 (.bool q1),ξ 28 (.int .i64 x.hi),ξ 29 (.bool q2)] ?_;(repeat1' dsimp only[FF,ai,ax,go_sem]);first|refine aU ?_ ?_ rfl ?_|apply aV|apply aW|(refine aX (fun hc=>?_) fun hc=>?_<;>first|(cases hc;done)|(exfalso;(simp at hc<;>omega))|(try simp only[bn]at hc;try contradiction))|skip))
   ·rw[i2 (by rcases hc with h|h<;>rw[h]<;>simp)];rfl
   ·exact⟨hlt,by rw[hc.1,hc.2];rfl,by (repeat' (first|exact trivial|refine And.intro (by first|rfl|(simp[get,Nat.beq]<;>omega)|(dsimp only[get];congr 1<;>first|rfl|omega|(simp<;>omega))) ?_)),_,rfl⟩
  ·obtain rfl:k=b.length:=by omega
   rw[List.take_length]at hP;rw[hP,Bool.true_and];repeat' (first|((with_reducible show aG _);exact True.intro)|((with_reducible show aM _);exact True.intro)|exact(rfl:some _=_)|((fail_if_success refine aT ?_);refine aZ ?_;(repeat1' dsimp only[FF,ai,ax,go_sem]);first|refine aU ?_ ?_ rfl ?_|apply aV|apply aW|(refine aX (fun hc=>?_) fun hc=>?_<;>first|(cases hc;done)|(exfalso;(simp at hc<;>omega))|(try simp only[bn]at hc;try contradiction))|skip))
   refine bg l.length (fun k=>(l.take k).all (gA b.length)=true) (fun k=>[(0,.pv (ai b)),(1,.pv (ax l)),(6,.pv (.int .i64 k))]) (fun _=>[]) rfl (by (repeat' (first|exact trivial|refine And.intro (by first|rfl|(simp[get,Nat.beq]<;>omega)|(dsimp only[get];congr 1<;>first|rfl|omega|(simp<;>omega))) ?_))) ⟨[],rfl⟩ (fun _=>⟨Nat.zero_le _,rfl,rfl⟩) fun k hk hP=>?_
   by_cases hlt:k<l.length
   ·have e:=bM kQ l k zw hlt;have i1:=dh (gA b.length) l k zw hlt;have i2:=kq (gA b.length) l k zw hlt;have hx:=B1 b.length (l.getD k zw) (ht _ (aO hlt));rw[i1,hP,Bool.true_and];clear i1;generalize l.getD k zw=x at *;generalize gA b.length x=qx at *;unfold av at hx;repeat' (first|((with_reducible show aG _);first|exact True.intro|(simp only[vb,lb,e,f2,hlt,hx,dI,av];and_intros<;>first|omega|(simp<;>omega)))|((with_reducible show aM _);first|exact True.intro|((try dsimp only[go_sem]);(simp[vb,e,f2,hlt,hx,dI,av]<;>omega)))|exact(rfl:some _=_)|((fail_if_success refine aT ?_);refine bX [(91,fun _=>some (.bool qx))] [ξ 41 (.agg [.sl x.terms.length (x.terms.flatMap j5),.int .i64 x.bound])] ?_;(repeat1' dsimp only[FF,ai,ax,go_sem]);first|refine aU ?_ ?_ rfl ?_|apply aV|apply aW|(refine aX (fun hc=>?_) fun hc=>?_<;>first|(cases hc;done)|(exfalso;(simp at hc<;>omega))|(try simp only[bn]at hc;try contradiction))|skip))
    ·rw[i2 hc]
    ·exact⟨hlt,hc,by (repeat' (first|exact trivial|refine And.intro (by first|rfl|(simp[get,Nat.beq]<;>omega)|(dsimp only[get];congr 1<;>first|rfl|omega|(simp<;>omega))) ?_)),_,rfl⟩
   ·obtain rfl:k=l.length:=by omega
    rw[List.take_length]at hP;repeat' (first|((with_reducible show aG _);exact True.intro)|((with_reducible show aM _);exact True.intro)|exact(rfl:some _=_)|((fail_if_success refine aT ?_);refine aZ ?_;(repeat1' dsimp only[FF,ai,ax,go_sem]);first|refine aU ?_ ?_ rfl ?_|apply aV|apply aW|(refine aX (fun hc=>?_) fun hc=>?_<;>first|(cases hc;done)|(exfalso;(simp at hc<;>omega))|(try simp only[bn]at hc;try contradiction))|skip))
    rw[hP]
 ·rw[decide_eq_false h0];refine af (C:=ctx) (Fn.of Ih rfl) rfl ?_;unfold FF;repeat' (first|((with_reducible first|show aG _|show aM _);simp[vb,h0]<;>omega)|exact(rfl:some _=_)|((fail_if_success refine aT ?_);refine aZ ?_;(repeat1' dsimp only[FF,ai,ax,go_sem]);first|refine aU ?_ ?_ rfl ?_|apply aV|apply aW|(refine aX (fun hc=>?_) fun hc=>?_<;>first|(cases hc;done)|(exfalso;simp[h0]at hc<;>omega)|(try simp only[bn]at hc;try contradiction))|skip))
  simp
theorem nG (b:List Rg) (hb:b.length≤1000000000):aj ctx 61 [ai b] (.bool (dt b)):=by
 have f1:=bN b;unfold dt;refine af (C:=ctx) (Fn.of Js rfl) rfl ?_;unfold Ii;repeat' (first|((with_reducible first|show aG _|show aM _);simp[vb]<;>omega)|exact(rfl:some _=_)|((fail_if_success refine aT ?_);refine aZ ?_;(repeat1' dsimp only[Ii,ai,go_sem]);first|refine aU ?_ ?_ rfl ?_|apply aV|apply aW|(refine aX (fun hc=>?_) fun hc=>?_<;>first|(cases hc;done)|(exfalso;simp at hc<;>omega)|(try simp only[bn]at hc;try contradiction))|skip))
 refine bg b.length (fun k=>(b.take k).any dX=false) (fun k=>[(0,.pv (ai b)),(3,.pv (.int .i64 k))]) (fun _=>[]) rfl (by (repeat' (first|exact trivial|refine And.intro (by first|rfl|(simp[get,Nat.beq]<;>omega)|(dsimp only[get];congr 1<;>first|rfl|omega|(simp<;>omega))) ?_))) ⟨[],rfl⟩ (fun _=>⟨Nat.zero_le _,rfl,rfl⟩) fun k hk hP=>?_
 by_cases hlt:k<b.length
 ·have e1:=sZ b k hlt;have e2:(b.flatMap fW)[k*2+1]?.getD default= .int .i64 (b.getD k zr).hi:=by rw[cX iq b k zr 1 hlt (by omega)];rfl
  have hm:=aO (d:=zr) hlt;have i1:=aJ b k zr hlt;generalize b.getD k zr=x at *;repeat' (first|((with_reducible show aG _);first|exact True.intro|(simp only[vb,lb,e1,e2,f1,hlt];and_intros<;>first|omega|(simp<;>omega)))|((with_reducible show aM _);first|exact True.intro|((try dsimp only[go_sem]);(simp only[vb,and_true,true_implies];(repeat' (first|(with_reducible assumption)|(with_reducible apply And.intro)|intro _|((fail_if_success (with_reducible show(_:Int)≤_));assumption)))<;>(simp only[ab,e1,e2,f1,hlt];done))))|exact(rfl:some _=_)|((fail_if_success refine aT ?_);refine br [ξ 14 (.int .i64 x.lo),ξ 19 (.int .i64 x.hi)] ?_;(repeat1' dsimp only[Ii,ai,go_sem]);first|refine aU ?_ ?_ rfl ?_|apply aV|apply aW|(refine aX (fun hc=>?_) fun hc=>?_<;>first|(cases hc;done)|(exfalso;(simp at hc<;>omega))|(try simp only[bn]at hc;try contradiction))|skip))
  ·rw[List.any_eq_true.mpr ⟨x,hm,by simpa [dX]using hc⟩]
  ·exact⟨hlt,by rw[i1,List.any_append,hP];simpa [dX]using hc,by (repeat' (first|exact trivial|refine And.intro (by first|rfl|(simp[get,Nat.beq]<;>omega)|(dsimp only[get];congr 1<;>first|rfl|omega|(simp<;>omega))) ?_)),_,rfl⟩
 ·obtain rfl:k=b.length:=by omega
  rw[List.take_length]at hP;repeat' (first|((with_reducible show aG _);exact True.intro)|((with_reducible show aM _);exact True.intro)|exact(rfl:some _=_)|((fail_if_success refine aT ?_);refine aZ ?_;(repeat1' dsimp only[Ii,ai,go_sem]);first|refine aU ?_ ?_ rfl ?_|apply aV|apply aW|(refine aX (fun hc=>?_) fun hc=>?_<;>first|(cases hc;done)|(exfalso;(simp at hc<;>omega))|(try simp only[bn]at hc;try contradiction))|skip))
  rw[hP]
end
section
open Rf
def Cb:ay:=(⟨_,by conv=>(lhs;reduce;try simp only[cJ,Int.cast_ofNat_Int,Int.reduceNegSucc,UInt8.reduceOfNat])⟩:{x // codeOf Tryz.prog 30 (fun _=>false)=some x}).1
theorem Jt:bp Tryz.prog 30 (fun _=>false)=some (Cb,[.t 2],132,true):=by kernel_rfl
def c70:ay:=(⟨_,by conv=>(lhs;reduce;try simp only[cJ,Int.cast_ofNat_Int,Int.reduceNegSucc,UInt8.reduceOfNat])⟩:{x // codeOf Tryz.prog 70 (fun _=>false)=some x}).1
theorem Hm:bp Tryz.prog 70 (fun _=>false)=some (c70,[.t 2],34,true):=by kernel_rfl
theorem kD (s:Sy) (hs:Ca s):aj ctx 30 [.agg [ai s.box,ax s.rows,aI s.graphs,aC s.cases]] (.bool (im s)):=by
 have h1:=jo s.box s.rows hs.b hs.r hs.rt;have h2:=nG s.box hs.b;have hcv:=fun l hl=>jo s.box l hs.b (hs.cl l hl) (hs.ct l hl)
 have hgl:=hs.gl;have f1:=ra s.graphs;have f2:=mf s.cases;have hsg:=hs.g;have hsc:=hs.c;have hsb:=hs.b;have hsr:=hs.r;have e2:im s=(decide (s.rows.length≤1024)&&decide (s.graphs.length≤64)&&decide (s.cases.length≤1024)&&eA s.box s.rows&& !dt s.box&&s.cases.all (fD s.box)&&s.graphs.all (bH s.box.length)):=by
  rw[im];cases eA s.box s.rows<;>cases dt s.box<;>cases decide (s.rows.length≤1024)<;>cases decide (s.graphs.length≤64)<;>cases decide (s.cases.length≤1024)<;>cases s.cases.all (fD s.box)<;>cases s.graphs.all (bH s.box.length)<;>rfl
 rw[e2];clear e2;obtain⟨b,rs,gs,cs⟩:=s;simp only at *;clear hs;generalize dt b=q2 at *;generalize eA b rs=q1 at *;unfold ai at h1 h2 hcv;unfold ax at h1 hcv;refine af (C:=ctx) (Fn.of Jt rfl) rfl ?_;unfold Cb;repeat' (first|((with_reducible show aG _);first|exact True.intro|(simp only[vb,lb,h1,h2];and_intros<;>first|omega|(simp<;>omega)))|((with_reducible show aM _);first|exact True.intro|((try dsimp only[go_sem]);(simp[vb,h1,h2]<;>omega)))|exact(rfl:some _=_)|((fail_if_success refine aT ?_);refine fu [(60,fun _=>some (.bool q1)),(61,fun _=>some (.bool q2))] ?_;(repeat1' dsimp only[Cb,ai,ax,aI,aC,go_sem]);first|refine aU ?_ ?_ rfl ?_|apply aV|apply aW|(refine aX (fun hc=>?_) fun hc=>?_<;>first|(cases hc;done)|(try simp only[bn]at hc;try contradiction))|skip))
 ·have hr:(decide (rs.length≤1024)&&decide (gs.length≤64)&&decide (cs.length≤1024)&&q1&& !q2)=false:=by
   rw[Bool.eq_false_iff];simp only[ne_eq,Bool.and_eq_true,decide_eq_true_eq,Bool.not_eq_true'];rintro⟨⟨⟨⟨a,b⟩,c⟩,d⟩,e⟩;subst d e;simp at hc;omega
  rw[hr];rfl
 ·have hr:(decide (rs.length≤1024)&&decide (gs.length≤64)&&decide (cs.length≤1024)&&q1&& !q2)=true:=by
   simp only[Bool.and_eq_true,decide_eq_true_eq,Bool.not_eq_true'];obtain⟨⟨⟨⟨a,b⟩,c⟩,d⟩,e⟩:=hc;exact⟨⟨⟨⟨by omega,by omega⟩,by omega⟩,d⟩,e⟩
  rw[hr,Bool.true_and];clear h1 h2 hc hr;refine bg cs.length (fun k=>(cs.take k).all (fD b)=true) (fun k=>[(1,.ptr 0 0 0),(3,.pv (.int .i64 k))]) (fun _=>[⟨[.pv (ai b),.pv (ax rs),.pv (aI gs),.pv (aC cs)],0,4,36,false⟩]) rfl (by (repeat' (first|exact trivial|refine And.intro (by first|rfl|(simp[get,Nat.beq]<;>omega)|(dsimp only[get];congr 1<;>first|rfl|omega|(simp<;>omega))) ?_))) ⟨_,rfl⟩ (fun _=>⟨Nat.zero_le _,rfl,rfl⟩) fun k hk hP=>?_
  by_cases hlt:k<cs.length
  ·have e:=mq cs k hlt;have i1:=dh (fD b) cs k [] hlt;have i2:=kq (fD b) cs k [] hlt;have hx:=hcv _ (aO (d:=([]:List Rw)) hlt);rw[i1,hP,Bool.true_and];clear i1 hcv;unfold fD at i2 ⊢;generalize cs.getD k []=x at *;generalize eA b x=qx at *;by_cases hl:x.length≤64
   ·have hl':¬64<(x.length:Int):=by omega
    rw[decide_eq_true hl,Bool.true_and]at i2 ⊢;repeat' (first|((with_reducible show aG _);first|exact True.intro|(simp only[vb,lb,e,f2,hlt,hl',hx];and_intros<;>first|omega|(simp<;>omega)))|((with_reducible show aM _);first|exact True.intro|((try dsimp only[go_sem]);(simp[vb,e,f2,hlt,hl',hx]<;>omega)))|exact(rfl:some _=_)|((fail_if_success refine aT ?_);refine bX [(60,fun _=>some (.bool qx))] [ξ 47 (.sl x.length (x.flatMap dI)),ξ 49 (.bool false),ξ 57 (.sl x.length (x.flatMap dI))] ?_;(repeat1' dsimp only[Cb,ai,ax,aI,aC,go_sem]);first|refine aU ?_ ?_ rfl ?_|apply aV|apply aW|(refine aX (fun hc=>?_) fun hc=>?_<;>first|(cases hc;done)|(exfalso;(simp at hc<;>omega))|(try simp only[bn]at hc;try contradiction))|skip))
    ·rw[i2 hc];rfl
    ·exact⟨hlt,hc,by (repeat' (first|exact trivial|refine And.intro (by first|rfl|(simp[get,Nat.beq]<;>omega)|(dsimp only[get];congr 1<;>first|rfl|omega|(simp<;>omega))) ?_)),_,rfl⟩
   ·have hl':64<(x.length:Int):=by omega
    rw[decide_eq_false hl,Bool.false_and]at i2 ⊢;repeat' (first|((with_reducible show aG _);first|exact True.intro|(simp only[vb,lb,e,f2,hlt,hl',hx];and_intros<;>first|omega|(simp<;>omega)))|((with_reducible show aM _);first|exact True.intro|((try dsimp only[go_sem]);(simp[vb,e,f2,hlt,hl',hx]<;>omega)))|exact(rfl:some _=_)|((fail_if_success refine aT ?_);refine bX [(60,fun _=>some (.bool qx))] [ξ 47 (.sl x.length (x.flatMap dI)),ξ 49 (.bool true),ξ 57 (.sl x.length (x.flatMap dI))] ?_;(repeat1' dsimp only[Cb,ai,ax,aI,aC,go_sem]);first|refine aU ?_ ?_ rfl ?_|apply aV|apply aW|(refine aX (fun hc=>?_) fun hc=>?_<;>first|(cases hc;done)|(exfalso;(simp at hc<;>omega))|(try simp only[bn]at hc;try contradiction))|skip))
    rw[i2 rfl];rfl
  ·obtain rfl:k=cs.length:=by omega
   rw[List.take_length]at hP;rw[hP,Bool.true_and];clear hcv hP;repeat' (first|((with_reducible show aG _);first|exact True.intro|(simp only[vb,lb,hlt];and_intros<;>first|omega|(simp<;>omega)))|((with_reducible show aM _);exact True.intro)|exact(rfl:some _=_)|((fail_if_success refine aT ?_);refine aZ ?_;(repeat1' dsimp only[Cb,ai,ax,aI,aC,go_sem]);first|refine aU ?_ ?_ rfl ?_|apply aV|apply aW|(refine aX (fun hc=>?_) fun hc=>?_<;>first|(cases hc;done)|(exfalso;(simp at hc<;>omega))|(try simp only[bn]at hc;try contradiction))|skip))
   refine bg gs.length (fun k=>(gs.take k).all (bH b.length)=true) (fun k=>[(1,.ptr 0 0 0),(4,.pv (.int .i64 k))]) (fun _=>[⟨[.pv (ai b),.pv (ax rs),.pv (aI gs),.pv (aC cs)],0,4,36,false⟩]) rfl (by (repeat' (first|exact trivial|refine And.intro (by first|rfl|(simp[get,Nat.beq]<;>omega)|(dsimp only[get];congr 1<;>first|rfl|omega|(simp<;>omega))) ?_))) ⟨_,rfl⟩ (fun _=>⟨Nat.zero_le _,rfl,rfl⟩) fun k hk hP=>?_
   by_cases hlt:k<gs.length
   ·have e:=bM ph gs k zg hlt;have i1:=dh (bH b.length) gs k zg hlt;have i2:=kq (bH b.length) gs k zg hlt;have hle:=hgl _ (aO (d:=zg) hlt);rw[i1,hP,Bool.true_and];clear i1 hgl;generalize gs.getD k zg=x at *;obtain⟨fi,sz,le⟩:=x;unfold bH at i2 ⊢;simp only at i2 hle ⊢;have f3:=dj le;have e':List.take 3 (List.drop (k*3) (gs.flatMap dx))=[.int .i64 fi,.int .i64 sz,.sl le.length (le.flatMap bO)]:=e;by_cases h:1≤sz∧sz≤6
    ·obtain⟨q1,q2⟩:=n3 h.1 h.2;rw[show aL sz 1 6=true by simp[aL,h],Bool.true_and]at i2 ⊢;by_cases h2:0≤fi∧fi≤b.length-sz*sz∧(le.length:Int)=sz*sz
     ·rw[decide_eq_true h2.1,decide_eq_true h2.2.1,decide_eq_true h2.2.2,Bool.true_and,Bool.true_and,Bool.true_and]at i2 ⊢;repeat' (first|((with_reducible show aG _);first|exact True.intro|(simp only[vb,lb,e',f1,hlt,h,h2,q1,q2];and_intros<;>first|omega|(simp<;>omega)))|((with_reducible show aM _);first|exact True.intro|((try dsimp only[go_sem]);(simp[vb,e',f1,hlt,h,h2,q1,q2]<;>omega)))|exact(rfl:some _=_)|((fail_if_success refine aT ?_);refine br [ξ 72 (.agg [.int .i64 fi,.int .i64 sz,.sl le.length (le.flatMap bO)])] ?_;(repeat1' dsimp only[Cb,ai,ax,aI,aC,go_sem]);first|refine aU ?_ ?_ rfl ?_|apply aV|apply aW|(refine aX (fun hc=>?_) fun hc=>?_<;>first|(cases hc;done)|(exfalso;(simp at hc<;>omega))|(try simp only[bn]at hc;try contradiction))|skip))
      refine bg le.length (fun j=>(le.take j).all eO=true) (fun j=>[(1,.ptr 0 0 0),(4,.pv (.int .i64 k)),(5,.ptr 1 0 0),(6,.pv (.int .i64 j))]) (fun _=>[⟨[.pv (ai b),.pv (ax rs),.pv (aI gs),.pv (aC cs)],0,4,36,false⟩,⟨[.pv (.int .i64 fi),.pv (.int .i64 sz),.pv (an le)],0,3,99,false⟩]) rfl (by (repeat' (first|exact trivial|refine And.intro (by first|rfl|(simp[get,Nat.beq]<;>omega)|(dsimp only[get];congr 1<;>first|rfl|omega|(simp<;>omega))) ?_))) ⟨_,rfl⟩ (fun _=>⟨Nat.zero_le _,rfl,rfl⟩) fun j hj hP2=>?_
      by_cases hlj:j<le.length
      ·have e3:=iv (g:=bO) (fun _=>rfl) le j 0 default hlj;have i3:=dh eO le j 0 hlj;have i4:=kq eO le j 0 hlj;rw[i3,hP2,Bool.true_and];clear i3;generalize le.getD j 0=y at *;repeat' (first|((with_reducible show aG _);first|exact True.intro|(simp only[vb,lb,e3,f3,hlj];and_intros<;>first|omega|(simp<;>omega)))|((with_reducible show aM _);first|exact True.intro|((try dsimp only[go_sem]);(simp only[vb,and_true,true_implies];(repeat' (first|(with_reducible assumption)|(with_reducible apply And.intro)|intro _|((fail_if_success (with_reducible show(_:Int)≤_));assumption)))<;>first|omega|(simp only[ab,e3,f3,hlj];done)|(simp_all;done))))|exact(rfl:some _=_)|((fail_if_success refine aT ?_);refine br [ξ 122 (.int .i64 y),ξ 129 (.int .i64 y)] ?_;(repeat1' dsimp only[Cb,ai,ax,aI,aC,an,go_sem]);first|refine aU ?_ ?_ rfl ?_|apply aV|apply aW|(refine aX (fun hc=>?_) fun hc=>?_<;>first|(cases hc;done)|(exfalso;(simp at hc<;>omega))|(try simp only[bn]at hc;try contradiction))|skip))
       ·rw[i2 (i4 (by
         rw[Bool.eq_false_iff];simp only[eO,aL,ne_eq,Bool.and_eq_true,decide_eq_true_eq];omega))]
       ·exact⟨hlj,by simp only[eO,aL,Bool.and_eq_true,decide_eq_true_eq];omega,by (repeat' (first|exact trivial|refine And.intro (by first|rfl|(simp[get,Nat.beq]<;>omega)|(dsimp only[get];congr 1<;>first|rfl|omega|(simp<;>omega))) ?_)),_,rfl⟩
      ·obtain rfl:j=le.length:=by omega
       rw[List.take_length]at hP2;repeat' (first|((with_reducible show aG _);(simp only[vb,lb,hlj];and_intros<;>first|omega|(simp<;>omega)))|((with_reducible show aM _);exact True.intro)|exact(rfl:some _=_)|((fail_if_success refine aT ?_);refine aZ ?_;(repeat1' dsimp only[Cb,ai,ax,aI,aC,an,go_sem]);first|refine aU ?_ ?_ rfl ?_|apply aV|apply aW|(refine aX (fun hc=>?_) fun hc=>?_<;>first|(cases hc;done)|(exfalso;(simp at hc<;>omega))|(try simp only[bn]at hc;try contradiction))|skip))
       exact⟨hlt,hP2,by (repeat' (first|exact trivial|refine And.intro (by first|rfl|(simp[get,Nat.beq]<;>omega)|(dsimp only[get];congr 1<;>first|rfl|omega|(simp<;>omega))) ?_)),_,rfl⟩
     ·have hr:(decide (0≤fi)&&decide (fi≤b.length-sz*sz)&&decide ((le.length:Int)=sz*sz))=false:=by
       rw[Bool.eq_false_iff];simp only[ne_eq,Bool.and_eq_true,decide_eq_true_eq];omega
      rw[hr,Bool.false_and]at i2 ⊢;repeat' (first|((with_reducible show aG _);first|exact True.intro|(simp only[vb,lb,e',f1,hlt,h,h2,q1,q2];and_intros<;>first|omega|(simp<;>omega)))|((with_reducible show aM _);first|exact True.intro|((try dsimp only[go_sem]);(simp[vb,e',f1,hlt,h,h2,q1,q2]<;>omega)))|exact(rfl:some _=_)|((fail_if_success refine aT ?_);refine br [ξ 72 (.agg [.int .i64 fi,.int .i64 sz,.sl le.length (le.flatMap bO)])] ?_;(repeat1' dsimp only[Cb,ai,ax,aI,aC,go_sem]);first|refine aU ?_ ?_ rfl ?_|apply aV|apply aW|(refine aX (fun hc=>?_) fun hc=>?_<;>first|(cases hc;done)|(exfalso;(simp at hc<;>omega))|(try simp only[bn]at hc;try contradiction))|skip))
      all_goals rw[i2 rfl]
    ·rw[show aL sz 1 6=false by simp[aL];omega]at i2 ⊢;repeat' (first|((with_reducible show aG _);first|exact True.intro|(simp only[vb,lb,e',f1,hlt,h];and_intros<;>first|omega|(simp<;>omega)))|((with_reducible show aM _);first|exact True.intro|((try dsimp only[go_sem]);(simp[vb,e',f1,hlt,h]<;>omega)))|exact(rfl:some _=_)|((fail_if_success refine aT ?_);refine br [ξ 72 (.agg [.int .i64 fi,.int .i64 sz,.sl le.length (le.flatMap bO)])] ?_;(repeat1' dsimp only[Cb,ai,ax,aI,aC,go_sem]);first|refine aU ?_ ?_ rfl ?_|apply aV|apply aW|(refine aX (fun hc=>?_) fun hc=>?_<;>first|(cases hc;done)|(exfalso;(simp at hc<;>omega))|(try simp only[bn]at hc;try contradiction))|skip))
     all_goals rw[i2 rfl]
   ·obtain rfl:k=gs.length:=by omega
    rw[List.take_length]at hP;rw[hP];repeat' (first|((with_reducible show aG _);first|exact True.intro|(simp only[vb,lb,hlt];and_intros<;>first|omega|(simp<;>omega)))|((with_reducible show aM _);exact True.intro)|exact(rfl:some _=_)|((fail_if_success refine aT ?_);refine aZ ?_;(repeat1' dsimp only[Cb,ai,ax,aI,aC,go_sem]);first|refine aU ?_ ?_ rfl ?_|apply aV|apply aW|(refine aX (fun hc=>?_) fun hc=>?_<;>first|(cases hc;done)|(exfalso;(simp at hc<;>omega))|(try simp only[bn]at hc;try contradiction))|skip))
def uH:List Rg→Int→Int
 |[],n=>n
 |r::l,n=>uH l (min (n*(r.hi-r.lo+1)) 1073741824)
def rm (b:List Rg):Int:=if cz b=true∧dt b=false then uH b 1 else 0
theorem s9 (b:List Rg) (hb:b.length≤1000000000):aj ctx 60 [ai b,.nilsl] (.bool (cz b)):=by
 have h:=jo b [] hb (by simp) (by simp);rw[show eA b []=cz b by simp[eA]]at h;refine aj.oA 1 ?_;have e:∀l:List PV,l.map (canon 0)=l:=fun l=>by rw[show canon 0=id from funext fun _=>by simp[canon]];simp
 simpa [canon,ai,ax,e]using h
theorem B2 (b:List Rg) (hb:b.length≤1000000000):aj ctx 70 [ai b] (.int .i64 (rm b)):=by
 have h1:=s9 b hb;have h2:=nG b hb;have f1:=bN b;have hbx:=fun (h:cz b=true) k=>kV (gC h k)
 have hem:dt b=false→∀k,k<b.length→(b.getD k zr).lo≤(b.getD k zr).hi:=fun h k hk=>by
  have:=List.any_eq_false.mp h _ (aO (d:=zr) hk);simpa [dX]using this
 unfold rm;unfold ai at h1 h2;generalize cz b=q1 at *;generalize dt b=q2 at *;by_cases hc:q1=true∧q2=false
 ·obtain⟨rfl,rfl⟩:=hc;rw[if_pos ⟨rfl,rfl⟩];generalize hr:uH b 1=r;refine af (C:=ctx) (Fn.of Hm rfl) rfl ?_;unfold c70;repeat' (first|((with_reducible show aG _);exact True.intro)|((with_reducible show aM _);first|exact True.intro|((try dsimp only[go_sem]);(simp[vb,h1,h2]<;>omega)))|exact(rfl:some _=_)|((fail_if_success refine aT ?_);refine fu [(60,fun _=>some (.bool true)),(61,fun _=>some (.bool false))] ?_;(repeat1' dsimp only[c70,ai,go_sem]);first|refine aU ?_ ?_ rfl ?_|apply aV|apply aW|(refine aX (fun hc=>?_) fun hc=>?_<;>first|(cases hc;done)|(try simp only[bn]at hc;try contradiction))|skip))
  refine cC (σ:=Nat×Int) (fun s=>s.1≤b.length∧uH (b.drop s.1) s.2=r∧0≤s.2∧s.2≤1073741824) (fun s=>[(0,.pv (ai b)),(3,.pv (.int .i64 s.2)),(4,.pv (.int .i64 s.1))]) (fun _=>[]) (fun s=>b.length-s.1) (0,1) ⟨Nat.zero_le _,hr,by decide,by decide⟩ (by (repeat' (first|exact trivial|refine And.intro (by first|rfl|(simp[get,Nat.beq]<;>omega)|(dsimp only[get];congr 1<;>first|rfl|omega|(simp<;>omega))) ?_))) ⟨[],rfl⟩ (fun _ _=>⟨Nat.zero_le _,rfl,rfl⟩) fun s hP=>?_
  obtain⟨k,n⟩:=s;obtain⟨p1,p2,p3,p4⟩:=hP;simp only at p1 p2 p3 p4;by_cases hlt:k<b.length
  ·have e1:=sZ b k hlt;have e2:(b.flatMap fW)[k*2+1]?.getD default= .int .i64 (b.getD k zr).hi:=by rw[cX iq b k zr 1 hlt (by omega)];rfl
   have g1:=hbx rfl k;have g2:=hem rfl k hlt;rw[da b k zr hlt,uH]at p2;clear hbx hem;generalize b.getD k zr=x at *;obtain⟨d,hd⟩:∃d:Int,x.hi-x.lo+1=d:=⟨_,rfl⟩
   have hm:0≤n*d∧n*d≤1073741824*3000000:=⟨Int.mul_nonneg p3 (by omega),Int.mul_le_mul p4 (by omega) (by omega) (by omega)⟩
   rw[hd]at p2;repeat' (first|((with_reducible show aG _);first|exact True.intro|(simp only[vb,lb,e1,e2,f1,hlt,hd];and_intros<;>first|omega|(simp<;>omega)))|((with_reducible show aM _);first|exact True.intro|((try dsimp only[go_sem]);(simp only[vb,and_true,true_implies];(repeat' (first|(with_reducible assumption)|(with_reducible apply And.intro)|intro _|((fail_if_success (with_reducible show(_:Int)≤_));assumption)))<;>(simp only[ab,e1,e2,f1,hlt,hd];done))))|exact(rfl:some _=_)|((fail_if_success refine aT ?_);refine br [ξ 23 (.int .i64 x.hi),ξ 28 (.int .i64 x.lo),ξ 30 (.int .i64 d)] ?_;(repeat1' dsimp only[c70,ai,go_sem]);first|refine aU ?_ ?_ rfl ?_|apply aV|apply aW|(refine aX (fun hc=>?_) fun hc=>?_<;>first|(cases hc;done)|(exfalso;(simp at hc<;>omega))|(try simp only[bn]at hc;try contradiction))|skip))
   rw[ei];exact⟨(k+1,min (n*d) 1073741824),by show b.length-(k+1)<b.length-k;omega,⟨by show k+1≤_;omega,p2,by show 0≤min (n*d) 1073741824;omega,by show min (n*d) 1073741824≤_;omega⟩,by (repeat' (first|exact trivial|refine And.intro (by first|rfl|(simp[get,Nat.beq]<;>omega)|(dsimp only[get];congr 1<;>first|rfl|omega|(simp<;>omega))) ?_)),_,rfl⟩
  ·obtain rfl:k=b.length:=by omega
   rw[List.drop_length,uH]at p2;subst p2;repeat' (first|((with_reducible show aG _);exact True.intro)|((with_reducible show aM _);exact True.intro)|exact(rfl:some _=_)|((fail_if_success refine aT ?_);refine aZ ?_;(repeat1' dsimp only[c70,ai,go_sem]);first|refine aU ?_ ?_ rfl ?_|apply aV|apply aW|(refine aX (fun hc=>?_) fun hc=>?_<;>first|(cases hc;done)|(exfalso;(simp at hc<;>omega))|(try simp only[bn]at hc;try contradiction))|skip))
 ·rw[if_neg hc];cases q1 with
  |false =>
   refine af (C:=ctx) (Fn.of Hm rfl) rfl ?_;unfold c70;repeat' (first|((with_reducible show aG _);exact True.intro)|((with_reducible show aM _);first|exact True.intro|((try dsimp only[go_sem]);(simp[vb,h1,h2]<;>omega)))|exact(rfl:some _=_)|((fail_if_success refine aT ?_);refine fu [(60,fun _=>some (.bool false)),(61,fun _=>some (.bool q2))] ?_;(repeat1' dsimp only[c70,ai,go_sem]);first|refine aU ?_ ?_ rfl ?_|apply aV|apply aW|(refine aX (fun hc=>?_) fun hc=>?_<;>first|(cases hc;done)|(try simp only[bn]at hc;try contradiction))|skip))
  |true =>
   cases q2 with
   |false=>exact absurd ⟨rfl,rfl⟩ hc
   |true =>
    refine af (C:=ctx) (Fn.of Hm rfl) rfl ?_;unfold c70;repeat' (first|((with_reducible show aG _);exact True.intro)|((with_reducible show aM _);first|exact True.intro|((try dsimp only[go_sem]);(simp[vb,h1,h2]<;>omega)))|exact(rfl:some _=_)|((fail_if_success refine aT ?_);refine fu [(60,fun _=>some (.bool true)),(61,fun _=>some (.bool true))] ?_;(repeat1' dsimp only[c70,ai,go_sem]);first|refine aU ?_ ?_ rfl ?_|apply aV|apply aW|(refine aX (fun hc=>?_) fun hc=>?_<;>first|(cases hc;done)|(try simp only[bn]at hc;try contradiction))|skip))
end
section
open Rf
def Ij:ay:=(⟨_,by conv=>(lhs;reduce;try simp only[cJ,Int.cast_ofNat_Int,Int.reduceNegSucc,UInt8.reduceOfNat])⟩:{x // codeOf Tryz.prog 45 (fun _=>false)=some x}).1
theorem Ju:bp Tryz.prog 45 (fun _=>false)=some (Ij,[.t 4],52,true):=by kernel_rfl
def c21:ay:=(⟨_,by conv=>(lhs;reduce;try simp only[cJ,Int.cast_ofNat_Int,Int.reduceNegSucc,UInt8.reduceOfNat])⟩:{x // codeOf Tryz.prog 21 (fun _=>false)=some x}).1
theorem Ik:bp Tryz.prog 21 (fun _=>false)=some (c21,[.t 4],32,true):=by kernel_rfl
def HA:ay:=(⟨_,by conv=>(lhs;reduce;try simp only[cJ,Int.cast_ofNat_Int,Int.reduceNegSucc,UInt8.reduceOfNat])⟩:{x // codeOf Tryz.prog 34 (fun d=>Nat.beq d 9)=some x}).1
theorem Jv:bp Tryz.prog 34 (fun d=>Nat.beq d 9)=some (HA,[.t 6],31,true):=by kernel_rfl
def FG (s:Sy) (most:Int):Bool:=(((decide (s.box.length≤12)&&decide (s.rows.length≤30))&&decide (s.graphs.length≤6))&&decide (s.cases.length≤12))&&im s&&s.cases.all (fun l=>decide (l.length≤8))&&decide (rm s.box≤most)
theorem DX (s:Sy) (hs:Ca s) (most:Int):aj ctx 45 [.agg [ai s.box,ax s.rows,aI s.graphs,aC s.cases],.int .i64 most] (.bool (FG s most)):=by
 have h1:=kD s hs;have h2:=B2 s.box hs.b;have f2:=mf s.cases;have hb:=hs.b;have hr:=hs.r;have hg:=hs.g;have hc':=hs.c;have hcl:=hs.cl;unfold FG;generalize im s=q at *;generalize rm s.box=z at *;obtain⟨b,rs,gs,cs⟩:=s;simp only at *;clear hs;unfold ai at h2;unfold ai ax aI aC at h1;refine af (C:=ctx) (Fn.of Ju rfl) rfl ?_;unfold Ij;repeat' (first|((with_reducible show aG _);first|exact True.intro|(simp only[vb,lb,h1];and_intros<;>first|omega|(simp<;>omega)))|((with_reducible show aM _);first|exact True.intro|((try dsimp only[go_sem]);(simp[vb,h1]<;>omega)))|exact(rfl:some _=_)|((fail_if_success refine aT ?_);refine fu [(30,fun _=>some (.bool q))] ?_;(repeat1' dsimp only[Ij,ai,ax,aI,aC,go_sem]);first|refine aU ?_ ?_ rfl ?_|apply aV|apply aW|(refine aX (fun hc=>?_) fun hc=>?_<;>first|(cases hc;done)|(try simp only[bn]at hc;try contradiction))|skip))
 ·have hr:((((decide (b.length≤12)&&decide (rs.length≤30))&&decide (gs.length≤6))&&decide (cs.length≤12))&&q)=false:=by
   rw[Bool.eq_false_iff];simp only[ne_eq,Bool.and_eq_true,decide_eq_true_eq];rintro⟨⟨⟨⟨a,b⟩,c⟩,d⟩,e⟩;subst e;simp at hc;omega
  rw[hr];rfl
 ·have hr:((((decide (b.length≤12)&&decide (rs.length≤30))&&decide (gs.length≤6))&&decide (cs.length≤12))&&q)=true:=by
   simp only[Bool.and_eq_true,decide_eq_true_eq];obtain⟨⟨⟨⟨a,b⟩,c⟩,d⟩,e⟩:=hc;exact⟨⟨⟨⟨by omega,by omega⟩,by omega⟩,by omega⟩,e⟩
  rw[hr,Bool.true_and];refine bg cs.length (fun k=>(cs.take k).all (fun l=>decide (l.length≤8))=true) (fun k=>[(1,.pv (.int .i64 most)),(2,.ptr 0 0 0),(5,.pv (.int .i64 k))]) (fun _=>[⟨[.pv (ai b),.pv (ax rs),.pv (aI gs),.pv (aC cs)],0,4,36,false⟩]) rfl (by (repeat' (first|exact trivial|refine And.intro (by first|rfl|(simp[get,Nat.beq]<;>omega)|(dsimp only[get];congr 1<;>first|rfl|omega|(simp<;>omega))) ?_))) ⟨_,rfl⟩ (fun _=>⟨Nat.zero_le _,rfl,rfl⟩) fun k hk hP=>?_
  by_cases hlt:k<cs.length
  ·have e:=mq cs k hlt;have i1:=dh (fun l:List Rw=>decide (l.length≤8)) cs k [] hlt;have i2:=kq (fun l:List Rw=>decide (l.length≤8)) cs k [] hlt;have hx:=hcl _ (aO (d:=([]:List Rw)) hlt);rw[i1,hP,Bool.true_and];clear i1 hcl;generalize cs.getD k []=x at *;repeat' (first|((with_reducible show aG _);first|exact True.intro|(simp only[vb,lb,e,f2,hlt];and_intros<;>first|omega|(simp<;>omega)))|((with_reducible show aM _);first|exact True.intro|((try dsimp only[go_sem]);(simp[vb,e,f2,hlt]<;>omega)))|exact(rfl:some _=_)|((fail_if_success refine aT ?_);refine br [ξ 44 (.sl x.length (x.flatMap dI))] ?_;(repeat1' dsimp only[Ij,ai,ax,aI,aC,go_sem]);first|refine aU ?_ ?_ rfl ?_|apply aV|apply aW|(refine aX (fun hc=>?_) fun hc=>?_<;>first|(cases hc;done)|(exfalso;(simp at hc<;>omega))|(try simp only[bn]at hc;try contradiction))|skip))
   ·rw[i2 (decide_eq_false (by omega))];rfl
   ·exact⟨hlt,decide_eq_true (by omega),by (repeat' (first|exact trivial|refine And.intro (by first|rfl|(simp[get,Nat.beq]<;>omega)|(dsimp only[get];congr 1<;>first|rfl|omega|(simp<;>omega))) ?_)),_,rfl⟩
  ·obtain rfl:k=cs.length:=by omega
   rw[List.take_length]at hP;rw[hP,Bool.true_and];repeat' (first|((with_reducible show aG _);first|exact True.intro|(simp only[vb,lb,hlt,h2];and_intros<;>first|omega|(simp<;>omega)))|((with_reducible show aM _);first|exact True.intro|((try dsimp only[go_sem]);(simp[vb,hlt,h2]<;>omega)))|exact(rfl:some _=_)|((fail_if_success refine aT ?_);refine fu [(70,fun _=>some (.int .i64 z))] ?_;(repeat1' dsimp only[Ij,ai,ax,aI,aC,go_sem]);first|refine aU ?_ ?_ rfl ?_|apply aV|apply aW|(refine aX (fun hc=>?_) fun hc=>?_<;>first|(cases hc;done)|(exfalso;(simp at hc<;>omega))|(try simp only[bn]at hc;try contradiction))|skip))
def Hn (s:Sy) (most:Int):Bool:=if im s=true then FG s most else ((decide ((s.box.length:Int)≤20)&&decide ((s.rows.length:Int)≤30))&&decide ((s.graphs.length:Int)≤6))&&decide ((s.cases.length:Int)≤12)
theorem Ho (s:Sy) (hs:Ca s) (most:Int):aj ctx 21 [.agg [ai s.box,ax s.rows,aI s.graphs,aC s.cases],.int .i64 most] (.bool (Hn s most)):=by
 have h1:=kD s hs;have h2:=DX s hs most;have hb:=hs.b;have hr:=hs.r;have hg:=hs.g;have hc':=hs.c;unfold Hn;generalize im s=q at *;generalize FG s most=z at *;obtain⟨b,rs,gs,cs⟩:=s;simp only at *;clear hs;unfold ai ax aI aC at h1 h2;cases q with
 |true =>
  refine af (C:=ctx) (Fn.of Ik rfl) rfl ?_;unfold c21;repeat' (first|((with_reducible show aG _);first|exact True.intro|(simp only[vb,lb,h1,h2];and_intros<;>first|omega|(simp<;>omega)))|((with_reducible show aM _);first|exact True.intro|((try dsimp only[go_sem]);(simp[vb,h1,h2]<;>omega)))|exact(rfl:some _=_)|((fail_if_success refine aT ?_);refine fu [(30,fun _=>some (.bool true)),(45,fun _=>some (.bool z))] ?_;(repeat1' dsimp only[c21,ai,ax,aI,aC,go_sem]);first|refine aU ?_ ?_ rfl ?_|apply aV|apply aW|(refine aX (fun hc=>?_) fun hc=>?_<;>first|(cases hc;done)|(try simp only[bn]at hc;try contradiction))|skip))
 |false =>
  refine af (C:=ctx) (Fn.of Ik rfl) rfl ?_;unfold c21;repeat' (first|((with_reducible show aG _);first|exact True.intro|(simp only[vb,lb,h1];and_intros<;>first|omega|(simp<;>omega)))|((with_reducible show aM _);first|exact True.intro|((try dsimp only[go_sem]);(simp[vb,h1]<;>omega)))|exact(rfl:some _=_)|((fail_if_success refine aT ?_);refine fu [(30,fun _=>some (.bool false))] ?_;(repeat1' dsimp only[c21,ai,ax,aI,aC,go_sem]);first|refine aU ?_ ?_ rfl ?_|apply aV|apply aW|(refine aX (fun hc=>?_) fun hc=>?_<;>first|(cases hc;done)|(try simp only[bn]at hc;try contradiction))|skip))
  simp only[ie];rfl
def mC (b:List Rg) (c:Int) (r:Rg):List Rg:=if 0≤c then b.set c.toNat r else b
theorem zq (b:List Rg) (c:Int) (r:Rg) (k:Nat) (h:k<b.length):(mC b c r).take (k+1)=(mC b c r).take k++[if (k:Int)=c then r else b.getD k zr]:=by
 have hl:(mC b c r).length=b.length:=by unfold mC;split<;>simp
 rw[aJ _ k zr (by omega)];congr 2;unfold mC;by_cases hc:(k:Int)=c
 ·rw[if_pos hc,if_pos (by omega),←hc,Int.toNat_natCast];simp[List.getD,h]
 ·rw[if_neg hc];split
  ·rw[List.getD,List.getD,List.getElem?_set_ne (by omega)]
  ·rfl
theorem B3 (b:List Rg) (c:Int) (r:Rg):(mC b c r).length=b.length:=by unfold mC;split<;>simp
theorem rn (b:List Rg) (c:Int) (r:Rg) (hb:b.length≤1000000000):aj ctx 34 [ai b,.int .i64 c,.agg [.int .i64 r.lo,.int .i64 r.hi]] (ai (mC b c r)):=by
 have f1:=bN b;have hst:=zq b c r;have hwl:=B3 b c r;generalize mC b c r=w at *;refine af (C:=ctx) (Fn.of Jv rfl) rfl ?_;unfold HA;repeat' (first|((with_reducible first|show aG _|show aM _);simp[vb]<;>omega)|exact(rfl:some _=_)|((fail_if_success refine aT ?_);refine aZ ?_;(repeat1' dsimp only[HA,ai,go_sem]);first|refine aU ?_ ?_ rfl ?_|apply aV|apply aW|(refine aX (fun hc=>?_) fun hc=>?_<;>first|(cases hc;done)|(exfalso;simp at hc<;>omega)|(try simp only[bn]at hc;try contradiction))|skip))
 refine bg b.length (fun _=>True) (fun k=>[(0,.pv (ai b)),(1,.pv (.int .i64 c)),(5,.ptr 0 0 0),(7,.ref 1 k 0 k),(8,.pv (.int .i64 k))]) (fun k=>[⟨[.pv (.int .i64 r.lo),.pv (.int .i64 r.hi)],0,2,57,false⟩,⟨((w.take k).flatMap fW).map .pv,k,2,57,false⟩]) trivial (by (repeat' (first|exact trivial|refine And.intro (by first|rfl|(simp[get,Nat.beq]<;>omega)|(dsimp only[get];congr 1<;>first|rfl|omega|(simp<;>omega))) ?_))) ⟨[],rfl⟩ (fun _=>⟨Nat.zero_le _,rfl,by simp[aP,ck]⟩) fun k hk _=>?_
 by_cases hlt:k<b.length
 ·have e:=bM iq b k zr hlt;have f2:=bN (w.take k);have hl:(w.take k).length=k:=by rw[List.length_take];omega
  have hs:=hst k hlt;rw[hl]at f2;rw[hs];clear hst hs;generalize b.getD k zr=x at *;generalize w.take k=v at *;by_cases hc:(k:Int)=c
  ·rw[if_pos hc];repeat' (first|((with_reducible show aG _);first|exact True.intro|(simp only[vb,lb,f1,f2,hlt,hc];and_intros<;>first|omega|(simp<;>omega)))|((with_reducible show aM _);first|exact True.intro|((try dsimp only[go_sem]);(simp[vb,f1,f2,hlt,hc]<;>omega)))|exact(rfl:some _=_)|((fail_if_success refine aT ?_);refine br [ξ 18 (.bool true),(22,{mode:=1})] ?_;(repeat1' dsimp only[HA,ai,go_sem]);first|refine aU ?_ ?_ rfl ?_|apply aV|apply aW|(refine aX (fun hc=>?_) fun hc=>?_<;>first|(cases hc;done)|(exfalso;(simp at hc<;>omega))|(try simp only[bn]at hc;try contradiction))|skip))
   exact⟨hlt,trivial,by (repeat' (first|exact trivial|refine And.intro (by first|rfl|(simp[get,Nat.beq]<;>omega)|(dsimp only[get];congr 1<;>first|rfl|omega|(simp<;>omega))) ?_)),[],by simp[List.flatMap_append,fW]⟩
  ·rw[if_neg hc];repeat' (first|((with_reducible show aG _);first|exact True.intro|(simp only[vb,lb,e,f1,f2,hlt,hc,fW];and_intros<;>first|omega|(simp<;>omega)))|((with_reducible show aM _);first|exact True.intro|((try dsimp only[go_sem]);(simp[vb,e,f1,f2,hlt,hc,fW]<;>omega)))|exact(rfl:some _=_)|((fail_if_success refine aT ?_);refine br [ξ 18 (.bool false),ξ 27 (.agg [.int .i64 x.lo,.int .i64 x.hi]),(29,{mode:=1})] ?_;(repeat1' dsimp only[HA,ai,go_sem]);first|refine aU ?_ ?_ rfl ?_|apply aV|apply aW|(refine aX (fun hc=>?_) fun hc=>?_<;>first|(cases hc;done)|(exfalso;(simp at hc<;>omega))|(try simp only[bn]at hc;try contradiction))|skip))
   exact⟨hlt,trivial,by (repeat' (first|exact trivial|refine And.intro (by first|rfl|(simp[get,Nat.beq]<;>omega)|(dsimp only[get];congr 1<;>first|rfl|omega|(simp<;>omega))) ?_)),[],by simp[List.flatMap_append,fW]⟩
 ·obtain rfl:k=b.length:=by omega
  rw[List.take_of_length_le (by omega)];have f2:=bN w;repeat' (first|((with_reducible first|show aG _|show aM _);simp[vb,hlt]<;>omega)|exact(rfl:some _=_)|((fail_if_success refine aT ?_);refine aZ ?_;(repeat1' dsimp only[HA,ai,go_sem]);first|refine aU ?_ ?_ rfl ?_|apply aV|apply aW|(refine aX (fun hc=>?_) fun hc=>?_<;>first|(cases hc;done)|(exfalso;simp[hlt]at hc<;>omega)|(try simp only[bn]at hc;try contradiction))|skip))
  rw[List.take_of_length_le (show w.length≤b.length by omega),←hwl];exact o0 rfl rfl rfl (by rw[List.drop_zero,List.take_of_length_le (by simp only[List.length_map];omega)]) (by simp only[List.length_map];omega)
end
section
open Rf
def bq (b:List Rg) (g:Nat):dT:=⟨(b.flatMap fW).map .pv,g,2,57,false⟩
def dd (s:Sy) (rows:List Rw) (bx:AV) (ch:Bool):List AV:=[.pv (ai s.box),.pv (ax s.rows),.pv (aI s.graphs),.pv (aC s.cases),.pv (ax rows),bx,.pv (.bool ch)]
theorem ta:∀(b:List Rg) (c:Nat) (lo hi:Int),c<b.length→(((b.flatMap fW).map AV.pv).set (c*2) (.pv (.int .i64 lo))).set (c*2+1) (.pv (.int .i64 hi))=((b.set c ⟨lo,hi⟩).flatMap fW).map AV.pv
 |[],c,_,_,h=>by simp at h
 |x::r,0,lo,hi,_=>rfl
 |x::r,c+1,lo,hi,h=>by
  have:=ta r c lo hi (by simpa using h);rw[show(c+1)*2=c*2+1+1 by omega];simp only[List.flatMap_cons,fW,List.cons_append,List.nil_append,List.map_cons,List.set_cons_succ];rw[this]
theorem xP:∀(b:List Rg) (c:Nat) (hi:Int),c<b.length→((b.flatMap fW).map AV.pv).set (c*2+1) (.pv (.int .i64 hi))=((b.set c ⟨(b.getD c zr).lo,hi⟩).flatMap fW).map AV.pv
 |[],c,_,h=>by simp at h
 |x::r,0,hi,_=>rfl
 |x::r,c+1,hi,h=>by
  have:=xP r c hi (by simpa using h);rw[show(c+1)*2+1=c*2+1+1+1 by omega];simp only[List.flatMap_cons,fW,List.cons_append,List.nil_append,List.map_cons,List.set_cons_succ];rw[this];simp
theorem zu (b:List Rg) (c:Nat) (h:c<b.length):((b.flatMap fW).map AV.pv)[c*2]?.getD .any= .pv (.int .i64 (b.getD c zr).lo):=by
 have:=cX iq b c zr 0 h (by omega);rw[Nat.add_zero]at this;rw[List.getElem?_map,this];rfl
theorem zx (b:List Rg) (c:Nat) (h:c<b.length):((b.flatMap fW).map AV.pv)[c*2+1]?.getD .any= .pv (.int .i64 (b.getD c zr).hi):=by
 have:=cX iq b c zr 1 h (by omega);rw[List.getElem?_map,this];rfl
theorem n9 (b:List Rg) (c:Nat) (y:Rg) (h:c<b.length):(b.set c y).getD c zr=y:=by
 simp[List.getD,h]
theorem tb:∀l:List PV,bC (l.map AV.pv)=some l
 |[]=>rfl
 |x::r=>by rw[List.map_cons,bC,tb r]
theorem nH (b:List Rg) (g:Nat):(Nat.beq g g&&(0+b.length*2).ble ((b.flatMap fW).map AV.pv).length)=true∧bC (((b.flatMap fW).map AV.pv).take (b.length*2))=some (b.flatMap fW):=by
 have f:=bN b;refine⟨by simp[f],?_⟩;rw[List.take_of_length_le (by simp[f]),tb]
theorem zy (s:Sy) (rows:List Rw) (b:List Rg) (g:Nat) (ch:Bool) (x:aS) (hx:bk x=true) (hk:x.kind=1) (hs:∀q∈s.graphs,bH b.length q=true) (hg:s.graphs.length≤1000000000) (hb:b.length≤1000000000) :
  aN ctx 78 [.agg (dd s rows (.ref 0 g 0 b.length) ch),.pv (cj x)] [bq b g] (.pv (.tup [.bool (b8 s rows b x).2.1,.bool (b8 s rows b x).2.2])) [bq (b8 s rows b x).1 g]:=by
 simp only[bk,hk,aL,Bool.and_eq_true,decide_eq_true_eq,if_true]at hx;obtain⟨⟨-,x1,x2⟩,x3,x4⟩:=hx;obtain⟨i,hi⟩:∃i:Nat,x.index=i:=⟨x.index.toNat,by omega⟩
 obtain⟨c,hc⟩:∃c:Nat,x.cell=c:=⟨x.cell.toNat,by omega⟩
 obtain⟨kd,ix,cl⟩:=x;simp only at *;subst hk hi hc;unfold b8;simp only[if_true];have f1:=ra s.graphs;have f2:=bN b;obtain⟨hth1,hth2⟩:=nH b g;by_cases h1:i<s.graphs.length
 ·have e1:=bM ph s.graphs i zg h1;have hgo:=hs _ (aO (d:=zg) h1);have hcl:=BZ s rows b ch (s.graphs.getD i zg);simp only[show(i:Int)<s.graphs.length from by omega,if_true,Int.toNat_natCast];generalize s.graphs.getD i zg=q at *;have hgo':=hgo;simp only[bH,aL,Bool.and_eq_true,decide_eq_true_eq]at hgo';obtain⟨⟨⟨⟨⟨g1,g2⟩,g3⟩,g4⟩,g5⟩,g6⟩:=hgo';have hsq:=n3 g1 g2;by_cases h2:q.first≤c∧(c:Int)<q.first+q.least.length
  ·obtain⟨k,hk⟩:∃k:Nat,(c:Int)-q.first=k:=⟨((c:Int)-q.first).toNat,by omega⟩
   have hkl:k<q.least.length:=by omega
   have hcb:c<b.length:=by omega
   have hcl:=hcl k hgo hb hkl;simp only[h2,and_self,if_true,hk,Int.toNat_natCast];have e2:=iv (g:=bO) (fun _=>rfl) q.least k 0 default hkl;have hlb:eO (q.least.getD k 0)=true:=List.all_eq_true.mp g6 _ (aO hkl);simp only[eO,aL,Bool.and_eq_true,decide_eq_true_eq]at hlb;have hfc:q.first.toNat+k=c:=by omega
   unfold tG;simp only[hfc];have e3:=zx b c hcb;have e4:=zu b c hcb;have e5:=fun h=>xP b c h hcb
   have e6:=n9 b c;generalize hy:b.getD c zr=y at *;generalize q.least.getD k 0=lk at *;have f3:=dj q.least;generalize jm q b k=cq at *;cases cq with
   |true =>
    simp only[if_true,dd,cj,aw,bq];refine bo (C:=ctx) (Fn.of sJ rfl) rfl (by simp) rfl (by simp[aP,ck]) ?_;unfold qg;refine br [ξ 26 (.agg [.int .i64 q.first,.int .i64 q.size,.sl q.least.length (q.least.flatMap bO)]),ξ 31 (.int .i64 k),ξ 33 (.bool false),ξ 39 (.bool false),(44,{val:=some (.pv (.bool true)),args:=some [.agg (jF s rows b ch),.agg [.int .i64 q.first,.int .i64 q.size,an q.least],.int .i64 k]})] ?_;dsimp only[aI,ai,ax,aC,an,go_sem]
    try dsimp only[aI,ai,ax,aC,an,go_sem]
    refine⟨(by first|exact True.intro|(simp only[vb,lb];omega)|(simp only[vb,lb,e1,f1,h1,f3,hk,hkl,dx,an];and_intros<;>first|omega|(simp<;>omega))|(simp[vb,e1,f1,h1,f3,hk,hkl,dx,an]<;>omega)),(by first|exact True.intro|((try dsimp only[go_sem]);first|(simp[vb,e1,f1,h1,f3,hk,hkl,dx,an]<;>omega)|(simp only[vb,and_true,true_implies];(repeat' (first|(with_reducible assumption)|(with_reducible apply And.intro)|intro _|((fail_if_success (with_reducible show(_:Int)≤_));assumption)))<;>first|omega|rfl|(simp only[ab,e1,f1,h1,f3,hk,hkl,dx,an];done)|(simp[Nat.mul_one,e1,f1,h1,f3,hk,hkl,dx,an]<;>omega)|(simp_all;done)))),?_⟩
    refine br [ξ 26 (.agg [.int .i64 q.first,.int .i64 q.size,.sl q.least.length (q.least.flatMap bO)]),ξ 31 (.int .i64 k),ξ 33 (.bool false),ξ 39 (.bool false),(44,{val:=some (.pv (.bool true)),args:=some [.agg (jF s rows b ch),.agg [.int .i64 q.first,.int .i64 q.size,an q.least],.int .i64 k]})] ?_;dsimp only[aI,ai,ax,aC,an,go_sem];try dsimp only[aI,ai,ax,aC,an,go_sem]
    refine⟨(by simp[vb,e1,f1,h1,f3,hk,hkl,dx,an]<;>omega),(by simp[vb,e1,f1,h1,f3,hk,hkl,dx,an]<;>omega),?_⟩;refine br [ξ 26 (.agg [.int .i64 q.first,.int .i64 q.size,.sl q.least.length (q.least.flatMap bO)]),ξ 31 (.int .i64 k),ξ 33 (.bool false),ξ 39 (.bool false),(44,{val:=some (.pv (.bool true)),args:=some [.agg (jF s rows b ch),.agg [.int .i64 q.first,.int .i64 q.size,an q.least],.int .i64 k]})] ?_;dsimp only[aI,ai,ax,aC,an,go_sem];refine⟨fun _=>?_,fun h=>by simp at h<;>omega⟩
    refine br [ξ 26 (.agg [.int .i64 q.first,.int .i64 q.size,.sl q.least.length (q.least.flatMap bO)]),ξ 31 (.int .i64 k),ξ 33 (.bool false),ξ 39 (.bool false),(44,{val:=some (.pv (.bool true)),args:=some [.agg (jF s rows b ch),.agg [.int .i64 q.first,.int .i64 q.size,an q.least],.int .i64 k]})] ?_;dsimp only[aI,ai,ax,aC,an,go_sem];try dsimp only[aI,ai,ax,aC,an,go_sem]
    refine⟨(by first|exact True.intro|(simp only[vb,lb];omega)|(simp only[vb,lb,e1,f1,h1,f3,hk,hkl,dx,an];and_intros<;>first|omega|(simp<;>omega))|(simp[vb,e1,f1,h1,f3,hk,hkl,dx,an]<;>omega)),(by first|exact True.intro|((try dsimp only[go_sem]);first|(simp[vb,e1,f1,h1,f3,hk,hkl,dx,an]<;>omega)|(simp only[vb,and_true,true_implies];(repeat' (first|(with_reducible assumption)|(with_reducible apply And.intro)|intro _|((fail_if_success (with_reducible show(_:Int)≤_));assumption)))<;>first|omega|rfl|(simp only[ab,e1,f1,h1,f3,hk,hkl,dx,an];done)|(simp[Nat.mul_one,e1,f1,h1,f3,hk,hkl,dx,an]<;>omega)|(simp_all;done)))),?_⟩
    refine br [ξ 26 (.agg [.int .i64 q.first,.int .i64 q.size,.sl q.least.length (q.least.flatMap bO)]),ξ 31 (.int .i64 k),ξ 33 (.bool false),ξ 39 (.bool false),(44,{val:=some (.pv (.bool true)),args:=some [.agg (jF s rows b ch),.agg [.int .i64 q.first,.int .i64 q.size,an q.least],.int .i64 k]})] ?_;dsimp only[aI,ai,ax,aC,an,go_sem];refine⟨fun h=>by simp at h<;>omega,fun _=>?_⟩
    refine br [ξ 26 (.agg [.int .i64 q.first,.int .i64 q.size,.sl q.least.length (q.least.flatMap bO)]),ξ 31 (.int .i64 k),ξ 33 (.bool false),ξ 39 (.bool false),(44,{val:=some (.pv (.bool true)),args:=some [.agg (jF s rows b ch),.agg [.int .i64 q.first,.int .i64 q.size,an q.least],.int .i64 k]})] ?_;dsimp only[aI,ai,ax,aC,an,go_sem]
    refine br [ξ 26 (.agg [.int .i64 q.first,.int .i64 q.size,.sl q.least.length (q.least.flatMap bO)]),ξ 31 (.int .i64 k),ξ 33 (.bool false),ξ 39 (.bool false),(44,{val:=some (.pv (.bool true)),args:=some [.agg (jF s rows b ch),.agg [.int .i64 q.first,.int .i64 q.size,an q.least],.int .i64 k]})] ?_;dsimp only[aI,ai,ax,aC,an,go_sem];try dsimp only[aI,ai,ax,aC,an,go_sem]
    refine⟨(by first|exact True.intro|(simp only[vb,lb];omega)|(simp only[vb,lb,e1,f1,h1,f3,hk,hkl,dx,an];and_intros<;>first|omega|(simp<;>omega))|(simp[vb,e1,f1,h1,f3,hk,hkl,dx,an]<;>omega)),(by first|exact True.intro|((try dsimp only[go_sem]);first|(simp[vb,e1,f1,h1,f3,hk,hkl,dx,an]<;>omega)|(simp only[vb,and_true,true_implies];(repeat' (first|(with_reducible assumption)|(with_reducible apply And.intro)|intro _|((fail_if_success (with_reducible show(_:Int)≤_));assumption)))<;>first|omega|rfl|(simp only[ab,e1,f1,h1,f3,hk,hkl,dx,an];done)|(simp[Nat.mul_one,e1,f1,h1,f3,hk,hkl,dx,an]<;>omega)|(simp_all;done)))),?_⟩
    refine br [ξ 26 (.agg [.int .i64 q.first,.int .i64 q.size,.sl q.least.length (q.least.flatMap bO)]),ξ 31 (.int .i64 k),ξ 33 (.bool false),ξ 39 (.bool false),(44,{val:=some (.pv (.bool true)),args:=some [.agg (jF s rows b ch),.agg [.int .i64 q.first,.int .i64 q.size,an q.least],.int .i64 k]})] ?_;dsimp only[aI,ai,ax,aC,an,go_sem];try dsimp only[aI,ai,ax,aC,an,go_sem]
    refine⟨(by first|exact True.intro|(simp only[vb,lb];omega)|(simp only[vb,lb,e1,f1,h1,f3,hk,hkl,dx,an];and_intros<;>first|omega|(simp<;>omega))|(simp[vb,e1,f1,h1,f3,hk,hkl,dx,an]<;>omega)),(by first|exact True.intro|((try dsimp only[go_sem]);first|(simp[vb,e1,f1,h1,f3,hk,hkl,dx,an]<;>omega)|(simp only[vb,and_true,true_implies];(repeat' (first|(with_reducible assumption)|(with_reducible apply And.intro)|intro _|((fail_if_success (with_reducible show(_:Int)≤_));assumption)))<;>first|omega|rfl|(simp only[ab,e1,f1,h1,f3,hk,hkl,dx,an];done)|(simp[Nat.mul_one,e1,f1,h1,f3,hk,hkl,dx,an]<;>omega)|(simp_all;done)))),?_⟩
    refine br [ξ 26 (.agg [.int .i64 q.first,.int .i64 q.size,.sl q.least.length (q.least.flatMap bO)]),ξ 31 (.int .i64 k),ξ 33 (.bool false),ξ 39 (.bool false),(44,{val:=some (.pv (.bool true)),args:=some [.agg (jF s rows b ch),.agg [.int .i64 q.first,.int .i64 q.size,an q.least],.int .i64 k]})] ?_;dsimp only[aI,ai,ax,aC,an,go_sem];try dsimp only[aI,ai,ax,aC,an,go_sem]
    refine⟨(by first|exact True.intro|(simp only[vb,lb];omega)|(simp only[vb,lb,e1,f1,h1,f3,hk,hkl,dx,an];and_intros<;>first|omega|(simp<;>omega))|(simp[vb,e1,f1,h1,f3,hk,hkl,dx,an]<;>omega)),(by first|exact True.intro|((try dsimp only[go_sem]);first|(simp[vb,e1,f1,h1,f3,hk,hkl,dx,an]<;>omega)|(simp only[vb,and_true,true_implies];(repeat' (first|(with_reducible assumption)|(with_reducible apply And.intro)|intro _|((fail_if_success (with_reducible show(_:Int)≤_));assumption)))<;>first|omega|rfl|(simp only[ab,e1,f1,h1,f3,hk,hkl,dx,an];done)|(simp[Nat.mul_one,e1,f1,h1,f3,hk,hkl,dx,an]<;>omega)|(simp_all;done)))),?_⟩
    refine br [ξ 26 (.agg [.int .i64 q.first,.int .i64 q.size,.sl q.least.length (q.least.flatMap bO)]),ξ 31 (.int .i64 k),ξ 33 (.bool false),ξ 39 (.bool false),(44,{val:=some (.pv (.bool true)),args:=some [.agg (jF s rows b ch),.agg [.int .i64 q.first,.int .i64 q.size,an q.least],.int .i64 k]})] ?_;dsimp only[aI,ai,ax,aC,an,go_sem];refine⟨fun h=>by simp at h<;>omega,fun _=>?_⟩
    refine br [ξ 26 (.agg [.int .i64 q.first,.int .i64 q.size,.sl q.least.length (q.least.flatMap bO)]),ξ 31 (.int .i64 k),ξ 33 (.bool false),ξ 39 (.bool false),(44,{val:=some (.pv (.bool true)),args:=some [.agg (jF s rows b ch),.agg [.int .i64 q.first,.int .i64 q.size,an q.least],.int .i64 k]})] ?_;dsimp only[aI,ai,ax,aC,an,go_sem]
    refine br [ξ 26 (.agg [.int .i64 q.first,.int .i64 q.size,.sl q.least.length (q.least.flatMap bO)]),ξ 31 (.int .i64 k),ξ 33 (.bool false),ξ 39 (.bool false),(44,{val:=some (.pv (.bool true)),args:=some [.agg (jF s rows b ch),.agg [.int .i64 q.first,.int .i64 q.size,an q.least],.int .i64 k]})] ?_;dsimp only[aI,ai,ax,aC,an,go_sem];try dsimp only[aI,ai,ax,aC,an,go_sem]
    refine⟨(by first|exact True.intro|(simp only[vb,lb];omega)|(simp only[vb,lb,e1,f1,h1,f3,hk,hkl,dx,an];and_intros<;>first|omega|(simp<;>omega))|(simp[vb,e1,f1,h1,f3,hk,hkl,dx,an]<;>omega)),?_,?_⟩
    ·rw[hth1,cond_true,hth2];exact⟨rfl,hcl,trivial⟩
    refine br [ξ 55 (.int .i64 y.hi),ξ 60 (.int .i64 lk)] ?_;dsimp only[aI,ai,ax,aC,an,go_sem];refine⟨fun _=>?_,fun h=>by simp at h<;>omega⟩;refine kN (T:=[]) (H:=[ξ 55 (.int .i64 y.hi),ξ 60 (.int .i64 lk)]) (by rfl) ?_;dsimp only[c6,aI,ai,ax,aC,an,go_sem];try dsimp only[aI,ai,ax,aC,an,go_sem]
    refine⟨(by first|exact True.intro|(simp only[vb,lb];omega)|(simp only[vb,lb,e2,e3,f2,f3,hcb,hkl];and_intros<;>first|omega|(simp<;>omega))|(simp[vb,e2,e3,f2,f3,hcb,hkl]<;>omega)),(by first|exact True.intro|((try dsimp only[go_sem]);first|(simp[vb,e2,e3,f2,f3,hcb,hkl]<;>omega)|(simp only[vb,and_true,true_implies];(repeat' (first|(with_reducible assumption)|(with_reducible apply And.intro)|intro _|((fail_if_success (with_reducible show(_:Int)≤_));assumption)))<;>first|omega|rfl|(simp only[ab,e2,e3,f2,f3,hcb,hkl];done)|(simp[Nat.mul_one,e2,e3,f2,f3,hcb,hkl]<;>omega)|(simp_all;done)))),?_⟩
    rw[show(((b.flatMap fW).map AV.pv).set (0+(c:Int).toNat*2+1) (.pv (.int .i64 (if lk-1<y.hi then lk-1 else y.hi))))=((b.set c ⟨y.lo,if lk-1<y.hi then lk-1 else y.hi⟩).flatMap fW).map AV.pv from by rw[←e5];simp];rw[ei];have e7:=zx (b.set c ⟨y.lo,min y.hi (lk-1)⟩) c (by simpa using hcb);have e8:=zu (b.set c ⟨y.lo,min y.hi (lk-1)⟩) c (by simpa using hcb);have e9:=bN (b.set c ⟨y.lo,min y.hi (lk-1)⟩);rw[e6 _ hcb]at e7 e8;rw[List.length_set]at e9;clear e5 e6;generalize b.set c ⟨y.lo,min y.hi (lk-1)⟩=b2 at *;repeat' (first|((with_reducible show aG _);(simp only[vb,lb,e7,e8,e9,hcb];and_intros<;>first|omega|(simp<;>omega)))|((with_reducible show aM _);((try dsimp only[go_sem]);(simp only[vb,and_true,true_implies];(repeat' (first|(with_reducible assumption)|(with_reducible apply And.intro)|intro _|((fail_if_success (with_reducible show(_:Int)≤_));assumption)))<;>(simp only[ab,e7,e8,e9,hcb];done))))|exact(rfl:some _=_)|((fail_if_success refine aT ?_);refine br [ξ 71 (.int .i64 y.lo),ξ 78 (.int .i64 (min y.hi (lk-1)))] ?_;(repeat1' dsimp only[qg,go_sem]);first|refine aU ?_ ?_ rfl ?_|apply aV|apply aW|(refine aX (fun hc=>?_) fun hc=>?_<;>first|(cases hc;done)|(try simp only[bn]at hc;try contradiction))|skip))
    exact⟨⟨trivial,rfl⟩,_,rfl⟩
   |false =>
    simp only[Bool.false_eq_true,if_false,dd,cj,aw,bq];have e7:b.set c y=b:=by
     refine List.ext_getElem? fun j=>?_
     by_cases hj:c=j
     ·subst hj;rw[List.getElem?_set_self hcb,←hy,List.getD,List.getElem?_eq_getElem hcb];rfl
     ·rw[List.getElem?_set_ne hj]
    rw[e7];clear e5 e6 e7;refine bo (C:=ctx) (Fn.of sJ rfl) rfl (by simp) rfl (by simp[aP,ck]) ?_;unfold qg;refine br [ξ 26 (.agg [.int .i64 q.first,.int .i64 q.size,.sl q.least.length (q.least.flatMap bO)]),ξ 31 (.int .i64 k),ξ 33 (.bool false),ξ 39 (.bool false),(44,{val:=some (.pv (.bool false)),args:=some [.agg (jF s rows b ch),.agg [.int .i64 q.first,.int .i64 q.size,an q.least],.int .i64 k]})] ?_;dsimp only[aI,ai,ax,aC,an,go_sem];try dsimp only[aI,ai,ax,aC,an,go_sem]
    refine⟨(by first|exact True.intro|(simp only[vb,lb];omega)|(simp only[vb,lb,e1,f1,h1,f3,hk,hkl,dx,an];and_intros<;>first|omega|(simp<;>omega))|(simp[vb,e1,f1,h1,f3,hk,hkl,dx,an]<;>omega)),(by first|exact True.intro|((try dsimp only[go_sem]);first|(simp[vb,e1,f1,h1,f3,hk,hkl,dx,an]<;>omega)|(simp only[vb,and_true,true_implies];(repeat' (first|(with_reducible assumption)|(with_reducible apply And.intro)|intro _|((fail_if_success (with_reducible show(_:Int)≤_));assumption)))<;>first|omega|rfl|(simp only[ab,e1,f1,h1,f3,hk,hkl,dx,an];done)|(simp[Nat.mul_one,e1,f1,h1,f3,hk,hkl,dx,an]<;>omega)|(simp_all;done)))),?_⟩
    refine br [ξ 26 (.agg [.int .i64 q.first,.int .i64 q.size,.sl q.least.length (q.least.flatMap bO)]),ξ 31 (.int .i64 k),ξ 33 (.bool false),ξ 39 (.bool false),(44,{val:=some (.pv (.bool false)),args:=some [.agg (jF s rows b ch),.agg [.int .i64 q.first,.int .i64 q.size,an q.least],.int .i64 k]})] ?_;dsimp only[aI,ai,ax,aC,an,go_sem];try dsimp only[aI,ai,ax,aC,an,go_sem]
    refine⟨(by simp[vb,e1,f1,h1,f3,hk,hkl,dx,an]<;>omega),(by simp[vb,e1,f1,h1,f3,hk,hkl,dx,an]<;>omega),?_⟩;refine br [ξ 26 (.agg [.int .i64 q.first,.int .i64 q.size,.sl q.least.length (q.least.flatMap bO)]),ξ 31 (.int .i64 k),ξ 33 (.bool false),ξ 39 (.bool false),(44,{val:=some (.pv (.bool false)),args:=some [.agg (jF s rows b ch),.agg [.int .i64 q.first,.int .i64 q.size,an q.least],.int .i64 k]})] ?_;dsimp only[aI,ai,ax,aC,an,go_sem];refine⟨fun _=>?_,fun h=>by simp at h<;>omega⟩
    refine br [ξ 26 (.agg [.int .i64 q.first,.int .i64 q.size,.sl q.least.length (q.least.flatMap bO)]),ξ 31 (.int .i64 k),ξ 33 (.bool false),ξ 39 (.bool false),(44,{val:=some (.pv (.bool false)),args:=some [.agg (jF s rows b ch),.agg [.int .i64 q.first,.int .i64 q.size,an q.least],.int .i64 k]})] ?_;dsimp only[aI,ai,ax,aC,an,go_sem];try dsimp only[aI,ai,ax,aC,an,go_sem]
    refine⟨(by first|exact True.intro|(simp only[vb,lb];omega)|(simp only[vb,lb,e1,f1,h1,f3,hk,hkl,dx,an];and_intros<;>first|omega|(simp<;>omega))|(simp[vb,e1,f1,h1,f3,hk,hkl,dx,an]<;>omega)),(by first|exact True.intro|((try dsimp only[go_sem]);first|(simp[vb,e1,f1,h1,f3,hk,hkl,dx,an]<;>omega)|(simp only[vb,and_true,true_implies];(repeat' (first|(with_reducible assumption)|(with_reducible apply And.intro)|intro _|((fail_if_success (with_reducible show(_:Int)≤_));assumption)))<;>first|omega|rfl|(simp only[ab,e1,f1,h1,f3,hk,hkl,dx,an];done)|(simp[Nat.mul_one,e1,f1,h1,f3,hk,hkl,dx,an]<;>omega)|(simp_all;done)))),?_⟩
    refine br [ξ 26 (.agg [.int .i64 q.first,.int .i64 q.size,.sl q.least.length (q.least.flatMap bO)]),ξ 31 (.int .i64 k),ξ 33 (.bool false),ξ 39 (.bool false),(44,{val:=some (.pv (.bool false)),args:=some [.agg (jF s rows b ch),.agg [.int .i64 q.first,.int .i64 q.size,an q.least],.int .i64 k]})] ?_;dsimp only[aI,ai,ax,aC,an,go_sem];refine⟨fun h=>by simp at h<;>omega,fun _=>?_⟩
    refine br [ξ 26 (.agg [.int .i64 q.first,.int .i64 q.size,.sl q.least.length (q.least.flatMap bO)]),ξ 31 (.int .i64 k),ξ 33 (.bool false),ξ 39 (.bool false),(44,{val:=some (.pv (.bool false)),args:=some [.agg (jF s rows b ch),.agg [.int .i64 q.first,.int .i64 q.size,an q.least],.int .i64 k]})] ?_;dsimp only[aI,ai,ax,aC,an,go_sem]
    refine br [ξ 26 (.agg [.int .i64 q.first,.int .i64 q.size,.sl q.least.length (q.least.flatMap bO)]),ξ 31 (.int .i64 k),ξ 33 (.bool false),ξ 39 (.bool false),(44,{val:=some (.pv (.bool false)),args:=some [.agg (jF s rows b ch),.agg [.int .i64 q.first,.int .i64 q.size,an q.least],.int .i64 k]})] ?_;dsimp only[aI,ai,ax,aC,an,go_sem];try dsimp only[aI,ai,ax,aC,an,go_sem]
    refine⟨(by first|exact True.intro|(simp only[vb,lb];omega)|(simp only[vb,lb,e1,f1,h1,f3,hk,hkl,dx,an];and_intros<;>first|omega|(simp<;>omega))|(simp[vb,e1,f1,h1,f3,hk,hkl,dx,an]<;>omega)),(by first|exact True.intro|((try dsimp only[go_sem]);first|(simp[vb,e1,f1,h1,f3,hk,hkl,dx,an]<;>omega)|(simp only[vb,and_true,true_implies];(repeat' (first|(with_reducible assumption)|(with_reducible apply And.intro)|intro _|((fail_if_success (with_reducible show(_:Int)≤_));assumption)))<;>first|omega|rfl|(simp only[ab,e1,f1,h1,f3,hk,hkl,dx,an];done)|(simp[Nat.mul_one,e1,f1,h1,f3,hk,hkl,dx,an]<;>omega)|(simp_all;done)))),?_⟩
    refine br [ξ 26 (.agg [.int .i64 q.first,.int .i64 q.size,.sl q.least.length (q.least.flatMap bO)]),ξ 31 (.int .i64 k),ξ 33 (.bool false),ξ 39 (.bool false),(44,{val:=some (.pv (.bool false)),args:=some [.agg (jF s rows b ch),.agg [.int .i64 q.first,.int .i64 q.size,an q.least],.int .i64 k]})] ?_;dsimp only[aI,ai,ax,aC,an,go_sem];try dsimp only[aI,ai,ax,aC,an,go_sem]
    refine⟨(by first|exact True.intro|(simp only[vb,lb];omega)|(simp only[vb,lb,e1,f1,h1,f3,hk,hkl,dx,an];and_intros<;>first|omega|(simp<;>omega))|(simp[vb,e1,f1,h1,f3,hk,hkl,dx,an]<;>omega)),(by first|exact True.intro|((try dsimp only[go_sem]);first|(simp[vb,e1,f1,h1,f3,hk,hkl,dx,an]<;>omega)|(simp only[vb,and_true,true_implies];(repeat' (first|(with_reducible assumption)|(with_reducible apply And.intro)|intro _|((fail_if_success (with_reducible show(_:Int)≤_));assumption)))<;>first|omega|rfl|(simp only[ab,e1,f1,h1,f3,hk,hkl,dx,an];done)|(simp[Nat.mul_one,e1,f1,h1,f3,hk,hkl,dx,an]<;>omega)|(simp_all;done)))),?_⟩
    refine br [ξ 26 (.agg [.int .i64 q.first,.int .i64 q.size,.sl q.least.length (q.least.flatMap bO)]),ξ 31 (.int .i64 k),ξ 33 (.bool false),ξ 39 (.bool false),(44,{val:=some (.pv (.bool false)),args:=some [.agg (jF s rows b ch),.agg [.int .i64 q.first,.int .i64 q.size,an q.least],.int .i64 k]})] ?_;dsimp only[aI,ai,ax,aC,an,go_sem];try dsimp only[aI,ai,ax,aC,an,go_sem]
    refine⟨(by first|exact True.intro|(simp only[vb,lb];omega)|(simp only[vb,lb,e1,f1,h1,f3,hk,hkl,dx,an];and_intros<;>first|omega|(simp<;>omega))|(simp[vb,e1,f1,h1,f3,hk,hkl,dx,an]<;>omega)),(by first|exact True.intro|((try dsimp only[go_sem]);first|(simp[vb,e1,f1,h1,f3,hk,hkl,dx,an]<;>omega)|(simp only[vb,and_true,true_implies];(repeat' (first|(with_reducible assumption)|(with_reducible apply And.intro)|intro _|((fail_if_success (with_reducible show(_:Int)≤_));assumption)))<;>first|omega|rfl|(simp only[ab,e1,f1,h1,f3,hk,hkl,dx,an];done)|(simp[Nat.mul_one,e1,f1,h1,f3,hk,hkl,dx,an]<;>omega)|(simp_all;done)))),?_⟩
    refine br [ξ 26 (.agg [.int .i64 q.first,.int .i64 q.size,.sl q.least.length (q.least.flatMap bO)]),ξ 31 (.int .i64 k),ξ 33 (.bool false),ξ 39 (.bool false),(44,{val:=some (.pv (.bool false)),args:=some [.agg (jF s rows b ch),.agg [.int .i64 q.first,.int .i64 q.size,an q.least],.int .i64 k]})] ?_;dsimp only[aI,ai,ax,aC,an,go_sem];refine⟨fun h=>by simp at h<;>omega,fun _=>?_⟩
    refine br [ξ 26 (.agg [.int .i64 q.first,.int .i64 q.size,.sl q.least.length (q.least.flatMap bO)]),ξ 31 (.int .i64 k),ξ 33 (.bool false),ξ 39 (.bool false),(44,{val:=some (.pv (.bool false)),args:=some [.agg (jF s rows b ch),.agg [.int .i64 q.first,.int .i64 q.size,an q.least],.int .i64 k]})] ?_;dsimp only[aI,ai,ax,aC,an,go_sem]
    refine br [ξ 26 (.agg [.int .i64 q.first,.int .i64 q.size,.sl q.least.length (q.least.flatMap bO)]),ξ 31 (.int .i64 k),ξ 33 (.bool false),ξ 39 (.bool false),(44,{val:=some (.pv (.bool false)),args:=some [.agg (jF s rows b ch),.agg [.int .i64 q.first,.int .i64 q.size,an q.least],.int .i64 k]})] ?_;dsimp only[aI,ai,ax,aC,an,go_sem];try dsimp only[aI,ai,ax,aC,an,go_sem]
    refine⟨(by first|exact True.intro|(simp only[vb,lb];omega)|(simp only[vb,lb,e1,f1,h1,f3,hk,hkl,dx,an];and_intros<;>first|omega|(simp<;>omega))|(simp[vb,e1,f1,h1,f3,hk,hkl,dx,an]<;>omega)),?_,?_⟩
    ·rw[hth1,cond_true,hth2];exact⟨rfl,hcl,trivial⟩
    repeat' (first|((with_reducible show aG _);(simp only[vb,lb,e3,e4,f2,hcb];and_intros<;>first|omega|(simp<;>omega)))|((with_reducible show aM _);((try dsimp only[go_sem]);(simp only[vb,and_true,true_implies];(repeat' (first|(with_reducible assumption)|(with_reducible apply And.intro)|intro _|((fail_if_success (with_reducible show(_:Int)≤_));assumption)))<;>(simp only[ab,e3,e4,f2,hcb];done))))|exact(rfl:some _=_)|((fail_if_success refine aT ?_);refine br [ξ 71 (.int .i64 y.lo),ξ 78 (.int .i64 y.hi)] ?_;(repeat1' dsimp only[qg,go_sem]);first|refine aU ?_ ?_ rfl ?_|apply aV|apply aW|(refine aX (fun hc=>?_) fun hc=>?_<;>first|(cases hc;done)|(try simp only[bn]at hc;try contradiction))|skip))
    exact⟨⟨trivial,rfl⟩,_,rfl⟩
  ·simp only[h2,if_false];simp only[dd,cj,aw,bq];clear hcl;have f3:=dj q.least;have hql:q.least.length≤36:=by omega
   refine bo (C:=ctx) (Fn.of sJ rfl) rfl (by simp) rfl (by simp[aP,ck]) ?_;unfold qg;refine br [ξ 26 (.agg [.int .i64 q.first,.int .i64 q.size,.sl q.least.length (q.least.flatMap bO)])] ?_;dsimp only[aI,ai,ax,aC,an,go_sem];try dsimp only[aI,ai,ax,aC,an,go_sem]
   refine⟨(by first|exact True.intro|(simp only[vb,lb];omega)|(simp only[vb,lb,e1,f1,h1,f3,dx,an];and_intros<;>first|omega|(simp<;>omega))|(simp[vb,e1,f1,h1,f3,dx,an]<;>omega)),(by first|exact True.intro|((try dsimp only[go_sem]);first|(simp[vb,e1,f1,h1,f3,dx,an]<;>omega)|(simp only[vb,and_true,true_implies];(repeat' (first|(with_reducible assumption)|(with_reducible apply And.intro)|intro _|((fail_if_success (with_reducible show(_:Int)≤_));assumption)))<;>first|omega|rfl|(simp only[ab,e1,f1,h1,f3,dx,an];done)|(simp[Nat.mul_one,e1,f1,h1,f3,dx,an]<;>omega)|(simp_all;done)))),?_⟩
   refine br [ξ 26 (.agg [.int .i64 q.first,.int .i64 q.size,.sl q.least.length (q.least.flatMap bO)])] ?_;dsimp only[aI,ai,ax,aC,an,go_sem];try dsimp only[aI,ai,ax,aC,an,go_sem]
   refine⟨(by simp[vb,e1,f1,h1,f3,dx,an]<;>omega),(by simp[vb,e1,f1,h1,f3,dx,an]<;>omega),?_⟩;refine br [ξ 26 (.agg [.int .i64 q.first,.int .i64 q.size,.sl q.least.length (q.least.flatMap bO)])] ?_;dsimp only[aI,ai,ax,aC,an,go_sem];refine⟨fun _=>?_,fun h=>by simp at h<;>omega⟩;refine br [ξ 26 (.agg [.int .i64 q.first,.int .i64 q.size,.sl q.least.length (q.least.flatMap bO)])] ?_;dsimp only[aI,ai,ax,aC,an,go_sem];try dsimp only[aI,ai,ax,aC,an,go_sem]
   refine⟨(by first|exact True.intro|(simp only[vb,lb];omega)|(simp only[vb,lb,e1,f1,h1,f3,dx,an];and_intros<;>first|omega|(simp<;>omega))|(simp[vb,e1,f1,h1,f3,dx,an]<;>omega)),(by first|exact True.intro|((try dsimp only[go_sem]);first|(simp[vb,e1,f1,h1,f3,dx,an]<;>omega)|(simp only[vb,and_true,true_implies];(repeat' (first|(with_reducible assumption)|(with_reducible apply And.intro)|intro _|((fail_if_success (with_reducible show(_:Int)≤_));assumption)))<;>first|omega|rfl|(simp only[ab,e1,f1,h1,f3,dx,an];done)|(simp[Nat.mul_one,e1,f1,h1,f3,dx,an]<;>omega)|(simp_all;done)))),?_⟩
   refine br [ξ 26 (.agg [.int .i64 q.first,.int .i64 q.size,.sl q.least.length (q.least.flatMap bO)])] ?_;dsimp only[aI,ai,ax,aC,an,go_sem];refine⟨fun h=>by simp at h<;>omega,fun _=>?_⟩;refine br [ξ 26 (.agg [.int .i64 q.first,.int .i64 q.size,.sl q.least.length (q.least.flatMap bO)])] ?_;dsimp only[aI,ai,ax,aC,an,go_sem];refine br [ξ 26 (.agg [.int .i64 q.first,.int .i64 q.size,.sl q.least.length (q.least.flatMap bO)])] ?_;dsimp only[aI,ai,ax,aC,an,go_sem]
   try dsimp only[aI,ai,ax,aC,an,go_sem]
   refine⟨(by first|exact True.intro|(simp only[vb,lb];omega)|(simp only[vb,lb,e1,f1,h1,f3,dx,an];and_intros<;>first|omega|(simp<;>omega))|(simp[vb,e1,f1,h1,f3,dx,an]<;>omega)),(by first|exact True.intro|((try dsimp only[go_sem]);first|(simp[vb,e1,f1,h1,f3,dx,an]<;>omega)|(simp only[vb,and_true,true_implies];(repeat' (first|(with_reducible assumption)|(with_reducible apply And.intro)|intro _|((fail_if_success (with_reducible show(_:Int)≤_));assumption)))<;>first|omega|rfl|(simp only[ab,e1,f1,h1,f3,dx,an];done)|(simp[Nat.mul_one,e1,f1,h1,f3,dx,an]<;>omega)|(simp_all;done)))),?_⟩
   refine br [ξ 26 (.agg [.int .i64 q.first,.int .i64 q.size,.sl q.least.length (q.least.flatMap bO)])] ?_;dsimp only[aI,ai,ax,aC,an,go_sem];try dsimp only[aI,ai,ax,aC,an,go_sem]
   refine⟨(by first|exact True.intro|(simp only[vb,lb];omega)|(simp only[vb,lb,e1,f1,h1,f3,dx,an];and_intros<;>first|omega|(simp<;>omega))|(simp[vb,e1,f1,h1,f3,dx,an]<;>omega)),(by first|exact True.intro|((try dsimp only[go_sem]);first|(simp[vb,e1,f1,h1,f3,dx,an]<;>omega)|(simp only[vb,and_true,true_implies];(repeat' (first|(with_reducible assumption)|(with_reducible apply And.intro)|intro _|((fail_if_success (with_reducible show(_:Int)≤_));assumption)))<;>first|omega|rfl|(simp only[ab,e1,f1,h1,f3,dx,an];done)|(simp[Nat.mul_one,e1,f1,h1,f3,dx,an]<;>omega)|(simp_all;done)))),?_⟩
   by_cases h3:(c:Int)-q.first<0
   ·repeat' (first|((with_reducible show aG _);exact True.intro)|((with_reducible show aM _);first|exact True.intro|((try dsimp only[go_sem]);(simp[vb,h3]<;>omega)))|exact(rfl:some _=_)|((fail_if_success refine aT ?_);refine br [ξ 33 (.bool true)] ?_;(repeat1' dsimp only[qg,go_sem]);first|refine aU ?_ ?_ rfl ?_|apply aV|apply aW|(refine aX (fun hc=>?_) fun hc=>?_<;>first|(cases hc;done)|(try simp only[bn]at hc;try contradiction))|skip))
    all_goals exact⟨⟨trivial,rfl⟩,_,rfl⟩
   ·repeat' (first|((with_reducible show aG _);exact True.intro)|((with_reducible show aM _);first|exact True.intro|((try dsimp only[go_sem]);(simp[vb,h3]<;>omega)))|exact(rfl:some _=_)|((fail_if_success refine aT ?_);refine br [ξ 33 (.bool false),ξ 39 (.bool true)] ?_;(repeat1' dsimp only[qg,go_sem]);first|refine aU ?_ ?_ rfl ?_|apply aV|apply aW|(refine aX (fun hc=>?_) fun hc=>?_<;>first|(cases hc;done)|(try simp only[bn]at hc;try contradiction))|skip))
    all_goals exact⟨⟨trivial,rfl⟩,_,rfl⟩
 ·simp only[show ¬(i:Int)<s.graphs.length from by omega,if_false];simp only[dd,cj,aw,bq];refine bo (C:=ctx) (Fn.of sJ rfl) rfl (by simp) rfl (by simp[aP,ck]) ?_;unfold qg;repeat' (first|((with_reducible show aG _);first|exact True.intro|(simp only[vb,lb,h1];and_intros<;>first|omega|(simp<;>omega)))|((with_reducible show aM _);exact True.intro)|exact(rfl:some _=_)|((fail_if_success refine aT ?_);refine aZ ?_;(repeat1' dsimp only[qg,aI,ai,ax,aC,go_sem]);first|refine aU ?_ ?_ rfl ?_|apply aV|apply aW|(refine aX (fun hc=>?_) fun hc=>?_<;>first|(cases hc;done)|(exfalso;(simp at hc<;>omega))|(try simp only[bn]at hc;try contradiction))|skip))
  all_goals exact⟨⟨trivial,rfl⟩,_,rfl⟩
end
section
open Rf
theorem DY (s:Sy) (rows:List Rw) (b:List Rg) (g:Nat) (ch:Bool) (x:aS) (hx:bk x=true) (hk:x.kind=0) (hr:rows.length≤1000000000) (hrt:∀r∈rows,r.terms.length≤1000000000) (hb:b.length≤1000000000) :
  aN ctx 78 [.agg (dd s rows (.ref 0 g 0 b.length) ch),.pv (cj x)] [bq b g] (.pv (.tup [.bool (b8 s rows b x).2.1,.bool (b8 s rows b x).2.2])) [bq (b8 s rows b x).1 g]:=by
 simp only[bk,hk,aL,Bool.and_eq_true,decide_eq_true_eq]at hx;obtain⟨⟨-,x1,x2⟩,x3,x4⟩:=hx;have x3: -1≤x.cell:=by simpa using x3
 obtain⟨i,hi⟩:∃i:Nat,x.index=i:=⟨x.index.toNat,by omega⟩
 obtain⟨kd,ix,cl⟩:=x;simp only at *;subst hk hi;unfold b8;rw[if_neg (show ¬(0:Int)=1 by decide)];dsimp only;rw[Int.toNat_natCast];have f1:=fL rows;have f2:=bN b;obtain⟨hth1,hth2⟩:=nH b g;by_cases h1:(i:Int)<rows.length∧cl<b.length
 ·obtain⟨h1,h2⟩:=h1;have h1':i<rows.length:=by omega
  have e1:=bM kQ rows i zw h1';have ht:=hrt _ (aO (d:=zw) h1');have hti:=fun c=>zk b (rows.getD i zw) c hb ht
  rw[if_pos ⟨h1,h2⟩];clear hrt;generalize rows.getD i zw=q at *;by_cases h3:cl<0
  ·rw[if_pos h3];simp only[dd,cj,aw,bq];obtain⟨ts,bd⟩:=q;simp only at *;have f3:=gX ts;refine bo (C:=ctx) (Fn.of sJ rfl) rfl (by simp) rfl (by simp[aP,ck]) ?_;unfold qg;cases ts with
   |nil =>
    repeat' (first|((with_reducible show aG _);first|exact True.intro|(simp only[vb,lb,e1,f1,h1,h1',h2,h3,dI,av];and_intros<;>first|omega|(simp<;>omega)))|((with_reducible show aM _);first|exact True.intro|((try dsimp only[go_sem]);(simp[vb,e1,f1,h1,h1',h2,h3,dI,av]<;>omega)))|exact(rfl:some _=_)|((fail_if_success refine aT ?_);refine br [ξ 99 (.agg [.sl 0 [],.int .i64 bd]),ξ 102 (.bool true)] ?_;(repeat1' dsimp only[qg,ax,ai,aI,aC,av,dI,go_sem]);first|refine aU ?_ ?_ rfl ?_|apply aV|apply aW|(refine aX (fun hc=>?_) fun hc=>?_<;>first|(cases hc;done)|(exfalso;(simp at hc<;>omega))|(try simp only[bn]at hc;try contradiction))|skip))
    all_goals exact⟨⟨trivial,by simp⟩,_,rfl⟩
   |cons t0 tr =>
    repeat' (first|((with_reducible show aG _);first|exact True.intro|(simp only[vb,lb,e1,f1,h1,h1',h2,h3,dI,av];and_intros<;>first|omega|(simp<;>omega)))|((with_reducible show aM _);first|exact True.intro|((try dsimp only[go_sem]);(simp[vb,e1,f1,h1,h1',h2,h3,dI,av]<;>omega)))|exact(rfl:some _=_)|((fail_if_success refine aT ?_);refine br [ξ 99 (.agg [.sl (tr.length+1) ((t0::tr).flatMap j5),.int .i64 bd]),ξ 102 (.bool true),ξ 106 (.bool false)] ?_;(repeat1' dsimp only[qg,ax,ai,aI,aC,av,dI,go_sem]);first|refine aU ?_ ?_ rfl ?_|apply aV|apply aW|(refine aX (fun hc=>?_) fun hc=>?_<;>first|(cases hc;done)|(exfalso;(simp at hc<;>omega))|(try simp only[bn]at hc;try contradiction))|skip))
    all_goals exact⟨⟨trivial,by simp⟩,_,rfl⟩
  ·obtain⟨c,rfl⟩:∃c:Nat,cl=c:=⟨cl.toNat,by omega⟩
   have hcb:c<b.length:=by omega
   rw[if_neg h3];simp only[dd,cj,aw,bq,Int.toNat_natCast];have hti:=hti c;have e5:=fun lo hi=>ta b c lo hi hcb
   have e6:=n9 b c;generalize dS q b c=y at *;unfold av at hti;refine bo (C:=ctx) (Fn.of sJ rfl) rfl (by simp) rfl (by simp[aP,ck]) ?_;unfold qg;refine br [ξ 85 (.bool false),ξ 92 (.bool false),ξ 99 (.agg [.sl q.terms.length (q.terms.flatMap j5),.int .i64 q.bound]),ξ 102 (.bool false),(123,{val:=some (.pv (.agg [.int .i64 y.lo,.int .i64 y.hi])),args:=some [.agg [.sl q.terms.length (q.terms.flatMap j5),.int .i64 q.bound],ai b,.int .i64 c]})] ?_
   dsimp only[ax,ai,aI,aC,av,go_sem];try dsimp only[ax,ai,aI,aC,av,go_sem]
   refine⟨(by first|exact True.intro|(simp only[vb,lb];omega)|(simp only[vb,lb,e1,f1,f2,h1,h1',h2,h3,hcb,dI,av];and_intros<;>first|omega|(simp<;>omega))|(simp[vb,e1,f1,f2,h1,h1',h2,h3,hcb,dI,av]<;>omega)),(by first|exact True.intro|((try dsimp only[go_sem]);first|(simp[vb,e1,f1,f2,h1,h1',h2,h3,hcb,dI,av]<;>omega)|(simp only[vb,and_true,true_implies];(repeat' (first|(with_reducible assumption)|(with_reducible apply And.intro)|intro _|((fail_if_success (with_reducible show(_:Int)≤_));assumption)))<;>first|omega|rfl|(simp only[ab,e1,f1,f2,h1,h1',h2,h3,hcb,dI,av];done)|(simp[Nat.mul_one,e1,f1,f2,h1,h1',h2,h3,hcb,dI,av]<;>omega)|(simp_all;done)))),?_⟩
   iterate 5 first
    |refine⟨fun h=>by simp at h<;>omega,fun _=>?_⟩
    |refine⟨by simp[vb,e1,f1,f2,h1,h1',h2,h3,hcb,dI,av]<;>omega,by simp[vb,e1,f1,f2,h1,h1',h2,h3,hcb,dI,av]<;>omega,?_⟩
    |(refine br [ξ 85 (.bool false),ξ 92 (.bool false),ξ 99 (.agg [.sl q.terms.length (q.terms.flatMap j5),.int .i64 q.bound]),ξ 102 (.bool false),(123,{val:=some (.pv (.agg [.int .i64 y.lo,.int .i64 y.hi])),args:=some [.agg [.sl q.terms.length (q.terms.flatMap j5),.int .i64 q.bound],ai b,.int .i64 c]})] ?_;iterate 2 (try dsimp only[ax,ai,aI,aC,av,go_sem]))
   refine br [ξ 85 (.bool false),ξ 92 (.bool false),ξ 99 (.agg [.sl q.terms.length (q.terms.flatMap j5),.int .i64 q.bound]),ξ 102 (.bool false),(123,{val:=some (.pv (.agg [.int .i64 y.lo,.int .i64 y.hi])),args:=some [.agg [.sl q.terms.length (q.terms.flatMap j5),.int .i64 q.bound],ai b,.int .i64 c]})] ?_;dsimp only[ax,ai,aI,aC,av,go_sem];try dsimp only[ax,ai,aI,aC,av,go_sem]
   refine⟨(by first|exact True.intro|(simp only[vb,lb];omega)|(simp only[vb,lb,e1,f1,f2,h1,h1',h2,h3,hcb,dI,av];and_intros<;>first|omega|(simp<;>omega))|(simp[vb,e1,f1,f2,h1,h1',h2,h3,hcb,dI,av]<;>omega)),(by first|exact True.intro|((try dsimp only[go_sem]);first|(simp[vb,e1,f1,f2,h1,h1',h2,h3,hcb,dI,av]<;>omega)|(simp only[vb,and_true,true_implies];(repeat' (first|(with_reducible assumption)|(with_reducible apply And.intro)|intro _|((fail_if_success (with_reducible show(_:Int)≤_));assumption)))<;>first|omega|rfl|(simp only[ab,e1,f1,f2,h1,h1',h2,h3,hcb,dI,av];done)|(simp[Nat.mul_one,e1,f1,f2,h1,h1',h2,h3,hcb,dI,av]<;>omega)|(simp_all;done)))),?_⟩
   refine br [ξ 85 (.bool false),ξ 92 (.bool false),ξ 99 (.agg [.sl q.terms.length (q.terms.flatMap j5),.int .i64 q.bound]),ξ 102 (.bool false),(123,{val:=some (.pv (.agg [.int .i64 y.lo,.int .i64 y.hi])),args:=some [.agg [.sl q.terms.length (q.terms.flatMap j5),.int .i64 q.bound],ai b,.int .i64 c]})] ?_;dsimp only[ax,ai,aI,aC,av,go_sem];refine⟨fun h=>by simp at h<;>omega,fun _=>?_⟩
   refine br [ξ 85 (.bool false),ξ 92 (.bool false),ξ 99 (.agg [.sl q.terms.length (q.terms.flatMap j5),.int .i64 q.bound]),ξ 102 (.bool false),(123,{val:=some (.pv (.agg [.int .i64 y.lo,.int .i64 y.hi])),args:=some [.agg [.sl q.terms.length (q.terms.flatMap j5),.int .i64 q.bound],ai b,.int .i64 c]})] ?_;dsimp only[ax,ai,aI,aC,av,go_sem]
   refine br [ξ 85 (.bool false),ξ 92 (.bool false),ξ 99 (.agg [.sl q.terms.length (q.terms.flatMap j5),.int .i64 q.bound]),ξ 102 (.bool false),(123,{val:=some (.pv (.agg [.int .i64 y.lo,.int .i64 y.hi])),args:=some [.agg [.sl q.terms.length (q.terms.flatMap j5),.int .i64 q.bound],ai b,.int .i64 c]})] ?_;dsimp only[ax,ai,aI,aC,av,go_sem];try dsimp only[ax,ai,aI,aC,av,go_sem]
   refine⟨(by first|exact True.intro|(simp only[vb,lb];omega)|(simp only[vb,lb,e1,f1,f2,h1,h1',h2,h3,hcb,dI,av];and_intros<;>first|omega|(simp<;>omega))|(simp[vb,e1,f1,f2,h1,h1',h2,h3,hcb,dI,av]<;>omega)),(by first|exact True.intro|((try dsimp only[go_sem]);first|(simp[vb,e1,f1,f2,h1,h1',h2,h3,hcb,dI,av]<;>omega)|(simp only[vb,and_true,true_implies];(repeat' (first|(with_reducible assumption)|(with_reducible apply And.intro)|intro _|((fail_if_success (with_reducible show(_:Int)≤_));assumption)))<;>first|omega|rfl|(simp only[ab,e1,f1,f2,h1,h1',h2,h3,hcb,dI,av];done)|(simp[Nat.mul_one,e1,f1,f2,h1,h1',h2,h3,hcb,dI,av]<;>omega)|(simp_all;done)))),?_⟩
   iterate 5 first
    |refine⟨fun h=>by simp at h<;>omega,fun _=>?_⟩
    |refine⟨by simp[vb,e1,f1,f2,h1,h1',h2,h3,hcb,dI,av]<;>omega,by simp[vb,e1,f1,f2,h1,h1',h2,h3,hcb,dI,av]<;>omega,?_⟩
    |(refine br [ξ 85 (.bool false),ξ 92 (.bool false),ξ 99 (.agg [.sl q.terms.length (q.terms.flatMap j5),.int .i64 q.bound]),ξ 102 (.bool false),(123,{val:=some (.pv (.agg [.int .i64 y.lo,.int .i64 y.hi])),args:=some [.agg [.sl q.terms.length (q.terms.flatMap j5),.int .i64 q.bound],ai b,.int .i64 c]})] ?_;iterate 2 (try dsimp only[ax,ai,aI,aC,av,go_sem]))
   refine bJ (kN (T:=[]) (H:=[ξ 85 (.bool false),ξ 92 (.bool false),ξ 99 (.agg [.sl q.terms.length (q.terms.flatMap j5),.int .i64 q.bound]),ξ 102 (.bool false),(123,{val:=some (.pv (.agg [.int .i64 y.lo,.int .i64 y.hi])),args:=some [.agg [.sl q.terms.length (q.terms.flatMap j5),.int .i64 q.bound],ai b,.int .i64 c]})]) (by rfl) ?_);dsimp only[c6,ax,ai,aI,aC,av,go_sem];try dsimp only[ax,ai,aI,aC,av,go_sem]
   refine⟨(by first|exact True.intro|(simp only[vb,lb];omega)|(simp only[vb,lb,e1,f1,f2,h1,h1',h2,h3,hcb,dI,av];and_intros<;>first|omega|(simp<;>omega))|(simp[vb,e1,f1,f2,h1,h1',h2,h3,hcb,dI,av]<;>omega)),?_,?_⟩
   ·rw[hth1,cond_true,hth2];exact⟨rfl,hti,trivial⟩
   rw[show((((b.flatMap fW).map AV.pv).set (0+(c:Int).toNat*2) (.pv (.int .i64 y.lo))).set (0+(c:Int).toNat*2+1) (.pv (.int .i64 y.hi)))=((b.set c ⟨y.lo,y.hi⟩).flatMap fW).map AV.pv from by rw[←e5];simp];have e7:=zx (b.set c y) c (by simpa using hcb);have e8:=zu (b.set c y) c (by simpa using hcb);have e9:=bN (b.set c y);rw[e6 _ hcb]at e7 e8;rw[List.length_set]at e9;rw[show(⟨y.lo,y.hi⟩:Rg)=y from rfl];clear e5 e6;generalize b.set c y=b2 at *;repeat' (first|((with_reducible show aG _);(simp only[vb,lb,e7,e8,e9,hcb];and_intros<;>first|omega|(simp<;>omega)))|((with_reducible show aM _);((try dsimp only[go_sem]);(simp only[vb,and_true,true_implies];(repeat' (first|(with_reducible assumption)|(with_reducible apply And.intro)|intro _|((fail_if_success (with_reducible show(_:Int)≤_));assumption)))<;>(simp only[ab,e7,e8,e9,hcb];done))))|exact(rfl:some _=_)|((fail_if_success refine aT ?_);refine br [ξ 131 (.int .i64 y.lo),ξ 138 (.int .i64 y.hi)] ?_;(repeat1' dsimp only[qg,go_sem]);first|refine aU ?_ ?_ rfl ?_|apply aV|apply aW|(refine aX (fun hc=>?_) fun hc=>?_<;>first|(cases hc;done)|(try simp only[bn]at hc;try contradiction))|skip))
   exact⟨⟨trivial,rfl⟩,_,rfl⟩
 ·rw[if_neg h1];simp only[dd,cj,aw,bq];refine bo (C:=ctx) (Fn.of sJ rfl) rfl (by simp) rfl (by simp[aP,ck]) ?_;unfold qg;by_cases h2:(i:Int)<rows.length
  ·repeat' (first|((with_reducible show aG _);first|exact True.intro|(simp only[vb,lb,h1,h2];and_intros<;>first|omega|(simp<;>omega)))|((with_reducible show aM _);first|exact True.intro|((try dsimp only[go_sem]);(simp[vb,h1,h2]<;>omega)))|exact(rfl:some _=_)|((fail_if_success refine aT ?_);refine br [ξ 85 (.bool false),ξ 92 (.bool true)] ?_;(repeat1' dsimp only[qg,ax,ai,aI,aC,go_sem]);first|refine aU ?_ ?_ rfl ?_|apply aV|apply aW|(refine aX (fun hc=>?_) fun hc=>?_<;>first|(cases hc;done)|(try simp only[bn]at hc;try contradiction))|skip))
   all_goals exact⟨⟨trivial,rfl⟩,_,rfl⟩
  ·repeat' (first|((with_reducible show aG _);first|exact True.intro|(simp only[vb,lb,h2];and_intros<;>first|omega|(simp<;>omega)))|((with_reducible show aM _);first|exact True.intro|((try dsimp only[go_sem]);(simp[vb,h2]<;>omega)))|exact(rfl:some _=_)|((fail_if_success refine aT ?_);refine br [ξ 85 (.bool true)] ?_;(repeat1' dsimp only[qg,ax,ai,aI,aC,go_sem]);first|refine aU ?_ ?_ rfl ?_|apply aV|apply aW|(refine aX (fun hc=>?_) fun hc=>?_<;>first|(cases hc;done)|(try simp only[bn]at hc;try contradiction))|skip))
   all_goals exact⟨⟨trivial,rfl⟩,_,rfl⟩
theorem FH (s:Sy) (rows:List Rw) (b:List Rg) (g:Nat) (ch:Bool) (x:aS) (hx:bk x=true) (hs:∀q∈s.graphs,bH b.length q=true) (hg:s.graphs.length≤1000000000) (hr:rows.length≤1000000000) (hrt:∀r∈rows,r.terms.length≤1000000000) (hb:b.length≤1000000000) :
  aN ctx 78 [.agg (dd s rows (.ref 0 g 0 b.length) ch),.pv (cj x)] [bq b g] (.pv (.tup [.bool (b8 s rows b x).2.1,.bool (b8 s rows b x).2.2])) [bq (b8 s rows b x).1 g]:=by
 have hx':=hx;simp only[bk,aL,Bool.and_eq_true,decide_eq_true_eq]at hx';by_cases hk:x.kind=1
 ·exact zy s rows b g ch x hx hk hs hg hb
 ·exact DY s rows b g ch x hx (by omega) hr hrt hb
end
section
open Rf
theorem zz:aj ctx 77 [.sl 0 []] (.sl 0 []):=by
 refine af (C:=ctx) (Fn.of E0 rfl) rfl ?_;unfold HU;refine aZ ?_;dsimp only[go_sem];try dsimp only[go_sem]
 refine⟨(by simp[vb]<;>omega),(by simp[vb]<;>omega),?_⟩;refine yy 0 rfl ?_ fun ad c=>?_
 ·iterate 6 first
   |refine⟨fun _=>?_,fun h=>by simp at h<;>omega⟩
   |refine⟨by simp[vb]<;>omega,by simp[vb]<;>omega,?_⟩
   |(refine aZ ?_;iterate 2 (try dsimp only[go_sem]))
  refine Cs 2 CW.nil ?_;refine aZ ?_;dsimp only[go_sem];exact⟨(by first|exact True.intro|(simp only[vb,lb];omega)|(simp[vb]<;>omega)),rfl⟩
 ·iterate 7 first
   |refine⟨fun h=>by simp at h<;>omega,fun _=>?_⟩
   |refine⟨by simp[vb]<;>omega,by simp[vb]<;>omega,?_⟩
   |(refine br [(7,{mode:=2})] ?_;iterate 2 (try dsimp only[go_sem]))
  refine aZ ?_;dsimp only[go_sem];exact⟨(by first|exact True.intro|(simp only[vb,lb];omega)|(simp[vb]<;>omega)),rfl⟩
theorem FI (k:Nat) (cells:List PV) (hk:k≤1000000000) (hc:cells.length=(k+1)*2):aN ctx 77 [.pv (.sl (k+1) cells)] [] (.ref 0 1 0 (k+1)) [⟨cells.map .pv,1,2,57,false⟩]:=by
 refine bo (C:=ctx) (Fn.of E0 rfl) rfl (by simp) rfl (by simp[aP,ck]) ?_;unfold HU;iterate 9 first
  |refine⟨fun h=>by simp at h<;>omega,fun _=>?_⟩
  |refine⟨by simp[vb]<;>omega,by simp[vb]<;>omega,?_⟩
  |(refine br [(7,{mode:=1})] ?_;iterate 2 (try dsimp only[go_sem]))
 refine aZ ?_;dsimp only[go_sem];exact⟨⟨trivial,by simp⟩,[],rfl⟩
theorem tc {cs:List PV} {g z:Nat} {e:TypeId} {f:Bool} (aD:List Nat) (n:Nat):r9 aD n ⟨cs.map .pv,g,z,e,f⟩=⟨cs.map .pv,g,z,e,f⟩:=by
 simp[r9,pS,Function.comp_def]
theorem Hp (b:List Rg) (h0:b≠[]) (hl:b.length≤1000000000) (μ:AM):aN ctx 77 [.pv (.sl b.length (b.flatMap fW))] μ (.ref μ.length 1 0 b.length) (μ++[bq b 1]):=by
 obtain⟨k,hk⟩:∃k,b.length=k+1:=⟨b.length-1,by have:=List.length_pos_iff.mpr h0;omega⟩
 have f:=bN b;unfold bq;rw[hk]at f ⊢;generalize b.flatMap fW=cs at *;have h:=FI k cs (by omega) f;have:=h.frame [] μ (by simp) (by simp) trivial rfl (by simp[ck]) (by simp);simpa [pS,o9,xY,tc]using this
theorem DZ (b:List Rg) (g:Nat) (h0:0<b.length) (hl:b.length≤1000000000):aN ctx 77 [.ref 0 g 0 b.length] [bq b g] (.ref 1 1 0 b.length) [bq b g,bq b 1]:=by
 have f:=bN b;refine bo (C:=ctx) (Fn.of E0 rfl) rfl (by simp) rfl (by simp[aP,ck,bq]) ?_;unfold HU;unfold bq;iterate 7 first
  |refine⟨fun h=>by simp at h<;>omega,fun _=>?_⟩
  |refine⟨by simp[vb,f,h0]<;>omega,by simp[vb,f,h0]<;>omega,?_⟩
  |(refine br [(7,{mode:=1})] ?_;iterate 2 (try dsimp only[go_sem]))
 refine br [(7,{mode:=1})] ?_;dsimp only[go_sem];try dsimp only[go_sem]
 refine⟨(by first|exact True.intro|(simp only[vb,lb];omega)|(simp only[vb,lb,f,h0];and_intros<;>first|omega|(simp<;>omega))|(simp[vb,f,h0]<;>omega)),(by first|exact True.intro|((try dsimp only[go_sem]);first|(simp[vb,f,h0]<;>omega)|(simp only[vb,and_true,true_implies];(repeat' (first|(with_reducible assumption)|(with_reducible apply And.intro)|intro _|((fail_if_success (with_reducible show(_:Int)≤_));assumption)))<;>first|omega|rfl|(simp only[ab,f,h0];done)|(simp[Nat.mul_one,f,h0]<;>omega)|(simp_all;done)))),?_⟩;refine aZ ?_;dsimp only[go_sem]
 exact⟨⟨by simp[vb],by simp⟩,[],by simp[f,List.take_of_length_le]⟩
theorem D0 (b:List Rg) (g:Nat) (h0:0<b.length) (hl:b.length≤1000000000) (μ:AM) (j:Nat) (hj:μ[j]?=some (bq b g)):aN ctx 77 [.ref j g 0 b.length] μ (.ref μ.length 1 0 b.length) (μ++[bq b 1]):=by
 have hlt:=(List.getElem?_eq_some_iff.mp hj).1;have h:=(DZ b g h0 hl).frame [j] μ (by simp) (by simpa using hlt) ⟨by rw[bq,tc];exact hj,trivial⟩ (by simp[aP,bq,ck]) (by simp[ck,Nat.blt]) (by simp);have h2:μ.set j (bq b g)=μ:=by
  refine List.ext_getElem? fun i=>?_
  by_cases hi:j=i
  ·subst hi;rw[List.getElem?_set_self hlt,hj]
  ·rw[List.getElem?_set_ne hi]
 simp only[bq]at h2 ⊢ h;simpa [pS,o9,xY,tc,h2]using h
theorem D1 (s:Sy) (rows:List Rw) (ch:Bool) (x:aS) (hx:bk x=true) (hs:∀q∈s.graphs,bH 0 q=true) (hr:rows.length≤1000000000) :
  aj ctx 78 [.agg [ai s.box,ax s.rows,aI s.graphs,aC s.cases,ax rows,.sl 0 [],.bool ch],cj x] (.tup [.bool (b8 s rows [] x).2.1,.bool (b8 s rows [] x).2.2])∧(b8 s rows [] x).1=[]:=by
 simp only[bk,aL,Bool.and_eq_true,decide_eq_true_eq]at hx;obtain⟨⟨⟨k1,k2⟩,x1,x2⟩,x3,x4⟩:=hx;have x5: -1≤x.cell:=by split at x3<;>omega
 obtain⟨i,hi⟩:∃i:Nat,x.index=i:=⟨x.index.toNat,by omega⟩
 obtain⟨kd,ix,cl⟩:=x;simp only at *;subst hi;have hgn:s.graphs=[]:=by
  cases hg:s.graphs with
  |nil=>rfl
  |cons q r =>
   have:=hs q (by rw[hg];simp);simp only[bH,aL,Bool.and_eq_true,decide_eq_true_eq]at this;have h2:=n3 this.1.1.1.1.1 this.1.1.1.1.2;omega
 refine⟨?_,List.eq_nil_of_length_eq_zero (by rw[p9];rfl)⟩;unfold b8;rw[hgn];by_cases hk:kd=1
 ·subst hk;rw[if_pos rfl];simp only[List.length_nil];rw[if_neg (by omega)];refine af (C:=ctx) (Fn.of sJ rfl) rfl ?_;unfold qg;repeat' (first|((with_reducible show aG _);first|exact True.intro|(simp[vb]<;>omega))|((with_reducible show aM _);exact True.intro)|exact(rfl:some _=_)|((fail_if_success refine aT ?_);refine aZ ?_;(repeat1' dsimp only[qg,cj,aw,aI,ai,ax,aC,go_sem]);first|refine aU ?_ ?_ rfl ?_|apply aV|apply aW|(refine aX (fun hc=>?_) fun hc=>?_<;>first|(cases hc;done)|(try simp only[bn]at hc;try contradiction))|skip))
 ·obtain rfl:kd=0:=by omega
  rw[if_neg hk];dsimp only;rw[Int.toNat_natCast];by_cases h1:(i:Int)<rows.length∧cl<([]:List Rg).length
  ·have h3:cl<0:=by simpa using h1.2
   rw[if_pos h1,if_pos h3];have h1':i<rows.length:=by omega
   have e1:=bM kQ rows i zw h1';have f1:=fL rows;generalize rows.getD i zw=q at *;obtain⟨ts,bd⟩:=q;simp only at *;refine af (C:=ctx) (Fn.of sJ rfl) rfl ?_;unfold qg;obtain⟨h1a,h1b⟩:=h1;cases ts with
   |nil =>
    repeat' (first|((with_reducible show aG _);first|exact True.intro|(simp only[vb,lb,e1,f1,h1a,h1',h3,dI,av];and_intros<;>first|omega|(simp<;>omega)))|((with_reducible show aM _);first|exact True.intro|((try dsimp only[go_sem]);(simp[vb,e1,f1,h1a,h1',h3,dI,av]<;>omega)))|exact(rfl:some _=_)|((fail_if_success refine aT ?_);refine br [ξ 99 (.agg [.sl 0 [],.int .i64 bd]),ξ 102 (.bool true)] ?_;(repeat1' dsimp only[qg,cj,aw,ax,ai,aI,aC,av,dI,go_sem]);first|refine aU ?_ ?_ rfl ?_|apply aV|apply aW|(refine aX (fun hc=>?_) fun hc=>?_<;>first|(cases hc;done)|(exfalso;(simp at hc<;>omega))|(try simp only[bn]at hc;try contradiction))|skip))
    all_goals simp
   |cons t0 tr =>
    repeat' (first|((with_reducible show aG _);first|exact True.intro|(simp only[vb,lb,e1,f1,h1a,h1',h3,dI,av];and_intros<;>first|omega|(simp<;>omega)))|((with_reducible show aM _);first|exact True.intro|((try dsimp only[go_sem]);(simp[vb,e1,f1,h1a,h1',h3,dI,av]<;>omega)))|exact(rfl:some _=_)|((fail_if_success refine aT ?_);refine br [ξ 99 (.agg [.sl (tr.length+1) ((t0::tr).flatMap j5),.int .i64 bd]),ξ 102 (.bool true),ξ 106 (.bool false)] ?_;(repeat1' dsimp only[qg,cj,aw,ax,ai,aI,aC,av,dI,go_sem]);first|refine aU ?_ ?_ rfl ?_|apply aV|apply aW|(refine aX (fun hc=>?_) fun hc=>?_<;>first|(cases hc;done)|(exfalso;(simp at hc<;>omega))|(try simp only[bn]at hc;try contradiction))|skip))
    all_goals simp
  ·rw[if_neg h1];refine af (C:=ctx) (Fn.of sJ rfl) rfl ?_;unfold qg;by_cases h2:(i:Int)<rows.length
   ·have h3:¬cl<0:=fun h=>h1 ⟨h2,by simpa using h⟩
    repeat' (first|((with_reducible show aG _);first|exact True.intro|(simp only[vb,lb,h2,h3];and_intros<;>first|omega|(simp<;>omega)))|((with_reducible show aM _);first|exact True.intro|((try dsimp only[go_sem]);(simp[vb,h2,h3]<;>omega)))|exact(rfl:some _=_)|((fail_if_success refine aT ?_);refine br [ξ 85 (.bool false),ξ 92 (.bool true)] ?_;(repeat1' dsimp only[qg,cj,aw,ax,ai,aI,aC,go_sem]);first|refine aU ?_ ?_ rfl ?_|apply aV|apply aW|(refine aX (fun hc=>?_) fun hc=>?_<;>first|(cases hc;done)|(try simp only[bn]at hc;try contradiction))|skip))
   ·repeat' (first|((with_reducible show aG _);first|exact True.intro|(simp only[vb,lb,h2];and_intros<;>first|omega|(simp<;>omega)))|((with_reducible show aM _);first|exact True.intro|((try dsimp only[go_sem]);(simp[vb,h2]<;>omega)))|exact(rfl:some _=_)|((fail_if_success refine aT ?_);refine br [ξ 85 (.bool true)] ?_;(repeat1' dsimp only[qg,cj,aw,ax,ai,aI,aC,go_sem]);first|refine aU ?_ ?_ rfl ?_|apply aV|apply aW|(refine aX (fun hc=>?_) fun hc=>?_<;>first|(cases hc;done)|(try simp only[bn]at hc;try contradiction))|skip))
end
section
open Rf
def Gp:Nat→Bool:=fun d=>Nat.beq d 59||Nat.beq d 62
def FJ:ay:=(⟨_,by conv=>(lhs;reduce;try simp only[cJ,Int.cast_ofNat_Int,Int.reduceNegSucc,UInt8.reduceOfNat])⟩:{x // codeOf Tryz.prog 47 Gp=some x}).1
theorem D2:bp Tryz.prog 47 Gp=some (FJ,[.t 4],144,true):=by kernel_rfl
def dD (s:Sy) (rows:List Rw) (bx:AV) (ch:Bool):dT:=⟨dd s rows bx ch,0,7,73,false⟩
theorem FK (s:Sy) (rows:List Rw) (b:List Rg) (g:Nat) (ch:Bool) (x:aS) (hx:bk x=true) (hs:∀q∈s.graphs,bH b.length q=true) (hg:s.graphs.length≤1000000000) (hr:rows.length≤1000000000) (hrt:∀r∈rows,r.terms.length≤1000000000) (hb:b.length≤1000000000)
  (μ:AM) (j:Nat) (hj:μ[j]?=some (bq b g)) :
  aN ctx 78 [.agg (dd s rows (.ref j g 0 b.length) ch),.pv (cj x)] μ (.pv (.tup [.bool (b8 s rows b x).2.1,.bool (b8 s rows b x).2.2])) (μ.set j (bq (b8 s rows b x).1 g)):=by
 have hlt:=(List.getElem?_eq_some_iff.mp hj).1;have h:=(FH s rows b g ch x hx hs hg hr hrt hb).frame [j] μ (by simp) (by simpa using hlt) ⟨by rw[bq,tc];exact hj,trivial⟩ (by simp[aP,bq,ck]) (by simp[ck,Nat.blt,dd]) (by simp);generalize b8 s rows b x=q at *;simp only[bq]at h ⊢;simpa [pS,o9,xY,tc,dd]using h
structure uI (s:Sy):Prop where
 g:s.graphs.length≤1000000000
 c:s.cases.length≤1000000
 l:∀l∈s.cases,l.length≤1000∧∀r∈l,r.terms.length≤1000000000
def mr (ch:Bool):Nat:=bif ch then 1001000 else 1000000
theorem zA (s:Sy) (hs:uI s):∀(t:Tree),cT t=true→wt t≤1000000000→∀(rows:List Rw) (b:List Rg) (ch:Bool),rows.length≤mr ch→(∀r∈rows,r.terms.length≤1000000000)→b.length≤1000000000→(∀q∈s.graphs,bH b.length q=true) →
  aj ctx 47 [.agg [ai s.box,ax s.rows,aI s.graphs,aC s.cases,ax rows,ai b,.bool ch],aA t] (.bool (bf s t rows b ch)):=by
 refine Tree.ind fun kd st c a l ih hf hw rows b ch hr hrt hb hgo=>?_
 rw[bE]at hw;have hl:=dR l;rw[cD]at hf;simp only[Bool.and_eq_true]at hf;obtain⟨⟨hf1,hf2⟩,hf3⟩:=hf;have hE:=xC b hb;have hr':rows.length≤1001000:=by unfold mr at hr;cases ch<;>simp at hr<;>omega
 rw[pf];have f1:=cR st;have f2:=bN b;generalize dt b=eb at *;cases eb with
 |true =>
  simp only[if_true];unfold ai at hE;refine af (C:=ctx) (Fn.of D2 rfl) rfl ?_;unfold FJ;repeat' (first|((with_reducible show aG _);first|exact True.intro|(simp only[vb,lb,hE];and_intros<;>first|omega|(simp<;>omega)))|((with_reducible show aM _);first|exact True.intro|((try dsimp only[go_sem]);(simp[vb,hE]<;>omega)))|exact(rfl:some _=_)|((fail_if_success refine aT ?_);refine fu [(72,fun _=>some (.bool true))] ?_;(repeat1' dsimp only[qf,aA,Tree.kind,Tree.steps,Tree.cell,Tree.pos,Tree.kids,aa,ah,ai,ax,aI,aC,go_sem]);first|refine aU ?_ ?_ rfl ?_|apply aV|apply aW|(refine aX (fun hc=>?_) fun hc=>?_<;>first|(cases hc;done)|(try simp only[bn]at hc;try contradiction))|skip))
 |false =>
  simp only[Bool.false_eq_true,if_false];by_cases h0:b=[]
  ·subst h0;have hcn:=zz;have hE:aj ctx 72 [.sl 0 []] (.bool false):=hE;refine af (C:=ctx) (Fn.of D2 rfl) rfl ?_;unfold FJ;repeat' (first|((with_reducible show aG _);first|exact True.intro|(simp only[vb,lb,hE,hcn];and_intros<;>first|omega|(simp<;>omega)))|((with_reducible show aM _);first|exact True.intro|((try dsimp only[go_sem]);(simp[vb,hE,hcn]<;>omega)))|exact(rfl:some _=_)|((fail_if_success refine aT ?_);refine fu [(72,fun _=>some (.bool false)),(77,fun _=>some (.sl 0 []))] ?_;(repeat1' dsimp only[qf,aA,dD,dd,ae,Tree.kind,Tree.steps,Tree.cell,Tree.pos,Tree.kids,aa,ah,ai,ax,aI,aC,go_sem]);first|refine aU ?_ ?_ rfl ?_|apply aV|apply aW|(refine aX (fun hc=>?_) fun hc=>?_<;>first|(cases hc;done)|(try simp only[bn]at hc;try contradiction))|skip))
   refine cC (σ:=Nat) (fun q=>q≤st.length∧eP s rows (st.drop q) []=eP s rows st [])
    (fun q=>[(2,.ptr 0 0 0),(3,.ptr 1 0 0),(23,.pv (aa st)),(24,.pv (.int .i64 st.length)),(25,.pv (.int .i64 q))])
    (fun q=>[dD s rows (.pv (.sl 0 [])) ch,ae (.node kd st c a l)]) (fun q=>st.length-q) 0 ⟨Nat.zero_le _,rfl⟩ (by (repeat' (first|exact trivial|refine And.intro (by first|rfl|(simp[get,Nat.beq]<;>omega)|(dsimp only[get];congr 1<;>first|rfl|omega|(simp<;>omega))) ?_))) ⟨[],rfl⟩ (fun _ _=>⟨Nat.zero_le _,rfl,by simp[aP,dD,dd,ae,ck]⟩) fun k hq=>?_
   obtain⟨p1,p3⟩:=hq;by_cases hlt:k<st.length
   ·have e:=bM bu st k zs hlt;have hx:=List.all_eq_true.mp hf1 _ (aO (d:=zs) hlt);rw[da st k zs hlt,eP]at p3;generalize st.getD k zs=x at *;obtain⟨hst,hb2⟩:=D1 s rows ch x hx hgo (by omega);generalize b8 s rows [] x=q at *;obtain⟨b2,pp,cc⟩:=q;simp only at hst hb2 p3;subst hb2;unfold cj ai ax aI aC at hst;simp only[aw]at hst;rw[←p3];cases cc with
    |true =>
     simp only[if_true];repeat' (first|((with_reducible show aG _);first|exact True.intro|(simp only[vb,lb,e,f1,hlt,aw,hst];and_intros<;>first|omega|(simp<;>omega)))|((with_reducible show aM _);first|exact True.intro|((try dsimp only[go_sem]);(simp[vb,e,f1,hlt,aw,hst]<;>omega)))|exact(rfl:some _=_)|((fail_if_success refine aT ?_);refine bX [(78,fun _=>some (.tup [.bool pp,.bool true]))] [ξ 28 (.agg [.int .i64 x.kind,.int .i64 x.index,.int .i64 x.cell])] ?_;(repeat1' dsimp only[qf,dD,dd,ae,Tree.kind,Tree.steps,Tree.cell,Tree.pos,Tree.kids,aa,ah,ai,ax,aI,aC,go_sem]);first|refine aU ?_ ?_ rfl ?_|apply aV|apply aW|(refine aX (fun hc=>?_) fun hc=>?_<;>first|(cases hc;done)|(exfalso;(simp at hc<;>omega))|(try simp only[bn]at hc;try contradiction))|skip))
    |false =>
     simp only[Bool.false_eq_true,if_false];cases pp with
     |false =>
      simp only[Bool.false_eq_true,if_false];repeat' (first|((with_reducible show aG _);first|exact True.intro|(simp only[vb,lb,e,f1,hlt,aw,hst];and_intros<;>first|omega|(simp<;>omega)))|((with_reducible show aM _);first|exact True.intro|((try dsimp only[go_sem]);(simp[vb,e,f1,hlt,aw,hst]<;>omega)))|exact(rfl:some _=_)|((fail_if_success refine aT ?_);refine bX [(78,fun _=>some (.tup [.bool false,.bool false]))] [ξ 28 (.agg [.int .i64 x.kind,.int .i64 x.index,.int .i64 x.cell])] ?_;(repeat1' dsimp only[qf,dD,dd,ae,Tree.kind,Tree.steps,Tree.cell,Tree.pos,Tree.kids,aa,ah,ai,ax,aI,aC,go_sem]);first|refine aU ?_ ?_ rfl ?_|apply aV|apply aW|(refine aX (fun hc=>?_) fun hc=>?_<;>first|(cases hc;done)|(exfalso;(simp at hc<;>omega))|(try simp only[bn]at hc;try contradiction))|skip))
     |true =>
      simp only[if_true];repeat' (first|((with_reducible show aG _);first|exact True.intro|(simp only[vb,lb,e,f1,hlt,aw,hst];and_intros<;>first|omega|(simp<;>omega)))|((with_reducible show aM _);first|exact True.intro|((try dsimp only[go_sem]);(simp[vb,e,f1,hlt,aw,hst]<;>omega)))|exact(rfl:some _=_)|((fail_if_success refine aT ?_);refine bX [(78,fun _=>some (.tup [.bool true,.bool false]))] [ξ 28 (.agg [.int .i64 x.kind,.int .i64 x.index,.int .i64 x.cell])] ?_;(repeat1' dsimp only[qf,dD,dd,ae,Tree.kind,Tree.steps,Tree.cell,Tree.pos,Tree.kids,aa,ah,ai,ax,aI,aC,go_sem]);first|refine aU ?_ ?_ rfl ?_|apply aV|apply aW|(refine aX (fun hc=>?_) fun hc=>?_<;>first|(cases hc;done)|(exfalso;(simp at hc<;>omega))|(try simp only[bn]at hc;try contradiction))|skip))
      exact⟨k+1,by show st.length-(k+1)<st.length-k;omega,⟨by show k+1≤_;omega,rfl⟩,by (repeat' (first|exact trivial|refine And.intro (by first|rfl|(simp[get,Nat.beq]<;>omega)|(dsimp only[get];congr 1<;>first|rfl|omega|(simp<;>omega))) ?_)),_,rfl⟩
   ·obtain rfl:k=st.length:=by omega
    rw[List.drop_length,eP]at p3;rw[←p3];simp only;clear p3 hE hf1 hcn;have f3:=cL l;by_cases hk1:kd=1
    ·subst hk1;simp[bQ,aL]at hf2;obtain⟨⟨t1,t2,t3⟩,t4,t5⟩:=hf2;unfold nU;rw[if_pos rfl,if_neg (by simp;omega)];repeat' (first|((with_reducible show aG _);first|exact True.intro|(simp only[vb,lb,t2];and_intros<;>first|omega|(simp<;>omega)))|((with_reducible show aM _);exact True.intro)|exact(rfl:some _=_)|((fail_if_success refine aT ?_);refine aZ ?_;(repeat1' dsimp only[qf,dD,dd,ae,Tree.kind,Tree.steps,Tree.cell,Tree.pos,Tree.kids,aa,ah,ai,ax,aI,aC,go_sem]);first|refine aU ?_ ?_ rfl ?_|apply aV|apply aW|(refine aX (fun hc=>?_) fun hc=>?_<;>first|(cases hc;done)|(exfalso;(simp at hc<;>omega))|(try simp only[bn]at hc;try contradiction))|skip))
    ·by_cases hk2:kd=2
     ·subst hk2;simp[bQ]at hf2;obtain⟨⟨⟨t1,t2⟩,rfl⟩,rfl⟩:=hf2;have hcc:=hs.c;unfold nU;rw[if_neg (by decide),if_pos rfl,List.length_map];cases ch with
      |true =>
       repeat' (first|((with_reducible show aG _);first|exact True.intro|(simp only[vb,lb,hlt];and_intros<;>first|omega|(simp<;>omega)))|((with_reducible show aM _);first|exact True.intro|((try dsimp only[go_sem]);(simp[vb,hlt]<;>omega)))|exact(rfl:some _=_)|((fail_if_success refine aT ?_);refine br [ξ 107 (.bool true)] ?_;(repeat1' dsimp only[qf,dD,dd,ae,Tree.kind,Tree.steps,Tree.cell,Tree.pos,Tree.kids,aa,ah,ai,ax,aI,aC,go_sem]);first|refine aU ?_ ?_ rfl ?_|apply aV|apply aW|(refine aX (fun hc=>?_) fun hc=>?_<;>first|(cases hc;done)|(exfalso;(simp at hc<;>omega))|(try simp only[bn]at hc;try contradiction))|skip))
      |false =>
       by_cases hlc:l.length=s.cases.length
       ·rw[decide_eq_true hlc];simp only[Bool.not_false,Bool.true_and];generalize hres:np rows [] (l.map (bf s)) s.cases=res;repeat' (first|((with_reducible show aG _);first|exact True.intro|(simp only[vb,lb,hlt,hlc];and_intros<;>first|omega|(simp<;>omega)))|((with_reducible show aM _);first|exact True.intro|((try dsimp only[go_sem]);(simp[vb,hlt,hlc]<;>omega)))|exact(rfl:some _=_)|((fail_if_success refine aT ?_);refine br [ξ 107 (.bool false),ξ 116 (.bool false)] ?_;(repeat1' dsimp only[qf,dD,dd,ae,Tree.kind,Tree.steps,Tree.cell,Tree.pos,Tree.kids,aa,ah,ai,ax,aI,aC,go_sem]);first|refine aU ?_ ?_ rfl ?_|apply aV|apply aW|(refine aX (fun hc=>?_) fun hc=>?_<;>first|(cases hc;done)|(exfalso;(simp at hc<;>omega))|(try simp only[bn]at hc;try contradiction))|skip))
        refine cC (σ:=Nat) (fun k=>k≤l.length∧np rows [] ((l.map (bf s)).drop k) (s.cases.drop k)=res)
         (fun k=>[(2,.ptr 0 0 0),(3,.ptr 1 0 0),(119,.pv (ah l)),(120,.pv (.int .i64 l.length)),(121,.pv (.int .i64 k))])
         (fun k=>[dD s rows (.pv (.sl 0 [])) false,ae (.node 2 st 0 0 l)]) (fun k=>l.length-k) 0 ⟨Nat.zero_le _,hres⟩ (by (repeat' (first|exact trivial|refine And.intro (by first|rfl|(simp[get,Nat.beq]<;>omega)|(dsimp only[get];congr 1<;>first|rfl|omega|(simp<;>omega))) ?_))) ⟨[],rfl⟩ (fun _ _=>⟨Nat.zero_le _,rfl,by simp[aP,dD,dd,ae,ck]⟩) fun k hq=>?_
        obtain⟨q1,q2⟩:=hq;by_cases hlk:k<l.length
        ·have hkc:k<s.cases.length:=by omega
         have e:=cK l k hlk;have e2:=mq s.cases k hkc;have e3:=mf s.cases;have hcl:=hs.l _ (aO (d:=([]:List Rw)) hkc);have hmem:=aO (d:=zt) hlk;have hwk:=fw hmem;have hih:=ih _ hmem (List.all_eq_true.mp hf3 _ hmem) (by omega) (rows++s.cases.getD k []) [] true (by rw[List.length_append];unfold mr at hr ⊢;simp only[cond_true,cond_false]at hr ⊢;omega) (fun r hr=>by
          rcases List.mem_append.mp hr with h|h
          ·exact hrt r h
          ·exact hcl.2 r h) hb hgo
         have hcon:=uG [rows,s.cases.getD k []] (by simp) (by simp only[j6,List.map_cons,List.map_nil,List.sum_cons,List.sum_nil];omega);rw[show[rows,s.cases.getD k []].flatten=rows++s.cases.getD k [] by simp]at hcon;rw[da _ k (bf s zt) (by simpa using hlk),da s.cases k [] hkc,np]at q2;rw[show(l.map (bf s)).getD k (bf s zt)=bf s (l.getD k zt) by simp[List.getD]]at q2;generalize hrest:np rows [] ((l.map (bf s)).drop (k+1)) (s.cases.drop (k+1))=rest at *;generalize s.cases.getD k []=cs at *;generalize l.getD k zt=x at *
         generalize bf s x (rows++cs) [] true=qx at *;generalize rows++cs=rows2 at *;obtain⟨a0,a1,a2,a3,a4⟩:=x;simp only[aA,Tree.kind,Tree.steps,Tree.cell,Tree.pos,Tree.kids]at hih e;clear ih hres;have hcon:aj ctx 80 [.sl 2 [.sl rows.length (rows.flatMap dI),.sl cs.length (cs.flatMap dI)]] (.sl rows2.length (rows2.flatMap dI)):=hcon;unfold ai ax aI aC ah aa at hih;repeat' (first|((with_reducible show aG _);first|exact True.intro|(simp only[vb,lb,e,f3,hlk,e2,e3,hkc,hcon,ah,aa,hih];and_intros<;>first|omega|(simp<;>omega)))|((with_reducible show aM _);first|exact True.intro|((try dsimp only[go_sem]);first|(simp[vb,e,f3,hlk,e2,e3,hkc,hcon,ah,aa,hih]<;>omega)|(simp only[vb,and_true,true_implies];(repeat' (first|(with_reducible assumption)|(with_reducible apply And.intro)|intro _|((fail_if_success (with_reducible show(_:Int)≤_));assumption))))))|exact(rfl:some _=_)|((fail_if_success refine aT ?_);refine bX [(80,fun _=>some (.sl rows2.length (rows2.flatMap dI))),(47,fun _=>some (.bool qx))] [ξ 125 (.agg [.int .i64 a0,.sl a1.length (a1.flatMap aw),.int .i64 a2,.int .i64 a3,.sl a4.length (a4.flatMap cy)]),ξ 134 (.sl cs.length (cs.flatMap dI))] ?_;(repeat1' dsimp only[qf,dD,dd,ae,Tree.kind,Tree.steps,Tree.cell,Tree.pos,Tree.kids,aa,ah,ai,ax,aI,aC,go_sem]);first|refine aU ?_ ?_ rfl ?_|apply aV|apply aW|(refine aX (fun hc=>?_) fun hc=>?_<;>first|(cases hc;done)|(exfalso;(simp at hc<;>omega))|(try simp only[bn]at hc;try contradiction))|skip))
         ·rw[←q2,show qx=false by simpa using hc];rfl
         ·exact⟨k+1,by show l.length-(k+1)<l.length-k;omega,⟨by show k+1≤_;omega,by rw[←q2,show qx=true by simpa using hc];simpa using hrest⟩,by (repeat' (first|exact trivial|refine And.intro (by first|rfl|(simp[get,Nat.beq]<;>omega)|(dsimp only[get];congr 1<;>first|rfl|omega|(simp<;>omega))) ?_)),_,rfl⟩
        ·obtain rfl:k=l.length:=by omega
         rw[List.drop_of_length_le (by simp),np]at q2;subst q2;repeat' (first|((with_reducible show aG _);exact True.intro)|((with_reducible show aM _);exact True.intro)|exact(rfl:some _=_)|((fail_if_success refine aT ?_);refine aZ ?_;(repeat1' dsimp only[qf,dD,dd,ae,Tree.kind,Tree.steps,Tree.cell,Tree.pos,Tree.kids,aa,ah,ai,ax,aI,aC,go_sem]);first|refine aU ?_ ?_ rfl ?_|apply aV|apply aW|(refine aX (fun hc=>?_) fun hc=>?_<;>first|(cases hc;done)|(exfalso;(simp at hc<;>omega))|(try simp only[bn]at hc;try contradiction))|skip))
         all_goals (intro _ _ _ _ h;cases h)
       ·rw[decide_eq_false hlc];have hlc':¬(l.length:Int)=(s.cases.length:Int):=by omega
        repeat' (first|((with_reducible show aG _);first|exact True.intro|(simp only[vb,lb,hlt,hlc'];and_intros<;>first|omega|(simp<;>omega)))|((with_reducible show aM _);first|exact True.intro|((try dsimp only[go_sem]);(simp[vb,hlt,hlc']<;>omega)))|exact(rfl:some _=_)|((fail_if_success refine aT ?_);refine br [ξ 107 (.bool false),ξ 116 (.bool true)] ?_;(repeat1' dsimp only[qf,dD,dd,ae,Tree.kind,Tree.steps,Tree.cell,Tree.pos,Tree.kids,aa,ah,ai,ax,aI,aC,go_sem]);first|refine aU ?_ ?_ rfl ?_|apply aV|apply aW|(refine aX (fun hc=>?_) fun hc=>?_<;>first|(cases hc;done)|(exfalso;(simp at hc<;>omega))|(try simp only[bn]at hc;try contradiction))|skip))
     ·rw[show nU s kd c a (l.map (bf s)) rows [] ch=false by rw[nU,if_neg hk1,if_neg hk2]];repeat' (first|((with_reducible show aG _);first|exact True.intro|(simp only[vb,lb,hk1,hk2];and_intros<;>first|omega|(simp<;>omega)))|((with_reducible show aM _);exact True.intro)|exact(rfl:some _=_)|((fail_if_success refine aT ?_);refine aZ ?_;(repeat1' dsimp only[qf,dD,dd,ae,Tree.kind,Tree.steps,Tree.cell,Tree.pos,Tree.kids,aa,ah,ai,ax,aI,aC,go_sem]);first|refine aU ?_ ?_ rfl ?_|apply aV|apply aW|(refine aX (fun hc=>?_) fun hc=>?_<;>first|(cases hc;done)|(exfalso;(simp at hc<;>omega))|(try simp only[bn]at hc;try contradiction))|skip))
  ·have hpos:0<b.length:=List.length_pos_iff.mpr h0;have hcln:=Hp b h0 hb [⟨[.pv (ai s.box),.pv (ax s.rows),.pv (aI s.graphs),.pv (aC s.cases),.pv (ax rows),.pv (ai b),.pv (.bool ch)],0,7,73,false⟩,ae (.node kd st c a l)];unfold ai at hE;unfold ai ax aI aC ae bq at hcln;simp only[Tree.kind,Tree.steps,Tree.cell,Tree.pos,Tree.kids,aa,ah,List.length_cons,List.length_nil,List.cons_append,List.nil_append,Nat.zero_add]at hcln;refine af (C:=ctx) (Fn.of D2 rfl) rfl ?_;unfold FJ;repeat' (first|((with_reducible show aG _);first|exact True.intro|(simp only[vb,lb,hE,hcln];and_intros<;>first|omega|(simp<;>omega)))|((with_reducible show aM _);first|exact True.intro|((try dsimp only[go_sem]);(simp[vb,hE,hcln]<;>omega)))|exact(rfl:some _=_)|((fail_if_success refine aT ?_);refine bX [(72,fun _=>some (.bool false))] [(20,{val:=some (.ref 2 1 0 b.length),mem:=some [⟨[.pv (ai s.box),.pv (ax s.rows),.pv (aI s.graphs),.pv (aC s.cases),.pv (ax rows),.pv (ai b),.pv (.bool ch)],0,7,73,false⟩,ae (.node kd st c a l),bq b 1]})] ?_;(repeat1' dsimp only[qf,aA,ae,bq,Tree.kind,Tree.steps,Tree.cell,Tree.pos,Tree.kids,aa,ah,ai,ax,aI,aC,go_sem]);first|refine aU ?_ ?_ rfl ?_|apply aV|apply aW|(refine aX (fun hc=>?_) fun hc=>?_<;>first|(cases hc;done)|(try simp only[bn]at hc;try contradiction))|skip))
   refine cC (σ:=Nat×List Rg) (fun q=>q.1≤st.length∧q.2.length=b.length∧eP s rows (st.drop q.1) q.2=eP s rows st b)
    (fun q=>[(2,.ptr 0 0 0),(3,.ptr 1 0 0),(23,.pv (aa st)),(24,.pv (.int .i64 st.length)),(25,.pv (.int .i64 q.1))])
    (fun q=>[dD s rows (.ref 2 1 0 b.length) ch,ae (.node kd st c a l),bq q.2 1]) (fun q=>st.length-q.1) (0,b) ⟨Nat.zero_le _,rfl,rfl⟩ (by (repeat' (first|exact trivial|refine And.intro (by first|rfl|(simp[get,Nat.beq]<;>omega)|(dsimp only[get];congr 1<;>first|rfl|omega|(simp<;>omega))) ?_))) ⟨[],rfl⟩ (fun _ _=>⟨Nat.zero_le _,rfl,by simp[aP,dD,dd,ae,bq,ck,Nat.blt]⟩) fun q hq=>?_
   obtain⟨k,bb⟩:=q;obtain⟨p1,p2,p3⟩:=hq;simp only at p1 p2 p3 ⊢;by_cases hlt:k<st.length
   ·have e:=bM bu st k zs hlt;have hx:=List.all_eq_true.mp hf1 _ (aO (d:=zs) hlt);rw[da st k zs hlt,eP]at p3;generalize st.getD k zs=x at *;have hst:=FK s rows bb 1 ch x hx (by rw[p2];exact hgo) hs.g (by omega) hrt (by omega) [dD s rows (.ref 2 1 0 b.length) ch,ae (.node kd st c a l),bq bb 1,⟨[.pv (.int .i64 x.kind),.pv (.int .i64 x.index),.pv (.int .i64 x.cell)],0,3,66,false⟩] 2 rfl;have hln:=p9 s rows bb x;generalize b8 s rows bb x=q at *;obtain⟨b2,pp,cc⟩:=q;simp only at hst hln p3;rw[p2]at hst hln
    rw[show([dD s rows (.ref 2 1 0 b.length) ch,ae (.node kd st c a l),bq bb 1,⟨[.pv (.int .i64 x.kind),.pv (.int .i64 x.index),.pv (.int .i64 x.cell)],0,3,66,false⟩]:AM).set 2 (bq b2 1)=[dD s rows (.ref 2 1 0 b.length) ch,ae (.node kd st c a l),bq b2 1,⟨[.pv (.int .i64 x.kind),.pv (.int .i64 x.index),.pv (.int .i64 x.cell)],0,3,66,false⟩] from rfl]at hst;unfold dD dd ae bq cj ai ax aI aC at hst;simp only[Tree.kind,Tree.steps,Tree.cell,Tree.pos,Tree.kids,aa,ah,aw]at hst;rw[←p3];clear p3 hcln;cases cc with
    |true =>
     simp only[if_true];repeat' (first|((with_reducible show aG _);first|exact True.intro|(simp only[vb,lb,e,f1,hlt,aw,hst];and_intros<;>first|omega|(simp<;>omega)))|((with_reducible show aM _);first|exact True.intro|((try dsimp only[go_sem]);(simp[vb,e,f1,hlt,aw,hst]<;>omega)))|exact(rfl:some _=_)|((fail_if_success refine aT ?_);refine br [ξ 28 (.agg [.int .i64 x.kind,.int .i64 x.index,.int .i64 x.cell]),(32,{val:=some (.pv (.tup [.bool pp,.bool true])),mem:=some [dD s rows (.ref 2 1 0 b.length) ch,ae (.node kd st c a l),bq b2 1,⟨[.pv (.int .i64 x.kind),.pv (.int .i64 x.index),.pv (.int .i64 x.cell)],0,3,66,false⟩]})] ?_;(repeat1' dsimp only[qf,dD,dd,ae,bq,Tree.kind,Tree.steps,Tree.cell,Tree.pos,Tree.kids,aa,ah,ai,ax,aI,aC,go_sem]);first|refine aU ?_ ?_ rfl ?_|apply aV|apply aW|(refine aX (fun hc=>?_) fun hc=>?_<;>first|(cases hc;done)|(exfalso;(simp at hc<;>omega))|(try simp only[bn]at hc;try contradiction))|skip))
    |false =>
     simp only[Bool.false_eq_true,if_false];cases pp with
     |false =>
      simp only[Bool.false_eq_true,if_false];repeat' (first|((with_reducible show aG _);first|exact True.intro|(simp only[vb,lb,e,f1,hlt,aw,hst];and_intros<;>first|omega|(simp<;>omega)))|((with_reducible show aM _);first|exact True.intro|((try dsimp only[go_sem]);(simp[vb,e,f1,hlt,aw,hst]<;>omega)))|exact(rfl:some _=_)|((fail_if_success refine aT ?_);refine br [ξ 28 (.agg [.int .i64 x.kind,.int .i64 x.index,.int .i64 x.cell]),(32,{val:=some (.pv (.tup [.bool false,.bool false])),mem:=some [dD s rows (.ref 2 1 0 b.length) ch,ae (.node kd st c a l),bq b2 1,⟨[.pv (.int .i64 x.kind),.pv (.int .i64 x.index),.pv (.int .i64 x.cell)],0,3,66,false⟩]})] ?_;(repeat1' dsimp only[qf,dD,dd,ae,bq,Tree.kind,Tree.steps,Tree.cell,Tree.pos,Tree.kids,aa,ah,ai,ax,aI,aC,go_sem]);first|refine aU ?_ ?_ rfl ?_|apply aV|apply aW|(refine aX (fun hc=>?_) fun hc=>?_<;>first|(cases hc;done)|(exfalso;(simp at hc<;>omega))|(try simp only[bn]at hc;try contradiction))|skip))
     |true =>
      simp only[if_true];repeat' (first|((with_reducible show aG _);first|exact True.intro|(simp only[vb,lb,e,f1,hlt,aw,hst];and_intros<;>first|omega|(simp<;>omega)))|((with_reducible show aM _);first|exact True.intro|((try dsimp only[go_sem]);(simp[vb,e,f1,hlt,aw,hst]<;>omega)))|exact(rfl:some _=_)|((fail_if_success refine aT ?_);refine br [ξ 28 (.agg [.int .i64 x.kind,.int .i64 x.index,.int .i64 x.cell]),(32,{val:=some (.pv (.tup [.bool true,.bool false])),mem:=some [dD s rows (.ref 2 1 0 b.length) ch,ae (.node kd st c a l),bq b2 1,⟨[.pv (.int .i64 x.kind),.pv (.int .i64 x.index),.pv (.int .i64 x.cell)],0,3,66,false⟩]})] ?_;(repeat1' dsimp only[qf,dD,dd,ae,bq,Tree.kind,Tree.steps,Tree.cell,Tree.pos,Tree.kids,aa,ah,ai,ax,aI,aC,go_sem]);first|refine aU ?_ ?_ rfl ?_|apply aV|apply aW|(refine aX (fun hc=>?_) fun hc=>?_<;>first|(cases hc;done)|(exfalso;(simp at hc<;>omega))|(try simp only[bn]at hc;try contradiction))|skip))
      exact⟨(k+1,b2),by show st.length-(k+1)<st.length-k;omega,⟨by show k+1≤_;omega,hln,rfl⟩,by (repeat' (first|exact trivial|refine And.intro (by first|rfl|(simp[get,Nat.beq]<;>omega)|(dsimp only[get];congr 1<;>first|rfl|omega|(simp<;>omega))) ?_)),_,rfl⟩
   ·obtain rfl:k=st.length:=by omega
    rw[List.drop_length,eP]at p3;rw[←p3];simp only;clear p3 hcln hE hf1;have f3:=cL l;rw[←p2]at hb hgo hpos ⊢;have f4:=bN bb;clear f2;by_cases hk1:kd=1
    ·subst hk1;simp[bQ,aL]at hf2;obtain⟨⟨t1,t2,t3⟩,t4,t5⟩:=hf2;obtain⟨cn,rfl⟩:∃n:Nat,c=n:=⟨c.toNat,by omega⟩
     unfold nU;rw[if_pos rfl];by_cases hcb:(cn:Int)<bb.length
     ·rw[if_pos hcb];have hcb':cn<bb.length:=by omega
      match l,t1 with
      |[k0,k1],_ =>
      simp only[List.map_cons,List.map_nil,Int.toNat_natCast];have e:=kA bb cn (by omega) hcb;rw[Int.toNat_natCast]at e;have e4:(((bb.flatMap fW).map AV.pv).drop (cn*2)).take 2=[.pv (.int .i64 (bb.getD cn zr).lo),.pv (.int .i64 (bb.getD cn zr).hi)]:=by rw[←List.map_drop,←List.map_take,e];rfl
      clear e;generalize bb.getD cn zr=y at *;iterate 9 first
       |refine⟨fun h=>by simp at h<;>omega,fun _=>?_⟩
       |refine⟨by simp[vb,hcb,hcb',f4,e4,bC]<;>omega,by simp[vb,hcb,hcb',f4,e4,bC]<;>omega,?_⟩
       |(refine br [ξ 54 (.agg [.int .i64 y.lo,.int .i64 y.hi])] ?_;iterate 2 (try dsimp only[dD,dd,ae,bq,Tree.kind,Tree.steps,Tree.cell,Tree.pos,Tree.kids,go_sem]))
      refine br [ξ 54 (.agg [.int .i64 y.lo,.int .i64 y.hi])] ?_;dsimp only[dD,dd,ae,bq,Tree.kind,Tree.steps,Tree.cell,Tree.pos,Tree.kids,go_sem];refine⟨fun _=>?_,fun h=>by simp at h<;>omega⟩;iterate 5 first
       |refine⟨fun h=>by simp at h<;>omega,fun _=>?_⟩
       |refine⟨by simp[vb,hcb,hcb',f4,e4,bC]<;>omega,by simp[vb,hcb,hcb',f4,e4,bC]<;>omega,?_⟩
       |(refine br [ξ 54 (.agg [.int .i64 y.lo,.int .i64 y.hi])] ?_;iterate 2 (try dsimp only[dD,dd,ae,bq,Tree.kind,Tree.steps,Tree.cell,Tree.pos,Tree.kids,go_sem]))
      refine br [ξ 54 (.agg [.int .i64 y.lo,.int .i64 y.hi])] ?_;dsimp only[dD,dd,ae,bq,Tree.kind,Tree.steps,Tree.cell,Tree.pos,Tree.kids,go_sem];try dsimp only[dD,dd,ae,bq,Tree.kind,Tree.steps,Tree.cell,Tree.pos,Tree.kids,go_sem]
      refine⟨(by first|exact True.intro|(simp only[vb,lb];omega)|(simp only[vb,lb,hcb,hcb',f4,e4,bC];and_intros<;>first|omega|(simp<;>omega))|(simp[vb,hcb,hcb',f4,e4,bC]<;>omega)),(by first|exact True.intro|((try dsimp only[go_sem]);first|(simp[vb,hcb,hcb',f4,e4,bC]<;>omega)|(simp only[vb,and_true,true_implies];(repeat' (first|(with_reducible assumption)|(with_reducible apply And.intro)|intro _|((fail_if_success (with_reducible show(_:Int)≤_));assumption)))<;>first|omega|rfl|(simp only[ab,hcb,hcb',f4,e4,bC];done)|(simp[Nat.mul_one,hcb,hcb',f4,e4,bC]<;>omega)|(simp_all;done)))),?_⟩
      refine bz [(2,.ptr 0 0 0),(3,.ptr 1 0 0),(9,.ptr 3 0 0)] (by (repeat' (first|exact trivial|refine And.intro (by first|rfl|(simp[get,Nat.beq]<;>omega)|(dsimp only[get];congr 1<;>first|rfl|omega|(simp<;>omega))) ?_))) ?_;have hcr:=fun μ hj=>D0 bb 1 hpos hb μ 2 hj
      refine Gx 2 [] [] rfl ?_ ?_;dsimp only[rZ,go_sem];refine⟨(by first|exact True.intro|(simp only[vb,lb];omega)|(simp[vb]<;>omega)),(by first|exact True.intro|((try dsimp only[go_sem]);first|(simp[vb]<;>omega)|(simp only[vb,and_true,true_implies];(repeat' (first|(with_reducible assumption)|(with_reducible apply And.intro)|intro _|((fail_if_success (with_reducible show(_:Int)≤_));assumption)))<;>first|omega|rfl|(simp only[ab];done)|(simp[Nat.mul_one]<;>omega)|(simp_all;done)))),rfl,?_⟩;dsimp only[go_sem];rotate_left;dsimp only[r4,mz,go_sem]
      refine⟨(by first|exact True.intro|(simp only[vb,lb];omega)|(simp[vb]<;>omega)),(by first|exact True.intro|((try dsimp only[go_sem]);first|(simp[vb]<;>omega)|(simp only[vb,and_true,true_implies];(repeat' (first|(with_reducible assumption)|(with_reducible apply And.intro)|intro _|((fail_if_success (with_reducible show(_:Int)≤_));assumption)))<;>first|omega|rfl|(simp only[ab];done)|(simp[Nat.mul_one]<;>omega)|(simp_all;done)))),rfl,?_⟩;refine fK [0,1,2,3,5,4] rfl ?_;dsimp only[go_sem];rw[Hb];all_goals
       refine bz [(2,.ptr 0 0 0),(3,.ptr 1 0 0),(9,.ptr 3 0 0),(10,.ptr 4 0 0),(11,.ptr 5 0 0)] (by (repeat' (first|exact trivial|refine And.intro (by first|rfl|(simp[get,Nat.beq]<;>omega)|(dsimp only[get];congr 1<;>first|rfl|omega|(simp<;>omega))) ?_))) ?_;simp only[fg]at hw;have ih0:=ih k0 (by simp) (by simpa using (List.all_eq_true.mp hf3 k0 (by simp))) (by omega) rows (bb.set cn ⟨y.lo,min y.hi a⟩) ch hr hrt (by simpa using hb) (by simpa using hgo)
       have ih1:=ih k1 (by simp) (by simpa using (List.all_eq_true.mp hf3 k1 (by simp))) (by omega) rows (bb.set cn ⟨max y.lo (a+1),y.hi⟩) ch hr hrt (by simpa using hb) (by simpa using hgo);clear ih;unfold bq at hcr;refine br [(59,{val:=some (.ref 6 1 0 bb.length),new:=[⟨(bb.flatMap fW).map .pv,1,2,57,false⟩]}),(62,{val:=some (.ref 7 1 0 bb.length),new:=[⟨(bb.flatMap fW).map .pv,1,2,57,false⟩]})] ?_;dsimp only[go_sem];try dsimp only[go_sem]
       refine⟨(by simp[vb]<;>omega),?_,(by first|rfl|trivial),?_⟩
       ·iterate 3 (try dsimp only[kX,rq,go_sem])
        exact⟨hcr _ rfl,hcr _ rfl,trivial⟩
       iterate 3 (try dsimp only[kX,rq,go_sem])
       refine bz [(2,.ptr 0 0 0),(3,.ptr 1 0 0),(9,.ptr 3 0 0),(10,.ptr 4 0 0),(11,.ptr 5 0 0)] (by (repeat' (first|exact trivial|refine And.intro (by first|rfl|(simp[get,Nat.beq]<;>omega)|(dsimp only[get];congr 1<;>first|rfl|omega|(simp<;>omega))) ?_))) ?_;have e6:=bN bb;have hm1:=Ax y ⟨y.lo,a⟩;have hm2:=Ax y ⟨a+1,y.hi⟩;have e7:=fun b lo hi h=>ta b cn lo hi h
       simp only[Int.max_self,Int.min_self]at hm1 hm2;refine bJ (kN (T:=[(79,fun ps=>match ps with|[.agg [.int _ a,.int _ b],.agg [.int _ c,.int _ d]]=>some (.agg [.int .i64 (max a c),.int .i64 (min b d)])|_=>none)]) (H:=[]) (by rfl) ?_);dsimp only[c6,go_sem];try dsimp only[go_sem]
       refine⟨(by simp[vb,hcb,hcb',e6,hm1]<;>omega),(by simp[vb,hcb,hcb',e6,hm1]<;>omega),?_⟩;iterate 3 (try dsimp only[go_sem])
       refine bz [(2,.ptr 0 0 0),(3,.ptr 1 0 0),(9,.ptr 3 0 0),(10,.ptr 4 0 0),(11,.ptr 5 0 0)] (by (repeat' (first|exact trivial|refine And.intro (by first|rfl|(simp[get,Nat.beq]<;>omega)|(dsimp only[get];congr 1<;>first|rfl|omega|(simp<;>omega))) ?_))) ?_;rw[show((((bb.flatMap fW).map AV.pv).set (0+(cn:Int).toNat*2) (.pv (.int .i64 (max y.lo y.lo)))).set (0+(cn:Int).toNat*2+1) (.pv (.int .i64 (min y.hi a))))=((bb.set cn ⟨y.lo,min y.hi a⟩).flatMap fW).map AV.pv from by rw[←e7 bb _ _ hcb',Int.max_self];simp]
       refine bJ (kN (T:=[(79,fun ps=>match ps with|[.agg [.int _ a,.int _ b],.agg [.int _ c,.int _ d]]=>some (.agg [.int .i64 (max a c),.int .i64 (min b d)])|_=>none)]) (H:=[]) (by rfl) ?_);dsimp only[c6,go_sem];try dsimp only[go_sem]
       refine⟨(by simp[vb,hcb,hcb',e6,hm2]<;>omega),(by simp[vb,hcb,hcb',e6,hm2]<;>omega),?_⟩;iterate 3 (try dsimp only[go_sem])
       refine bz [(2,.ptr 0 0 0),(3,.ptr 1 0 0),(9,.ptr 3 0 0),(10,.ptr 4 0 0),(11,.ptr 5 0 0)] (by (repeat' (first|exact trivial|refine And.intro (by first|rfl|(simp[get,Nat.beq]<;>omega)|(dsimp only[get];congr 1<;>first|rfl|omega|(simp<;>omega))) ?_))) ?_;rw[show((((bb.flatMap fW).map AV.pv).set (0+(cn:Int).toNat*2) (.pv (.int .i64 (max y.lo (a+1))))).set (0+(cn:Int).toNat*2+1) (.pv (.int .i64 (min y.hi y.hi))))=((bb.set cn ⟨max y.lo (a+1),y.hi⟩).flatMap fW).map AV.pv from by rw[←e7 bb _ _ hcb',Int.min_self];simp];clear hcr e7 hm1 hm2 e6 e4
       have hbl0:(bb.set cn ⟨y.lo,min y.hi a⟩).length=bb.length:=by simp
       have hbl1:(bb.set cn ⟨max y.lo (a+1),y.hi⟩).length=bb.length:=by simp
       generalize bb.set cn ⟨y.lo,min y.hi a⟩=bl at *;generalize bb.set cn ⟨max y.lo (a+1),y.hi⟩=bh at *;generalize bf s k0 rows bl ch=q0 at *;generalize bf s k1 rows bh ch=q1 at *;have z1:=bN bl;have z2:=bN bh;have x1:(0+bb.length*2).ble ((bl.flatMap fW).map AV.pv).length=true:=by rw[List.length_map,z1,hbl0];simp
       have x3:(0+bb.length*2).ble ((bh.flatMap fW).map AV.pv).length=true:=by rw[List.length_map,z2,hbl1];simp
       have x2:bC (((bl.flatMap fW).map AV.pv).take (bb.length*2))=some (bl.flatMap fW):=by rw[←hbl0];exact(nH bl 1).2
       have x4:bC (((bh.flatMap fW).map AV.pv).take (bb.length*2))=some (bh.flatMap fW):=by rw[←hbl1];exact(nH bh 1).2
       obtain⟨a0,a1,a2,a3,a4⟩:=k0;obtain⟨d0,d1,d2,d3,d4⟩:=k1;have g0:=cK [.node a0 a1 a2 a3 a4,.node d0 d1 d2 d3 d4] 0 (by simp);have g1:=cK [.node a0 a1 a2 a3 a4,.node d0 d1 d2 d3 d4] 1 (by simp);simp only[List.getD_cons_zero,List.getD_cons_succ,Tree.kind,Tree.steps,Tree.cell,Tree.pos,Tree.kids,Nat.zero_mul,Nat.one_mul,List.drop_zero]at g0 g1;have g2':([Tree.node a0 a1 a2 a3 a4,.node d0 d1 d2 d3 d4].flatMap cy).length=10:=cL _;simp only[aA,Tree.kind,Tree.steps,Tree.cell,Tree.pos,Tree.kids]at ih0 ih1;unfold ah ai at ih0 ih1;unfold ah at g0 g1
       refine br [ξ 94 (.agg [.int .i64 a0,aa a1,.int .i64 a2,.int .i64 a3,ah a4]),(95,{val:=some (.pv (.bool q0)),args:=some [.agg [ai s.box,ax s.rows,aI s.graphs,aC s.cases,ax rows,ai bl,.bool ch],.agg [.int .i64 a0,aa a1,.int .i64 a2,.int .i64 a3,ah a4]]}),ξ 101 (.agg [.int .i64 d0,aa d1,.int .i64 d2,.int .i64 d3,ah d4]),(102,{val:=some (.pv (.bool q1)),args:=some [.agg [ai s.box,ax s.rows,aI s.graphs,aC s.cases,ax rows,ai bh,.bool ch],.agg [.int .i64 d0,aa d1,.int .i64 d2,.int .i64 d3,ah d4]]})] ?_
       dsimp only[ah,go_sem];try dsimp only[ah,go_sem]
       refine⟨(by simp[vb,c7]<;>omega),?_,?_⟩
       ·unfold ai;simp only[x1,x2,x3,x4,cond_true,g0,g1,hbl0,hbl1]at ih0 ih1 ⊢;exact⟨fun _ h=>h,fun h=>⟨trivial,⟨fun _=>h,fun _=>h,trivial⟩,trivial,ih1,trivial⟩,fun h=>⟨by simp[vb,c7],⟨fun _=>h,trivial⟩,trivial,trivial⟩,fun h=>⟨by simp[vb],⟨fun _=>h,trivial⟩,trivial⟩,fun h=>⟨by simp[vb],⟨fun _=>h,trivial⟩,trivial⟩,fun _=>⟨trivial,trivial,trivial⟩,fun _=>⟨by simp[vb],trivial,trivial⟩,trivial,ih0,trivial,trivial⟩
       repeat' (first|((with_reducible show aG _);exact True.intro)|exact(rfl:some _=_)|((fail_if_success refine aT ?_);refine aZ ?_;(repeat1' dsimp only[qf,go_sem]);first|refine aU ?_ ?_ rfl ?_|apply aV|apply aW|(refine aX (fun hc=>?_) fun hc=>?_<;>first|(cases hc;done)|(try simp only[bn]at hc;try contradiction))|skip))
       rw[ie]
     ·rw[if_neg hcb];repeat' (first|((with_reducible show aG _);first|exact True.intro|(simp only[vb,lb,hcb];and_intros<;>first|omega|(simp<;>omega)))|((with_reducible show aM _);exact True.intro)|exact(rfl:some _=_)|((fail_if_success refine aT ?_);refine aZ ?_;(repeat1' dsimp only[qf,dD,dd,ae,bq,Tree.kind,Tree.steps,Tree.cell,Tree.pos,Tree.kids,go_sem]);first|refine aU ?_ ?_ rfl ?_|apply aV|apply aW|(refine aX (fun hc=>?_) fun hc=>?_<;>first|(cases hc;done)|(exfalso;(simp at hc<;>omega))|(try simp only[bn]at hc;try contradiction))|skip))
    ·by_cases hk2:kd=2
     ·subst hk2;simp[bQ]at hf2;obtain⟨⟨⟨t1,t2⟩,rfl⟩,rfl⟩:=hf2;have hcc:=hs.c;unfold nU;rw[if_neg (by decide),if_pos rfl,List.length_map];cases ch with
      |true =>
       repeat' (first|((with_reducible show aG _);first|exact True.intro|(simp only[vb,lb,hlt];and_intros<;>first|omega|(simp<;>omega)))|((with_reducible show aM _);first|exact True.intro|((try dsimp only[go_sem]);(simp[vb,hlt]<;>omega)))|exact(rfl:some _=_)|((fail_if_success refine aT ?_);refine br [ξ 107 (.bool true)] ?_;(repeat1' dsimp only[qf,dD,dd,ae,bq,Tree.kind,Tree.steps,Tree.cell,Tree.pos,Tree.kids,ah,aC,go_sem]);first|refine aU ?_ ?_ rfl ?_|apply aV|apply aW|(refine aX (fun hc=>?_) fun hc=>?_<;>first|(cases hc;done)|(exfalso;(simp at hc<;>omega))|(try simp only[bn]at hc;try contradiction))|skip))
      |false =>
       by_cases hlc:l.length=s.cases.length
       ·rw[decide_eq_true hlc];simp only[Bool.not_false,Bool.true_and];generalize hres:np rows bb (l.map (bf s)) s.cases=res;repeat' (first|((with_reducible show aG _);first|exact True.intro|(simp only[vb,lb,hlt,hlc];and_intros<;>first|omega|(simp<;>omega)))|((with_reducible show aM _);first|exact True.intro|((try dsimp only[go_sem]);(simp[vb,hlt,hlc]<;>omega)))|exact(rfl:some _=_)|((fail_if_success refine aT ?_);refine br [ξ 107 (.bool false),ξ 116 (.bool false)] ?_;(repeat1' dsimp only[qf,dD,dd,ae,bq,Tree.kind,Tree.steps,Tree.cell,Tree.pos,Tree.kids,ah,aC,go_sem]);first|refine aU ?_ ?_ rfl ?_|apply aV|apply aW|(refine aX (fun hc=>?_) fun hc=>?_<;>first|(cases hc;done)|(exfalso;(simp at hc<;>omega))|(try simp only[bn]at hc;try contradiction))|skip))
        refine cC (σ:=Nat) (fun k=>k≤l.length∧np rows bb ((l.map (bf s)).drop k) (s.cases.drop k)=res)
         (fun k=>[(2,.ptr 0 0 0),(3,.ptr 1 0 0),(119,.pv (ah l)),(120,.pv (.int .i64 l.length)),(121,.pv (.int .i64 k))])
         (fun k=>[dD s rows (.ref 2 1 0 bb.length) false,ae (.node 2 st 0 0 l),bq bb 1]) (fun k=>l.length-k) 0 ⟨Nat.zero_le _,hres⟩ (by (repeat' (first|exact trivial|refine And.intro (by first|rfl|(simp[get,Nat.beq]<;>omega)|(dsimp only[get];congr 1<;>first|rfl|omega|(simp<;>omega))) ?_))) ⟨[],rfl⟩ (fun _ _=>⟨Nat.zero_le _,rfl,by simp[aP,dD,dd,ae,bq,ck,Nat.blt]⟩) fun k hq=>?_
        obtain⟨q1,q2⟩:=hq;by_cases hlk:k<l.length
        ·have hkc:k<s.cases.length:=by omega
         have e:=cK l k hlk;have e2:=mq s.cases k hkc;have e3:=mf s.cases;have hcl:=hs.l _ (aO (d:=([]:List Rw)) hkc);have hmem:=aO (d:=zt) hlk;have hwk:=fw hmem;have hih:=ih _ hmem (List.all_eq_true.mp hf3 _ hmem) (by omega) (rows++s.cases.getD k []) bb true (by rw[List.length_append];unfold mr at hr ⊢;simp only[cond_true,cond_false]at hr ⊢;omega) (fun r hr=>by
          rcases List.mem_append.mp hr with h|h
          ·exact hrt r h
          ·exact hcl.2 r h) hb hgo
         have hcon:=uG [rows,s.cases.getD k []] (by simp) (by simp only[j6,List.map_cons,List.map_nil,List.sum_cons,List.sum_nil];omega);rw[show[rows,s.cases.getD k []].flatten=rows++s.cases.getD k [] by simp]at hcon;rw[da _ k (bf s zt) (by simpa using hlk),da s.cases k [] hkc,np]at q2;rw[show(l.map (bf s)).getD k (bf s zt)=bf s (l.getD k zt) by simp[List.getD]]at q2;generalize hrest:np rows bb ((l.map (bf s)).drop (k+1)) (s.cases.drop (k+1))=rest at *;generalize s.cases.getD k []=cs at *;generalize l.getD k zt=x at *
         generalize bf s x (rows++cs) bb true=qx at *;generalize rows++cs=rows2 at *;obtain⟨x1,x2⟩:=nH bb 1;obtain⟨a0,a1,a2,a3,a4⟩:=x;simp only[aA,Tree.kind,Tree.steps,Tree.cell,Tree.pos,Tree.kids]at hih e;clear ih hres;have hcon:aj ctx 80 [.sl 2 [ax rows,.sl cs.length (cs.flatMap dI)]] (.sl rows2.length (rows2.flatMap dI)):=hcon;have z1:=bN bb;iterate 5 first
          |refine⟨fun _=>?_,fun h=>by simp at h<;>omega⟩
          |refine⟨by simp[vb,e,f3,hlk,e2,e3,hkc,hcon,ah]<;>omega,by simp[vb,e,f3,hlk,e2,e3,hkc,hcon,ah]<;>omega,?_⟩
          |(refine bX [(80,fun _=>some (.sl rows2.length (rows2.flatMap dI)))] [ξ 125 (.agg [.int .i64 a0,aa a1,.int .i64 a2,.int .i64 a3,ah a4]),ξ 134 (.sl cs.length (cs.flatMap dI))] ?_;iterate 2 (try dsimp only[dD,dd,ae,bq,Tree.kind,Tree.steps,Tree.cell,Tree.pos,Tree.kids,ah,aC,go_sem]))
         refine bX [(80,fun _=>some (.sl rows2.length (rows2.flatMap dI)))] [ξ 125 (.agg [.int .i64 a0,aa a1,.int .i64 a2,.int .i64 a3,ah a4]),ξ 134 (.sl cs.length (cs.flatMap dI))] ?_;dsimp only[dD,dd,ae,bq,Tree.kind,Tree.steps,Tree.cell,Tree.pos,Tree.kids,ah,aC,go_sem];try dsimp only[dD,dd,ae,bq,Tree.kind,Tree.steps,Tree.cell,Tree.pos,Tree.kids,ah,aC,go_sem]
         refine⟨(by first|exact True.intro|(simp only[vb,lb];omega)|(simp only[vb,lb,e,f3,hlk,e2,e3,hkc,hcon,ah];and_intros<;>first|omega|(simp<;>omega))|(simp[vb,e,f3,hlk,e2,e3,hkc,hcon,ah]<;>omega)),(by first|exact True.intro|((try dsimp only[go_sem]);first|(simp[vb,e,f3,hlk,e2,e3,hkc,hcon,ah]<;>omega)|(simp only[vb,and_true,true_implies];(repeat' (first|(with_reducible assumption)|(with_reducible apply And.intro)|intro _|((fail_if_success (with_reducible show(_:Int)≤_));assumption)))<;>first|omega|rfl|(simp only[ab,e,f3,hlk,e2,e3,hkc,hcon,ah];done)|(simp[Nat.mul_one,e,f3,hlk,e2,e3,hkc,hcon,ah]<;>omega)|(simp_all;done)))),?_⟩
         refine bX [(80,fun _=>some (.sl rows2.length (rows2.flatMap dI)))] [ξ 125 (.agg [.int .i64 a0,aa a1,.int .i64 a2,.int .i64 a3,ah a4]),ξ 134 (.sl cs.length (cs.flatMap dI))] ?_;dsimp only[dD,dd,ae,bq,Tree.kind,Tree.steps,Tree.cell,Tree.pos,Tree.kids,ah,aC,go_sem];try dsimp only[dD,dd,ae,bq,Tree.kind,Tree.steps,Tree.cell,Tree.pos,Tree.kids,ah,aC,go_sem]
         refine⟨(by simp[vb,e,f3,hlk,e2,e3,hkc,hcon,ah]<;>omega),(by simp[vb,e,f3,hlk,e2,e3,hkc,hcon,ah]<;>omega),?_⟩;refine bJ (kN (T:=[(80,fun _=>some (.sl rows2.length (rows2.flatMap dI)))]) (H:=[ξ 125 (.agg [.int .i64 a0,aa a1,.int .i64 a2,.int .i64 a3,ah a4]),ξ 134 (.sl cs.length (cs.flatMap dI))]) (by rfl) ?_);dsimp only[c6,dD,dd,ae,bq,Tree.kind,Tree.steps,Tree.cell,Tree.pos,Tree.kids,ah,aC,go_sem];try dsimp only[dD,dd,ae,bq,Tree.kind,Tree.steps,Tree.cell,Tree.pos,Tree.kids,ah,aC,go_sem]
         refine⟨(by simp[vb,e,f3,hlk,e2,e3,hkc,hcon,ah]<;>omega),(by simp[vb,e,f3,hlk,e2,e3,hkc,hcon,ah]<;>omega),?_⟩;iterate 4 (try dsimp only[go_sem])
         unfold ah ai at hih;have x3:(0+bb.length*2).ble ((bb.flatMap fW).map AV.pv).length=true:=by rw[List.length_map,z1];simp
         refine br [(141,{val:=some (.pv (.bool qx)),args:=some [.agg [.sl s.box.length (s.box.flatMap fW),ax s.rows,aI s.graphs,aC s.cases,.sl rows2.length (rows2.flatMap dI),.sl bb.length (bb.flatMap fW),.bool true],.agg [.int .i64 a0,aa a1,.int .i64 a2,.int .i64 a3,.sl a4.length (a4.flatMap cy)]]})] ?_;dsimp only[ah,ai,aC,go_sem];try dsimp only[ah,ai,aC,go_sem]
         refine⟨(by simp[vb]<;>omega),?_,?_⟩
         ·iterate 3 (try dsimp only[go_sem])
          unfold aC at hih;simp only[x3,x2,cond_true];exact⟨trivial,hih,trivial⟩
         cases qx with
         |true =>
          repeat' (first|((with_reducible show aG _);first|exact True.intro|(simp only[vb,lb,hlk];and_intros<;>first|omega|(simp<;>omega)))|((with_reducible show aM _);exact True.intro)|exact(rfl:some _=_)|((fail_if_success refine aT ?_);refine aZ ?_;(repeat1' dsimp only[qf,go_sem]);first|refine aU ?_ ?_ rfl ?_|apply aV|apply aW|(refine aX (fun hc=>?_) fun hc=>?_<;>first|(cases hc;done)|(try simp only[bn]at hc;try contradiction))|skip))
          exact⟨k+1,by show l.length-(k+1)<l.length-k;omega,⟨by show k+1≤_;omega,by rw[←q2];simpa using hrest⟩,by (repeat' (first|exact trivial|refine And.intro (by first|rfl|(simp[get,Nat.beq]<;>omega)|(dsimp only[get];congr 1<;>first|rfl|omega|(simp<;>omega))) ?_)),_,rfl⟩
         |false =>
          repeat' (first|((with_reducible show aG _);first|exact True.intro|(simp only[vb,lb,hlk];and_intros<;>first|omega|(simp<;>omega)))|((with_reducible show aM _);exact True.intro)|exact(rfl:some _=_)|((fail_if_success refine aT ?_);refine aZ ?_;(repeat1' dsimp only[qf,go_sem]);first|refine aU ?_ ?_ rfl ?_|apply aV|apply aW|(refine aX (fun hc=>?_) fun hc=>?_<;>first|(cases hc;done)|(try simp only[bn]at hc;try contradiction))|skip))
          rw[←q2];rfl
        ·obtain rfl:k=l.length:=by omega
         rw[List.drop_of_length_le (by simp),np]at q2;subst q2;repeat' (first|((with_reducible show aG _);exact True.intro)|((with_reducible show aM _);exact True.intro)|exact(rfl:some _=_)|((fail_if_success refine aT ?_);refine aZ ?_;(repeat1' dsimp only[qf,dD,dd,ae,bq,Tree.kind,Tree.steps,Tree.cell,Tree.pos,Tree.kids,ah,aC,go_sem]);first|refine aU ?_ ?_ rfl ?_|apply aV|apply aW|(refine aX (fun hc=>?_) fun hc=>?_<;>first|(cases hc;done)|(exfalso;(simp at hc<;>omega))|(try simp only[bn]at hc;try contradiction))|skip))
         all_goals (intro _ _ _ _ h;cases h)
       ·rw[decide_eq_false hlc];have hlc':¬(l.length:Int)=(s.cases.length:Int):=by omega
        repeat' (first|((with_reducible show aG _);first|exact True.intro|(simp only[vb,lb,hlt,hlc'];and_intros<;>first|omega|(simp<;>omega)))|((with_reducible show aM _);first|exact True.intro|((try dsimp only[go_sem]);(simp[vb,hlt,hlc']<;>omega)))|exact(rfl:some _=_)|((fail_if_success refine aT ?_);refine br [ξ 107 (.bool false),ξ 116 (.bool true)] ?_;(repeat1' dsimp only[qf,dD,dd,ae,bq,Tree.kind,Tree.steps,Tree.cell,Tree.pos,Tree.kids,ah,aC,go_sem]);first|refine aU ?_ ?_ rfl ?_|apply aV|apply aW|(refine aX (fun hc=>?_) fun hc=>?_<;>first|(cases hc;done)|(exfalso;(simp at hc<;>omega))|(try simp only[bn]at hc;try contradiction))|skip))
     ·rw[show nU s kd c a (l.map (bf s)) rows bb ch=false by rw[nU,if_neg hk1,if_neg hk2]];repeat' (first|((with_reducible show aG _);first|exact True.intro|(simp only[vb,lb,hk1,hk2];and_intros<;>first|omega|(simp<;>omega)))|((with_reducible show aM _);exact True.intro)|exact(rfl:some _=_)|((fail_if_success refine aT ?_);refine aZ ?_;(repeat1' dsimp only[qf,dD,dd,ae,bq,Tree.kind,Tree.steps,Tree.cell,Tree.pos,Tree.kids,go_sem]);first|refine aU ?_ ?_ rfl ?_|apply aV|apply aW|(refine aX (fun hc=>?_) fun hc=>?_<;>first|(cases hc;done)|(exfalso;(simp at hc<;>omega))|(try simp only[bn]at hc;try contradiction))|skip))
end
section
open Rf
theorem uI.of {s:Sy} (h:im s=true) (hs:Ca s):uI s∧(∀q∈s.graphs,bH s.box.length q=true)∧s.rows.length≤1000000:=by
 simp only[im,Bool.and_eq_true,decide_eq_true_eq]at h;obtain⟨⟨⟨⟨⟨⟨h1,h2⟩,h3⟩,h4⟩,h5⟩,h6⟩,h7⟩:=h;refine⟨⟨hs.g,by omega,fun l hl=>⟨?_,hs.ct l hl⟩⟩,fun q hq=>List.all_eq_true.mp h6 q hq,by omega⟩;have:=List.all_eq_true.mp h7 l hl;simp only[fD,Bool.and_eq_true,decide_eq_true_eq]at this;omega
theorem xQ (s:Sy) (hs:Ca s) (t:Tree) (ht:wt t≤1000000000):aj ctx 22 [.agg [ai s.box,ax s.rows,aI s.graphs,aC s.cases],aA t] (.bool (k8 s t)):=by
 have h1:=xI s hs;have h2:=sK t ht;have h3:im s=true→eV t=true→aj ctx 47 [.agg [ai s.box,ax s.rows,aI s.graphs,aC s.cases,ax s.rows,ai s.box,.bool false],aA t] (.bool (bf s t s.rows s.box false)):=fun a b=>by
  obtain⟨g1,g2,g3⟩:=uI.of a hs;simp only[eV,Bool.and_eq_true]at b;exact zA s g1 t b.2 ht s.rows s.box false g3 hs.rt hs.b g2
 unfold k8;generalize bf s t s.rows s.box false=q3 at *;generalize im s=q1 at *;generalize eV t=q2 at *;unfold ai ax aI aC at h1 h3;simp only[aA]at h2 h3;unfold aa ah at h2 h3;cases q1 with
 |false =>
  refine af (C:=ctx) (Fn.of EY rfl) rfl ?_;unfold HO;refine fu [(46,fun _=>some (.bool false)),(13,fun _=>some (.bool q2))] ?_;dsimp only[aA,aa,ah,ai,ax,aI,aC,go_sem];try dsimp only[aA,aa,ah,ai,ax,aI,aC,go_sem]
  refine⟨(by simp[vb,h1,h2]<;>omega),(by simp[vb,h1,h2]<;>omega),?_⟩;refine bJ (jl (T:=[(46,fun _=>some (.bool false)),(13,fun _=>some (.bool q2))]) (H:=[]) ?_);dsimp only[aA,aa,ah,ai,ax,aI,aC,go_sem];try dsimp only[aA,aa,ah,ai,ax,aI,aC,go_sem]
  refine⟨(by first|exact True.intro|(simp only[vb,lb];omega)|(simp only[vb,lb,h1,h2];and_intros<;>first|omega|(simp<;>omega))|(simp[vb,h1,h2]<;>omega)),(by first|exact True.intro|((try dsimp only[go_sem]);first|(simp[vb,h1,h2]<;>omega)|(simp only[vb,and_true,true_implies];(repeat' (first|(with_reducible assumption)|(with_reducible apply And.intro)|intro _|((fail_if_success (with_reducible show(_:Int)≤_));assumption)))<;>first|omega|rfl|(simp only[ab,h1,h2];done)|(simp[Nat.mul_one,h1,h2]<;>omega)|(simp_all;done)))),?_⟩;refine fu [(46,fun _=>some (.bool false)),(13,fun _=>some (.bool q2))] ?_
  dsimp only[aA,aa,ah,ai,ax,aI,aC,go_sem];exact⟨trivial,rfl⟩
 |true =>
  cases q2 with
  |false =>
   refine af (C:=ctx) (Fn.of EY rfl) rfl ?_;unfold HO;refine fu [(46,fun _=>some (.bool true)),(13,fun _=>some (.bool false))] ?_;dsimp only[aA,aa,ah,ai,ax,aI,aC,go_sem];try dsimp only[aA,aa,ah,ai,ax,aI,aC,go_sem]
   refine⟨(by simp[vb,h1,h2]<;>omega),(by simp[vb,h1,h2]<;>omega),?_⟩;refine bJ (jl (T:=[(46,fun _=>some (.bool true)),(13,fun _=>some (.bool false))]) (H:=[]) ?_);dsimp only[aA,aa,ah,ai,ax,aI,aC,go_sem];try dsimp only[aA,aa,ah,ai,ax,aI,aC,go_sem]
   refine⟨(by first|exact True.intro|(simp only[vb,lb];omega)|(simp only[vb,lb,h1,h2];and_intros<;>first|omega|(simp<;>omega))|(simp[vb,h1,h2]<;>omega)),(by first|exact True.intro|((try dsimp only[go_sem]);first|(simp[vb,h1,h2]<;>omega)|(simp only[vb,and_true,true_implies];(repeat' (first|(with_reducible assumption)|(with_reducible apply And.intro)|intro _|((fail_if_success (with_reducible show(_:Int)≤_));assumption)))<;>first|omega|rfl|(simp only[ab,h1,h2];done)|(simp[Nat.mul_one,h1,h2]<;>omega)|(simp_all;done)))),?_⟩
   refine fu [(46,fun _=>some (.bool true)),(13,fun _=>some (.bool false))] ?_;dsimp only[aA,aa,ah,ai,ax,aI,aC,go_sem];exact⟨trivial,rfl⟩
  |true =>
   have h3:=h3 rfl rfl;refine af (C:=ctx) (Fn.of EY rfl) rfl ?_;unfold HO;refine fu [(46,fun _=>some (.bool true)),(13,fun _=>some (.bool true)),(47,fun _=>some (.bool q3))] ?_;dsimp only[aA,aa,ah,ai,ax,aI,aC,go_sem];try dsimp only[aA,aa,ah,ai,ax,aI,aC,go_sem]
   refine⟨(by simp[vb,h1,h2,h3]<;>omega),(by simp[vb,h1,h2,h3]<;>omega),?_⟩;refine bJ (jl (T:=[(46,fun _=>some (.bool true)),(13,fun _=>some (.bool true)),(47,fun _=>some (.bool q3))]) (H:=[]) ?_);dsimp only[aA,aa,ah,ai,ax,aI,aC,go_sem];try dsimp only[aA,aa,ah,ai,ax,aI,aC,go_sem]
   refine⟨(by first|exact True.intro|(simp only[vb,lb];omega)|(simp only[vb,lb,h1,h2,h3];and_intros<;>first|omega|(simp<;>omega))|(simp[vb,h1,h2,h3]<;>omega)),(by first|exact True.intro|((try dsimp only[go_sem]);first|(simp[vb,h1,h2,h3]<;>omega)|(simp only[vb,and_true,true_implies];(repeat' (first|(with_reducible assumption)|(with_reducible apply And.intro)|intro _|((fail_if_success (with_reducible show(_:Int)≤_));assumption)))<;>first|omega|rfl|(simp only[ab,h1,h2,h3];done)|(simp[Nat.mul_one,h1,h2,h3]<;>omega)|(simp_all;done)))),?_⟩
   refine fu [(46,fun _=>some (.bool true)),(13,fun _=>some (.bool true)),(47,fun _=>some (.bool q3))] ?_;dsimp only[aA,aa,ah,ai,ax,aI,aC,go_sem];exact⟨trivial,rfl⟩
end
end Pur
end
section
namespace Rf
def jU (c:Int) (a:Int):List Tm→Int
 |[]=>a
 |t::r=>jU c (if t.cell=c then t.fac else a) r
theorem pB (c:Int):∀(l m:List Tm) (a:Int),jU c a (l++m)=jU c (jU c a l) m
 |[],m,a=>rfl
 |t::r,m,a=>by rw[List.cons_append,jU,jU,pB c r m]
theorem td (c:Int):∀(l:List Tm) (a:Int),(∀t∈l,t.cell≠c)→jU c a l=a
 |[],_,_=>rfl
 |t::r,a,h=>by rw[jU,if_neg (h t (by simp)),td c r a fun x hx=>h x (by simp[hx])]
theorem xR (n c:Int):∀(l:List Tm) (last:Int),-1≤last→dF n last l=true→jU c 0 l=kP c l
 |[],_,_,_=>rfl
 |t::r,last,h,e=>by
  have h0:=(kU n (t::r) last h e).2 t (by simp);have e':=e;simp only[dF,Bool.and_eq_true]at e';have h2:=(kU n r t.cell (by omega) e'.2).2;rw[jU,kP];by_cases hc:t.cell=c
  ·rw[if_pos hc,if_pos hc];exact td c r _ fun x hx=>by have:=(h2 x hx).2.1;omega
  ·rw[if_neg hc,if_neg hc];exact xR n c r t.cell (by omega) e'.2
end Rf
namespace Pur
open Go.RowKit
open Rf
def c124:ay:=(⟨_,by conv=>(lhs;reduce;try simp only[cJ,Int.cast_ofNat_Int,Int.reduceNegSucc,UInt8.reduceOfNat])⟩:{x // codeOf Tryz.prog 124 (fun _=>false)=some x}).1
theorem Il:bp Tryz.prog 124 (fun _=>false)=some (c124,[.t 4],16,true):=by kernel_rfl
def c130:ay:=(⟨_,by conv=>(lhs;reduce;try simp only[cJ,Int.cast_ofNat_Int,Int.reduceNegSucc,UInt8.reduceOfNat])⟩:{x // codeOf Tryz.prog 130 (fun _=>false)=some x}).1
theorem Gq:bp Tryz.prog 130 (fun _=>false)=some (c130,[.t 6],22,true):=by kernel_rfl
def c109:ay:=(⟨_,by conv=>(lhs;reduce;try simp only[cJ,Int.cast_ofNat_Int,Int.reduceNegSucc,UInt8.reduceOfNat])⟩:{x // codeOf Tryz.prog 109 (fun _=>false)=some x}).1
theorem D3:bp Tryz.prog 109 (fun _=>false)=some (c109,[.cell 6 2 true],92,true):=by kernel_rfl
theorem AE (a f:Int) (hf:0<f) (h1: -1000000000000≤a) (h2:a≤1000000000000) (h3:f≤1000000000000):aj ctx 124 [.int .i64 a,.int .i64 f] (.int .i64 (a / f)):=by
 have hd:(a.tmod f<0∧a / f=a.tdiv f-1)∨(0≤a.tmod f∧a / f=a.tdiv f):=by
  rw[Av a f hf];split<;>omega
 have g2:=Int.tmod_lt_of_pos a hf;have g3:=Int.lt_tmod_of_pos a hf;have g4:(a.tdiv f).natAbs≤a.natAbs:=Int.natAbs_tdiv_le_natAbs a f;have hw:IntKind.i64.wrap (a.tdiv f)=a.tdiv f:=gP (by unfold lI;omega) (by unfold fX;omega);generalize a / f=q at *;refine af (C:=ctx) (Fn.of Il rfl) rfl ?_;unfold c124;repeat' (first|((with_reducible show aG _);first|exact True.intro|(simp[vb]<;>omega))|((with_reducible show aM _);exact True.intro)|exact(rfl:some _=_)|((fail_if_success refine aT ?_);refine br [(7,{mode:=1}),(11,{mode:=1}),(15,{mode:=1})] ?_;(repeat1' dsimp only[c124,go_sem]);first|refine aU ?_ ?_ rfl ?_|apply aV|apply aW|(refine aX (fun hc=>?_) fun hc=>?_<;>first|(cases hc;done)|(try simp only[bn]at hc;try contradiction))|skip))
 all_goals
  refine congrArg (fun x=>some (PV.int .i64 x)) ?_;omega
theorem Hq (t:Tm) (y:Rg) (h1: -1000≤t.fac) (h2:t.fac≤1000) (hy:mc y=true):aj ctx 130 [.agg [.int .i64 t.cell,.int .i64 t.fac],.agg [.int .i64 y.lo,.int .i64 y.hi],.bool true] (.int .i64 (if 0<t.fac then t.fac*y.lo else t.fac*y.hi)):=by
 have hy:=kV hy;have q1:=vE h1 h2 (show -1000000≤y.lo by omega) (by omega);have q2:=vE h1 h2 (show -1000000≤y.hi by omega) (by omega);by_cases hf:0<t.fac
 ·simp only[hf,if_true];refine af (C:=ctx) (Fn.of Gq rfl) rfl ?_;unfold c130;repeat' (first|((with_reducible show aG _);first|exact True.intro|(simp only[vb,lb,hf];and_intros<;>first|omega|(simp<;>omega)))|((with_reducible show aM _);exact True.intro)|exact(rfl:some _=_)|((fail_if_success refine aT ?_);refine aZ ?_;(repeat1' dsimp only[c130,go_sem]);first|refine aU ?_ ?_ rfl ?_|apply aV|apply aW|(refine aX (fun hc=>?_) fun hc=>?_<;>first|(cases hc;done)|(exfalso;(simp at hc<;>omega))|(try simp only[bn]at hc;try contradiction))|skip))
 ·simp only[hf,if_false];refine af (C:=ctx) (Fn.of Gq rfl) rfl ?_;unfold c130;repeat' (first|((with_reducible show aG _);first|exact True.intro|(simp only[vb,lb,hf];and_intros<;>first|omega|(simp<;>omega)))|((with_reducible show aM _);exact True.intro)|exact(rfl:some _=_)|((fail_if_success refine aT ?_);refine aZ ?_;(repeat1' dsimp only[c130,go_sem]);first|refine aU ?_ ?_ rfl ?_|apply aV|apply aW|(refine aX (fun hc=>?_) fun hc=>?_<;>first|(cases hc;done)|(exfalso;(simp at hc<;>omega))|(try simp only[bn]at hc;try contradiction))|skip))
end Pur
end
section
namespace Pur
open Go.RowKit
section
open Rf
theorem te (b:List Rg) (r:Rw) (c:Int) (hv:eA b [r]=true) (hc0:0≤c) (hc1:c<b.length) (hV:aj ctx 60 [ai b,.sl 1 [av r.terms,.int .i64 r.bound]] (.bool true)):aj ctx 109 [.agg [av r.terms,.int .i64 r.bound],ai b,.int .i64 c] (.agg [.int .i64 (fF r b c).lo,.int .i64 (fF r b c).hi]):=by
 obtain⟨v1,v2,v3,v4,v5,v6⟩:=sV hv;have hsm:=nB v1 c r.terms fun t ht=>by have:=v6 t ht;omega
 have e:=kA b c hc0 hc1;have hx:=kV (gC v1 c.toNat);have f1:=gX r.terms;have f2:=bN b;have hF:jU c 0 r.terms=kP c r.terms:=by
  have:=hv;simp only[eA,List.all_cons,List.all_nil,Bool.and_true,Bool.and_eq_true,gA]at this;exact xR _ c _ _ (by omega) this.2.1
 unfold fF;obtain⟨ts,bd⟩:=r;simp only at *;generalize hxx:b.getD c.toNat zr=x at *;clear hv;refine af (C:=ctx) (Fn.of D3 rfl) rfl ?_;unfold c109;repeat' (first|((with_reducible show aG _);first|exact True.intro|(simp only[vb,lb,e,f1,f2,hc0,hc1,hV];and_intros<;>first|omega|(simp<;>omega)))|((with_reducible show aM _);first|exact True.intro|((try dsimp only[go_sem]);first|(simp[vb,e,f1,f2,hc0,hc1,hV]<;>omega)|(simp only[vb,and_true,true_implies];(repeat' (first|(with_reducible assumption)|(with_reducible apply And.intro)|intro _|((fail_if_success (with_reducible show(_:Int)≤_));assumption)))<;>first|(simp only[ab,e,f1,f2,hc0,hc1,hV];done)|(simp[Nat.mul_one,e,f1,f2,hc0,hc1,hV]<;>omega))))|exact(rfl:some _=_)|((fail_if_success refine aT ?_);refine bX [(60,fun _=>some (.bool true))] [ξ 31 (.agg [.int .i64 x.lo,.int .i64 x.hi])] ?_;(repeat1' dsimp only[c109,av,ai,go_sem]);first|refine aU ?_ ?_ rfl ?_|apply aV|apply aW|(refine aX (fun hc=>?_) fun hc=>?_<;>first|(cases hc;done)|(exfalso;(simp at hc<;>omega))|(try simp only[bn]at hc;try contradiction))|skip))
 refine bg ts.length (fun _=>True) (fun k=>[(1,.pv (ai b)),(2,.pv (.int .i64 c)),(3,.ptr 0 0 0),(6,.ptr 1 0 0),(7,.ptr 2 0 0),(8,.pv (.int .i64 (bd-eF b c (ts.take k)))),(9,.pv (.int .i64 (jU c 0 (ts.take k)))),(10,.pv (.int .i64 k))]) (fun _=>[⟨[.pv (av ts),.pv (.int .i64 bd)],0,2,62,false⟩,⟨[.pv (.int .i64 0),.pv (.int .i64 0)],0,2,57,false⟩,⟨[.pv (.int .i64 x.lo),.pv (.int .i64 x.hi)],0,2,57,false⟩]) trivial (by (repeat' (first|exact trivial|refine And.intro (by first|rfl|(simp[get,Nat.beq,eF,jU]<;>omega)|(dsimp only[get];congr 1<;>first|rfl|omega|(simp<;>omega))) ?_))) ⟨_,rfl⟩ (fun _=>⟨Nat.zero_le _,rfl,rfl⟩) fun k hk _=>?_
 by_cases hlt:k<ts.length
 ·have e:=bM me ts k zm hlt;have h1:=mn b c (ts.take k) [ts.getD k zm];rw[←aJ ts k zm hlt,eF,eF]at h1;have h4:=pB c (ts.take k) [ts.getD k zm] 0;rw[←aJ ts k zm hlt,jU,jU]at h4;have h2:=nB v1 c (ts.take k) fun t ht=>by have:=v6 t (List.mem_of_mem_take ht);omega
  rw[List.length_take]at h2;obtain⟨q1,q2,q3,q4,q5⟩:=v6 _ (aO (d:=zm) hlt);have h3:=vF (t:=ts.getD k zm) v1 q4 q5;have hE:=Hq (ts.getD k zm) (b.getD (ts.getD k zm).cell.toNat zr) q4 q5 (gC v1 _);have hen:y6 b (ts.getD k zm)=if 0<(ts.getD k zm).fac then (ts.getD k zm).fac*(b.getD (ts.getD k zm).cell.toNat zr).lo else (ts.getD k zm).fac*(b.getD (ts.getD k zm).cell.toNat zr).hi:=rfl
  rw[←hen]at hE;clear hen;rw[h1,h4];clear h1 h4 v6;generalize ts.getD k zm=x at *;generalize y6 b x=en at *;have e2:=kA b x.cell q1 q2;generalize b.getD x.cell.toNat zr=y at *;generalize eF b c (ts.take k)=sm at *;generalize jU c 0 (ts.take k)=lf at *;by_cases hcc:x.cell=c
  ·repeat' (first|((with_reducible show aG _);(simp only[vb,lb,e,e2,f1,f2,hlt,q1,q2,j5,hcc];and_intros<;>first|omega|(simp<;>omega)))|((with_reducible show aM _);first|exact True.intro|((try dsimp only[go_sem]);(simp[vb,e,e2,f1,f2,hlt,q1,q2,j5,hcc]<;>omega)))|exact(rfl:some _=_)|((fail_if_success refine aT ?_);refine br [ξ 45 (.agg [.int .i64 x.cell,.int .i64 x.fac]),ξ 49 (.bool true)] ?_;(repeat1' dsimp only[c109,av,ai,go_sem]);first|refine aU ?_ ?_ rfl ?_|apply aV|apply aW|(refine aX (fun hc=>?_) fun hc=>?_<;>first|(cases hc;done)|(exfalso;(simp at hc<;>omega))|(try simp only[bn]at hc;try contradiction))|skip))
   refine⟨hlt,trivial,by simp[hcc];(repeat' (first|exact trivial|refine And.intro (by first|rfl|(simp[get,Nat.beq]<;>omega)|(dsimp only[get];congr 1<;>first|rfl|omega|(simp<;>omega))) ?_)),_,rfl⟩
  ·repeat' (first|((with_reducible show aG _);(simp only[vb,lb,e,e2,f1,f2,hlt,q1,q2,j5,hcc,hE];and_intros<;>first|omega|(simp<;>omega)))|((with_reducible show aM _);first|exact True.intro|((try dsimp only[go_sem]);(simp[vb,e,e2,f1,f2,hlt,q1,q2,j5,hcc,hE]<;>omega)))|exact(rfl:some _=_)|((fail_if_success refine aT ?_);refine bX [(130,fun _=>some (.int .i64 en))] [ξ 45 (.agg [.int .i64 x.cell,.int .i64 x.fac]),ξ 49 (.bool false),ξ 58 (.agg [.int .i64 y.lo,.int .i64 y.hi])] ?_;(repeat1' dsimp only[c109,av,ai,go_sem]);first|refine aU ?_ ?_ rfl ?_|apply aV|apply aW|(refine aX (fun hc=>?_) fun hc=>?_<;>first|(cases hc;done)|(exfalso;(simp at hc<;>omega))|(try simp only[bn]at hc;try contradiction))|skip))
   refine⟨hlt,trivial,by simp[hcc];(repeat' (first|exact trivial|refine And.intro (by first|rfl|(simp[get,Nat.beq]<;>omega)|(dsimp only[get];congr 1<;>first|rfl|omega|(simp<;>omega))) ?_)),_,rfl⟩
 ·obtain rfl:k=ts.length:=by omega
  have hfb: -1000≤kP c ts∧kP c ts≤1000:=by
   rcases ql c ts with⟨g1,g2⟩|⟨k,g1,g2,g3⟩
   ·rw[oI c ts g2];omega
   ·rw[g3];have:=v6 _ (aO (d:=zm) g2);omega
  rw[List.take_length,hF];clear v6 hF;generalize kP c ts=f at *;generalize eF b c ts=sm at *;by_cases f0:f=0
  ·subst f0;simp only[if_true];repeat' (first|((with_reducible show aG _);first|exact True.intro|(simp only[vb,lb,hlt];and_intros<;>first|omega|(simp<;>omega)))|((with_reducible show aM _);first|exact True.intro|((try dsimp only[go_sem]);(simp[vb,hlt]<;>omega)))|exact(rfl:some _=_)|((fail_if_success refine aT ?_);refine aZ ?_;(repeat1' dsimp only[c109,av,ai,go_sem]);first|refine aU ?_ ?_ rfl ?_|apply aV|apply aW|(refine aX (fun hc=>?_) fun hc=>?_<;>first|(cases hc;done)|(exfalso;(simp at hc<;>omega))|(try simp only[bn]at hc;try contradiction))|skip))
  ·by_cases hf:0<f
   ·have hd:=AE (bd-sm) f hf (by omega) (by omega) (by omega);simp only[hf,f0,if_true,if_false];generalize (bd-sm) / f=q at *;repeat' (first|((with_reducible show aG _);first|exact True.intro|(simp only[vb,lb,hlt,hd,hf];and_intros<;>first|omega|(simp<;>omega)))|((with_reducible show aM _);first|exact True.intro|((try dsimp only[go_sem]);(simp[vb,hlt,hd,hf]<;>omega)))|exact(rfl:some _=_)|((fail_if_success refine aT ?_);refine fu [(124,fun _=>some (.int .i64 q))] ?_;(repeat1' dsimp only[c109,av,ai,go_sem]);first|refine aU ?_ ?_ rfl ?_|apply aV|apply aW|(refine aX (fun hc=>?_) fun hc=>?_<;>first|(cases hc;done)|(exfalso;(simp at hc<;>omega))|(try simp only[bn]at hc;try contradiction))|skip))
    ·rw[ei]at hc;rw[if_pos hc.2]
    ·rw[ei]at hc ⊢;rw[if_neg (hc.resolve_left f0)]
   ·have hd:=AE (bd-sm) (-f) (by omega) (by omega) (by omega) (by omega);have hq:((bd-sm) / -f).natAbs≤(bd-sm).natAbs:=Int.natAbs_ediv_le_natAbs _ _;simp only[hf,f0,if_false];generalize (bd-sm) / -f=q at *;repeat' (first|((with_reducible show aG _);first|exact True.intro|(simp only[vb,lb,hlt,hd,hf];and_intros<;>first|omega|(simp<;>omega)))|((with_reducible show aM _);first|exact True.intro|((try dsimp only[go_sem]);(simp[vb,hlt,hd,hf]<;>omega)))|exact(rfl:some _=_)|((fail_if_success refine aT ?_);refine fu [(124,fun _=>some (.int .i64 q))] ?_;(repeat1' dsimp only[c109,av,ai,go_sem]);first|refine aU ?_ ?_ rfl ?_|apply aV|apply aW|(refine aX (fun hc=>?_) fun hc=>?_<;>first|(cases hc;done)|(exfalso;(simp at hc<;>omega))|(try simp only[bn]at hc;try contradiction))|skip))
    ·rw[iw]at hc;rw[if_pos hc.2]
    ·rw[iw]at hc ⊢;rw[if_neg (hc.resolve_left f0)]
theorem tI (b:List Rg) (r:Rw) (c:Int) (hb:b.length≤1000000000) (hr:r.terms.length≤1000000000):aj ctx 109 [.agg [av r.terms,.int .i64 r.bound],ai b,.int .i64 c] (.agg [.int .i64 (dS r b c).lo,.int .i64 (dS r b c).hi]):=by
 have hv:aj ctx 60 [.sl b.length (b.flatMap fW),.sl 1 [.sl r.terms.length (r.terms.flatMap j5),.int .i64 r.bound]] (.bool (eA b [r])):=jo b [r] hb (by simp) fun x hx=>by simp at hx;subst hx;exact hr
 by_cases hc:eA b [r]=true∧0≤c∧c<b.length
 ·rw[hc.1]at hv;have ht:=te b r c hc.1 hc.2.1 hc.2.2 hv;rw[show dS r b c=fF r b c by rw[dS,if_pos hc]];exact ht
 ·rw[show dS r b c=zr by rw[dS,if_neg hc]];generalize eA b [r]=q at *;cases q with
  |false =>
   refine af (C:=ctx) (Fn.of D3 rfl) rfl ?_;unfold c109;repeat' (first|((with_reducible show aG _);first|exact True.intro|(simp only[vb,lb,hv];and_intros<;>first|omega|(simp<;>omega)))|((with_reducible show aM _);first|exact True.intro|((try dsimp only[go_sem]);(simp[vb,hv]<;>omega)))|exact(rfl:some _=_)|((fail_if_success refine aT ?_);refine fu [(60,fun _=>some (.bool false))] ?_;(repeat1' dsimp only[c109,av,ai,go_sem]);first|refine aU ?_ ?_ rfl ?_|apply aV|apply aW|(refine aX (fun hc=>?_) fun hc=>?_<;>first|(cases hc;done)|(try simp only[bn]at hc;try contradiction))|skip))
  |true =>
   have hn:¬(0≤c∧c<b.length):=fun h=>hc ⟨rfl,h⟩
   clear hc;refine af (C:=ctx) (Fn.of D3 rfl) rfl ?_;unfold c109;repeat' (first|((with_reducible show aG _);first|exact True.intro|(simp only[vb,lb,hv];and_intros<;>first|omega|(simp<;>omega)))|((with_reducible show aM _);first|exact True.intro|((try dsimp only[go_sem]);(simp[vb,hv]<;>omega)))|exact(rfl:some _=_)|((fail_if_success refine aT ?_);refine fu [(60,fun _=>some (.bool true))] ?_;(repeat1' dsimp only[c109,av,ai,go_sem]);first|refine aU ?_ ?_ rfl ?_|apply aV|apply aW|(refine aX (fun hc=>?_) fun hc=>?_<;>first|(cases hc;done)|(exfalso;(simp at hc<;>omega))|(try simp only[bn]at hc;try contradiction))|skip))
end
section
open Rf
def D4:ay:=(⟨_,by conv=>(lhs;reduce;try simp only[cJ,Int.cast_ofNat_Int,Int.reduceNegSucc,UInt8.reduceOfNat])⟩:{x // codeOf Tryz.prog 132 (fun d=>Nat.beq d 7)=some x}).1
theorem Im:bp Tryz.prog 132 (fun d=>Nat.beq d 7)=some (D4,[.t 4],35,true):=by kernel_rfl
theorem zB (b:List Rg) (g:Gr) (hg:bH b.length g=true) (hb:b.length≤1000000000):aj ctx 132 [.agg [.int .i64 g.first,.int .i64 g.size,an g.least],ai b] (bF (di g b)):=by
 simp only[bH,aL,Bool.and_eq_true,decide_eq_true_eq]at hg;obtain⟨⟨⟨⟨⟨g1,g2⟩,g3⟩,g4⟩,g5⟩,g6⟩:=hg;have hsq:=n3 g1 g2;obtain⟨fi,hfi⟩:∃fi:Nat,g.first=fi:=⟨g.first.toNat,by omega⟩
 have hpl:=mo g b;have hat:=qG g b;have f1:=dj g.least;have f2:=bN b;obtain⟨_,n,le⟩:=g;simp only at *;subst hfi;generalize di ⟨fi,n,le⟩ b=ps at *;refine af (C:=ctx) (Fn.of Im rfl) rfl ?_;unfold D4;repeat' (first|((with_reducible first|show aG _|show aM _);simp[vb]<;>omega)|exact(rfl:some _=_)|((fail_if_success refine aT ?_);refine aZ ?_;(repeat1' dsimp only[D4,an,ai,go_sem]);first|refine aU ?_ ?_ rfl ?_|apply aV|apply aW|(refine aX (fun hc=>?_) fun hc=>?_<;>first|(cases hc;done)|(exfalso;simp at hc<;>omega)|(try simp only[bn]at hc;try contradiction))|skip))
 refine bg le.length (fun _=>True) (fun j=>[(1,.pv (ai b)),(2,.ptr 0 0 0),(5,.ref 1 j 0 j),(6,.pv (.int .i64 j))]) (fun j=>[⟨[.pv (.int .i64 fi),.pv (.int .i64 n),.pv (an le)],0,3,99,false⟩,⟨((ps.take j).flatMap dG).map .pv,j,1,4,false⟩]) trivial (by (repeat' (first|exact trivial|refine And.intro (by first|rfl|(simp[get,Nat.beq]<;>omega)|(dsimp only[get];congr 1<;>first|rfl|omega|(simp<;>omega))) ?_))) ⟨[],rfl⟩ (fun _=>⟨Nat.zero_le _,rfl,by simp[aP,ck]⟩) fun j hk _=>?_
 by_cases hlt:j<le.length
 ·have e1:=iv (g:=bO) (fun _=>rfl) le j 0 default hlt;have e2:=sZ b (fi+j) (by omega);have e3:=hat j hlt;have e6:((fi:Int)+(j:Int))=((fi+j:Nat):Int):=by simp
  have hs:=aJ ps j false (by omega);have e7:=eT (ps.take j);have hl:(ps.take j).length=j:=by rw[List.length_take];omega
  have hlt2:fi+j<b.length:=by omega
  rw[Int.toNat_natCast]at e3;rw[hs,e3];rw[hl]at e7;clear hs e3 hat;generalize ps.take j=v at *;generalize le.getD j 0=lj at *;generalize (b.getD (fi+j) zr).lo=lo at *;repeat' (first|((with_reducible show aG _);(simp only[vb,lb,e1,e2,e7,hlt,hlt2,hpl,f1,f2,g5];and_intros<;>first|omega|(simp<;>omega)))|((with_reducible show aM _);first|exact True.intro|((try dsimp only[go_sem]);first|(simp[vb,e1,e2,e7,hlt,hlt2,hpl,f1,f2,g5]<;>omega)|(simp only[vb,and_true,true_implies];(repeat' (first|(with_reducible assumption)|(with_reducible apply And.intro)|intro _|((fail_if_success (with_reducible show(_:Int)≤_));assumption)))<;>first|rfl|(simp only[ab,e1,e2,e7,hlt,hlt2,hpl,f1,f2,g5];done))))|exact(rfl:some _=_)|((fail_if_success refine aT ?_);refine br [ξ 14 (.bool true),ξ 22 (.int .i64 (fi+j:Nat)),ξ 25 (.int .i64 lo),ξ 30 (.int .i64 lj),(33,{mode:=1})] ?_;(repeat1' dsimp only[D4,an,ai,go_sem]);first|refine aU ?_ ?_ rfl ?_|apply aV|apply aW|(refine aX (fun hc=>?_) fun hc=>?_<;>first|(cases hc;done)|(try simp only[bn]at hc;try contradiction))|skip))
  exact⟨hlt,trivial,by (repeat' (first|exact trivial|refine And.intro (by first|rfl|(simp[get,Nat.beq]<;>omega)|(dsimp only[get];congr 1<;>first|rfl|omega|(simp<;>omega))) ?_)),[],by simp[List.flatMap_append,dG]⟩
 ·obtain rfl:j=le.length:=by omega
  have ht:ps.take le.length=ps:=List.take_of_length_le (by omega);simp only[ht];have f3:=eT ps;repeat' (first|((with_reducible show aG _);first|exact True.intro|(simp only[vb,lb,hlt,g5];and_intros<;>first|omega|(simp<;>omega)))|((with_reducible show aM _);first|exact True.intro|((try dsimp only[go_sem]);(simp[vb,hlt,g5]<;>omega)))|exact(rfl:some _=_)|((fail_if_success refine aT ?_);refine br [ξ 14 (.bool false)] ?_;(repeat1' dsimp only[D4,an,ai,go_sem]);first|refine aU ?_ ?_ rfl ?_|apply aV|apply aW|(refine aX (fun hc=>?_) fun hc=>?_<;>first|(cases hc;done)|(try simp only[bn]at hc;try contradiction))|skip))
  unfold bF;rw[hpl];exact o0 rfl rfl rfl (by rw[List.drop_zero,List.take_of_length_le (by simp only[List.length_map];omega)]) (by simp only[List.length_map];omega)
end
end Pur
end
end Go.Proofs.YtaleoeblooeglaaGreatDoor