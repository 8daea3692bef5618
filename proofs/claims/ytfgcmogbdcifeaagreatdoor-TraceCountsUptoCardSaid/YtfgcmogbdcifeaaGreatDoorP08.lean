/-
  Part of the proofs of TraceFigures and TraceCounts (TrQA TrQB TrTn TrCdCounts)
-/
import Derived.Test.YtfgcmogbdcifeaaGreatDoorP06
set_option maxRecDepth 10000
set_option maxHeartbeats 32000000
set_option linter.unusedSimpArgs false
set_option linter.unusedVariables false
namespace Go.Proofs.YtfgcmogbdcifeaaGreatDoor
section
namespace Pur
open Go.RowKit
section
open Tr
def ny (l:List En) (n:Nat):Fi:=(bO l n).foldr (fun a f=>cy (cE l a n) (l.getD a zx).tick f) (dm l n)
theorem iF {l:List En} {n j:Nat} (h:j<n):(l.take n).getD j zx=l.getD j zx:=by
 simp[List.getD,List.getElem?_take,h]
theorem Ed {l:List En} {n i:Nat} (hi:i<n):∀k,k≤n→td (l.take n) i k=td l i k
 |0,_=>rfl
 |k+1,h=>by rw[td,td,iF (by omega),iF hi,Ed hi k (by omega)]
theorem zX {l:List En} {n a:Nat}:∀k,k≤n→cE (l.take n) a k=cE l a k
 |0,_=>rfl
 |k+1,h=>by
  have:gz (l.take n) k k=gz l k k:=by unfold gz;rw[Ed (by omega) k (by omega)]
  rw[cE,cE,iF (by omega),this,zX k (by omega)]
theorem zY {l:List En} {n:Nat}:∀k,k≤n→dm (l.take n) k=dm l k
 |0,_=>rfl
 |k+1,h=>by
  rw[dm,dm,zY k (by omega)];unfold kg;rw[iF (by omega)]
theorem zZ {l:List En} {n:Nat}:∀k,k≤n→bO (l.take n) k=bO l k
 |0,_=>rfl
 |k+1,h=>by rw[eH,eH,iF (by omega),zZ k (by omega)]
theorem foldr_eq {α β:Type} {f g:α→β→β}:∀{l:List α} {b:β},(∀a∈l,∀b,f a b=g a b)→l.foldr f b=l.foldr g b
 |[],_,_=>rfl
 |a::l,b,h=>by
  rw[List.foldr_cons,List.foldr_cons,foldr_eq fun x hx=>h x (by simp[hx])];exact h a (by simp) _
theorem Ee (l:List En) (n:Nat) (hn:n≤l.length):gT (l.take n) (l.take n).length=ny l n:=by
 have hl:(l.take n).length=n:=by rw[List.length_take];omega
 rw[nv,hl,zZ n (Nat.le_refl _),zY n (Nat.le_refl _)];unfold ny;refine foldr_eq fun a ha b=>?_
 have:=(oH.mp ha).1;unfold pw;rw[hl,zX n (Nat.le_refl _),iF this]
structure Bx (f g:Fi):Prop where
 a0:f.submitted≤g.submitted
 a1:f.executed≤g.executed
 a3:f.waited≤g.waited
 a5:f.events≤g.events
 a6:f.deliveries≤g.deliveries
 a7:f.reads≤g.reads
 a8:f.waits≤g.waits
 a9:f.busy≤g.busy
 a10:f.crashes≤g.crashes
 a11:f.restarts≤g.restarts
 a12:f.full≤g.full
 a13:f.ticks≤g.ticks
 a14:f.longest≤g.longest
theorem Bx.trans {f g h:Fi} (a:Bx f g) (b:Bx g h):Bx f h:=by
 obtain⟨a0,a1,a3,a5,a6,a7,a8,a9,a10,a11,a12,a13,a14⟩:=a;obtain⟨b0,b1,b3,b5,b6,b7,b8,b9,b10,b11,b12,b13,b14⟩:=b;constructor<;>omega
structure NK (F G:Ft):Prop where
 w:F.w=true→G.w=true
 e:F.e=true→G.e=true∧G.t=F.t
theorem By {F:Ft} {t:Int} {f g:Fi} (h:Bx f g):Bx (cy F t f) (cy F t g):=by
 obtain⟨a0,a1,a3,a5,a6,a7,a8,a9,a10,a11,a12,a13,a14⟩:=h;obtain⟨w,e,r,s,u⟩:=F;unfold cy;cases w<;>cases e<;>cases r<;>simp only[if_true,if_false,Bool.false_eq_true]<;>constructor<;>(try simp only)<;>(repeat' split)<;>omega
theorem Bz {F G:Ft} {t:Int} {f:Fi} (h:NK F G) (ht:G.e=true→t≤G.t):Bx (cy F t f) (cy G t f):=by
 obtain⟨h1,h2⟩:=h;obtain⟨w,e,r,s,u⟩:=F;obtain⟨w',e',r',s',u'⟩:=G;simp only at h1 h2 ht;unfold cy;cases w<;>cases e<;>cases r<;>cases w'<;>cases e'<;>cases r'<;>simp only[if_true,if_false,Bool.false_eq_true]<;>simp at h1 h2 ht<;>constructor<;>(try simp only)<;>(repeat' split)<;>omega
theorem FN {F:Ft} {t:Int} {f:Fi} (ht:F.e=true→t≤F.t):Bx f (cy F t f):=by
 obtain⟨w,e,r,s,u⟩:=F;simp only at ht;unfold cy;cases w<;>cases e<;>cases r<;>simp only[if_true,if_false,Bool.false_eq_true]<;>simp at ht<;>constructor<;>(try simp only)<;>(repeat' split)<;>omega
theorem Ef (l:List En) (k:Nat) (f:Fi):Bx f (kg l k f):=by
 unfold kg;simp only;(repeat' split)<;>constructor<;>(try simp only)<;>omega
theorem FO (l:List En) (a k:Nat):NK (cE l a k) (cE l a (k+1)):=by
 rw[cE];split
 ·refine⟨fun h=>by simp[jn,h],fun h=>?_⟩;simp[jn,h]
 exact⟨id,fun h=>⟨h,rfl⟩⟩
theorem mF {l:List En} (hs:∀i j,i≤j→j<l.length→(l.getD i zx).tick≤(l.getD j zx).tick) (a:Nat):∀k,k≤l.length→(cE l a k).e=true→(l.getD a zx).tick≤(cE l a k).t
 |0,_,h=>by simp[cE,z0]at h
 |k+1,hk,h=>by
  have ih:=mF hs a k (by omega);rw[cE]at h ⊢;split at h
  ·rename_i hc;rw[if_pos hc];have hak:a<k:=by
    rcases lp l k with h0|⟨b,h1,h2,-⟩
    ·rw[h0]at hc;have:=hc.2;omega
    rw[h1]at hc;have:=hc.2;omega
   have h1:=hs a k (by omega) (by omega);simp only[jn]at h ⊢;split
   ·exact h1
   rename_i hn;cases he:(cE l a k).e with
   |true=>exact ih he
   |false =>
    rw[he]at h hn;simp at h hn;exact absurd h hn
  rename_i hc;rw[if_neg hc];exact ih h
theorem vl {l:List En} (hs:∀i j,i≤j→j<l.length→(l.getD i zx).tick≤(l.getD j zx).tick) {n:Nat} (hn:n+1≤l.length):∀(ss:List Nat) {f g:Fi},Bx f g →
  Bx (ss.foldr (fun a f=>cy (cE l a n) (l.getD a zx).tick f) f) (ss.foldr (fun a f=>cy (cE l a (n+1)) (l.getD a zx).tick f) g)
 |[],_,_,h=>h
 |a::ss,f,g,h=>by
  rw[List.foldr_cons,List.foldr_cons];exact(By (vl hs hn ss h)).trans (Bz (FO l a n) (mF hs a (n+1) hn))
theorem KG {l:List En} (hs:∀i j,i≤j→j<l.length→(l.getD i zx).tick≤(l.getD j zx).tick) {n:Nat} (hn:n+1≤l.length):Bx (ny l n) (ny l (n+1)):=by
 unfold ny;rw[eH,dm];split
 ·rw[List.foldr_append];exact vl hs hn _ ((Ef l n _).trans (FN (mF hs n (n+1) hn)))
 exact vl hs hn _ (Ef l n _)
structure BA (f:Fi) (m k:Int):Prop where
 s0:f.submitted=k
 s1:f.executed+f.refused+f.opn=m
 s2:f.waited≤m
 s3:0≤f.ticks
 s4:f.longest≤f.ticks
theorem BB {F:Ft} {t:Int} {f:Fi} {m k:Int} (ht:F.e=true→t≤F.t) (h:BA f m k):BA (cy F t f) (m+1) k:=by
 obtain⟨h0,h1,h2,h3,h4⟩:=h;obtain⟨w,e,r,s,u⟩:=F;simp only at ht;unfold cy;cases w<;>cases e<;>cases r<;>simp only[if_true,if_false,Bool.false_eq_true]<;>simp at ht<;>constructor<;>(try simp only)<;>(repeat' split)<;>omega
theorem tY (l:List En):∀k:Nat,BA (dm l k) 0 (bO l k).length
 |0=>by constructor<;>simp[dm,zf,bO]
 |k+1=>by
  obtain⟨h0,h1,h2,h3,h4⟩:=tY l k;rw[dm,eH];unfold kg;simp only;by_cases hk:(l.getD k zx).kind=0
  ·rw[if_pos hk,if_pos hk];constructor<;>(try simp only[List.length_append,List.length_singleton])<;>omega
  rw[if_neg hk,if_neg hk];(repeat' split)<;>constructor<;>(try simp only)<;>omega
theorem tZ {l:List En} (hs:∀i j,i≤j→j<l.length→(l.getD i zx).tick≤(l.getD j zx).tick) {n:Nat} (hn:n≤l.length) {g:Fi} {k:Int} (hg:BA g 0 k):∀(ss:List Nat),BA (ss.foldr (fun a f=>cy (cE l a n) (l.getD a zx).tick f) g) ss.length k
 |[]=>hg
 |a::ss=>by
  rw[List.foldr_cons];have:=BB (mF hs a n hn) (tZ hs hn hg ss);rw[show(((a::ss).length:Nat):Int)=(ss.length:Int)+1 by simp];exact this
theorem Eg {l:List En} (hs:∀i j,i≤j→j<l.length→(l.getD i zx).tick≤(l.getD j zx).tick) {n:Nat} (hn:n≤l.length):BA (ny l n) (bO l n).length (bO l n).length:=tZ hs hn (tY l n) _
def oI (f:Fi):Int:=f.submitted+f.events+f.deliveries+f.reads+f.waits+f.busy+f.crashes+f.restarts+f.full
theorem Eh (F:Ft) (t:Int) (f:Fi):oI (cy F t f)=oI f:=by
 obtain⟨w,e,r,s,u⟩:=F;unfold cy oI;cases w<;>cases e<;>cases r<;>simp
def eg (l:List En) (d:Int):Nat→Int
 |0=>0
 |k+1=>if (l.getD k zx).kind=d then eg l d k+1 else eg l d k
theorem Ei (l:List En) (k:Nat) (f:Fi) (h:0≤(l.getD k zx).kind∧(l.getD k zx).kind≤9):oI (kg l k f)+(if (l.getD k zx).kind=7 then 1 else 0)+(if (l.getD k zx).kind=1 then 1 else 0)=oI f+1:=by
 unfold kg oI;dsimp only;generalize l.getD k zx=x at *;obtain⟨ha,hb⟩:=h;(repeat' split)<;>(try dsimp only)<;>omega
theorem xm (l:List En) (h:∀i,i<l.length→0≤(l.getD i zx).kind∧(l.getD i zx).kind≤9):∀k:Nat,k≤l.length→oI (dm l k)+eg l 7 k+eg l 1 k=k
 |0,_=>by simp[dm,oI,zf,eg]
 |k+1,hk=>by
  have ih:=xm l h k (by omega);have hh:=Ei l k (dm l k) (h k (by omega));rw[dm,eg,eg];generalize oI (kg l k (dm l k))=a at *;generalize oI (dm l k)=b at *;split at hh<;>split at hh<;>simp only[*,if_true,if_false]<;>omega
theorem FP {l:List En} (h:∀i,i<l.length→0≤(l.getD i zx).kind∧(l.getD i zx).kind≤9) {n:Nat} (hn:n≤l.length):oI (ny l n)+eg l 7 n+eg l 1 n=n:=by
 have:oI (ny l n)=oI (dm l n):=by
  unfold ny;generalize bO l n=ss;induction ss with
  |nil=>rfl
  |cons a ss ih=>rw[List.foldr_cons,Eh,ih]
 rw[this];exact xm l h n hn
end
end Pur
end
section
namespace Pur
open Go.RowKit
attribute [local go_sem] ξ cV ff cI bG cT jR List.map bF aN get put tmpsOf fi qu nz pK conds ev cond_true cond_false Nat.beq Nat.ble Nat.add quiet gN eb ec BD List.append_eq List.nil_append List.cons_append eD uc pJ jc jd je jf jg jh lr jK gg sR iN calm quiet.isCallK eJ List.getElem?_cons_zero List.getElem?_cons_succ cS er cellsOf List.all cH List.length_cons List.length_nil ia cG List.drop List.take List.getD Option.getD_some HR HS FV HT HU HV mV rb mW mX setAt List.set Nat.reduceAdd Nat.reduceMul dW cP refsOf cz dD scalar fu gI dw fq bI after freeze nW pO bM gw jI kQ iM kB kC iV kD kE kH kI kJ kK kL kM kN kO kP iW iX iY cY sS bytesOf cA fg aV dx fG cv dp eK still dT gH cj kh cZ jv List.isEmpty iZ ja jb Int.reduceToNat Nat.mul_one Nat.reduceSub ux gx fa eN fO look eO strip guarded nY pA ju bj iL eh mN kF kG Bool.or_false Bool.or_true Bool.and_true Bool.and_false Nat.blt rh mZ mY fF idxOf nX mG re fX bI uy
section
open Tr
def c6:af:=(⟨_,by conv=>(lhs;reduce;try simp only[bD,Int.cast_ofNat_Int,Int.reduceNegSucc,UInt8.reduceOfNat])⟩:{x // codeOf Tryz.prog 6 (fun _=>false)=some x}).1
theorem OX:aD Tryz.prog 6 (fun _=>false)=some (c6,[.t 2],208,true):=by kernel_rfl
def xn (l:List En) (k:Nat):Fi:=match k with
 |0=>zf
 |k+1=>ny l k
theorem prev_le {l:List En} (hs:∀i j,i≤j→j<l.length→(l.getD i zx).tick≤(l.getD j zx).tick):∀(k:Nat),k≤l.length→Bx (xn l k) (ny l k)
 |0,_=>by constructor<;>simp[xn,ny,bO,dm,zf]
 |k+1,h=>KG hs h
theorem ua {h:Hi} (hv:bS h=true) (n:Nat) (hn:n≤h.l.length):bS {h with l:=h.l.take n}=true:=by
 have hl:(h.l.take n).length=n:=by rw[List.length_take];omega
 simp only[bS,Bool.and_eq_true,decide_eq_true_eq]at hv ⊢;obtain⟨⟨h1,h2⟩,h3⟩:=hv;refine⟨⟨h1,by rw[hl];omega⟩,List.all_eq_true.mpr fun i hi=>?_⟩;rw[hl]at hi;have hi:=List.mem_range.mp hi;have:=List.all_eq_true.mp h3 i (List.mem_range.mpr (by omega));simp only[fT]at this ⊢;rw[iF hi,iF (by omega)];exact this
theorem yT {h:Hi} (hv:bS h=true):∀i,i<h.l.length→0≤(h.l.getD i zx).kind∧(h.l.getD i zx).kind≤9:=fun i hi=>by
 have hs:=ll hv i hi;simp only[fT,Bool.and_eq_true,dF,decide_eq_true_eq]at hs;obtain⟨⟨⟨⟨⟨⟨⟨⟨⟨-,-⟩,-⟩,-⟩,q5⟩,q6⟩,-⟩,-⟩,-⟩,-⟩:=hs;exact⟨q5,q6⟩
theorem NL {h:Hi} (hv:bS h=true) (n:Nat) (hn:n≤h.l.length):BF (ny h.l n) n:=by
 have hp:=ua hv n hn;have hl:(h.l.take n).length=n:=by rw[List.length_take];omega
 have:=qm (h.l.take n) (ln hp) (fun i j=>jm hp i j) n (by omega);rw[←Ee h.l n hn,hl];exact this
theorem sN (l:List En) (d:Int):∀k:Nat,0≤eg l d k∧eg l d k≤k
 |0=>by simp[eg]
 |k+1=>by
  have:=sN l d k;rw[eg];split<;>omega
theorem BC (hA:ah ctx 8 [] (.bool true)) (h:Hi) (hw:∀x∈h.l,zK x) (hs:h.state.length≤1000000000) (hl:h.l.length≤1000000000):ah ctx 6 [eA h] (.bool true):=by
 have f1:=aU h.state;have f2:=bW aR h.l;have x1:=sC h 30 hw hl;have x2:=sA h hw hs hl;cases hb:kU h 30 with
 |false =>
  rw[hb]at x1;refine aj (C:=ctx) (Fn.of OX rfl) rfl ?_;unfold c6;repeat' (first|((with_reducible show aI _);first|exact True.intro|(simp only[vb,lb];omega)|(simp only[vb,lb,hA,x1,x2,f1,f2];and_intros<;>first|omega|(simp<;>omega))|(simp[vb,hA,x1,x2,f1,f2]<;>omega))|((with_reducible show aP _);first|exact True.intro|((try dsimp only[go_sem]);first|(simp[vb,hA,x1,x2,f1,f2]<;>omega)|(simp only[vb,and_true,true_implies];(repeat' (first|(with_reducible assumption)|(with_reducible apply And.intro)|intro _|((fail_if_success (with_reducible show(_:Int)≤_));assumption)))<;>first|omega|rfl|(simp only[ab,hA,x1,x2,f1,f2];done)|(simp[Nat.mul_one,hA,x1,x2,f1,f2]<;>omega)|(simp_all;done))))|exact(rfl:some _=_)|((fail_if_success refine aZ ?_);refine lA [(8,fun _=>some (.bool true)),(17,fun _=>some (.bool false)),(22,fun _=>some (.bool (bS h)))] ?_;(repeat1' dsimp only[c6,eA,gy,aa,bp,go_sem]);first|refine ba ?_ ?_ rfl ?_|apply bb|apply bf|(refine bg (fun hc=>?_) fun hc=>?_<;>first|(cases hc;done)|(exfalso;first|(simp at hc<;>omega)|(simp[hA,x1,x2,f1,f2]at hc;done))|(try simp only[bn]at hc;try contradiction))|skip))
 |true =>
 cases hv:bS h with
 |false =>
  rw[hb]at x1;rw[hv]at x2;refine aj (C:=ctx) (Fn.of OX rfl) rfl ?_;unfold c6;repeat' (first|((with_reducible show aI _);first|exact True.intro|(simp only[vb,lb];omega)|(simp only[vb,lb,hA,x1,x2,f1,f2];and_intros<;>first|omega|(simp<;>omega))|(simp[vb,hA,x1,x2,f1,f2]<;>omega))|((with_reducible show aP _);first|exact True.intro|((try dsimp only[go_sem]);first|(simp[vb,hA,x1,x2,f1,f2]<;>omega)|(simp only[vb,and_true,true_implies];(repeat' (first|(with_reducible assumption)|(with_reducible apply And.intro)|intro _|((fail_if_success (with_reducible show(_:Int)≤_));assumption)))<;>first|omega|rfl|(simp only[ab,hA,x1,x2,f1,f2];done)|(simp[Nat.mul_one,hA,x1,x2,f1,f2]<;>omega)|(simp_all;done))))|exact(rfl:some _=_)|((fail_if_success refine aZ ?_);refine lA [(8,fun _=>some (.bool true)),(17,fun _=>some (.bool true)),(22,fun _=>some (.bool false))] ?_;(repeat1' dsimp only[c6,eA,gy,aa,bp,go_sem]);first|refine ba ?_ ?_ rfl ?_|apply bb|apply bf|(refine bg (fun hc=>?_) fun hc=>?_<;>first|(cases hc;done)|(exfalso;first|(simp at hc<;>omega)|(simp[hA,x1,x2,f1,f2]at hc;done))|(try simp only[bn]at hc;try contradiction))|skip))
 |true =>
 rw[hb]at x1;rw[hv]at x2;have hn:=tW hb;have hsm:=xk hb;have hso:=jm hv;refine aj (C:=ctx) (Fn.of OX rfl) rfl ?_;unfold c6;repeat' (first|((with_reducible show aI _);first|exact True.intro|(simp only[vb,lb];omega)|(simp only[vb,lb,hA,x1,x2,f1,f2,hn];and_intros<;>first|omega|(simp<;>omega))|(simp[vb,hA,x1,x2,f1,f2,hn]<;>omega))|((with_reducible show aP _);first|exact True.intro|((try dsimp only[go_sem]);first|(simp[vb,hA,x1,x2,f1,f2,hn]<;>omega)|(simp only[vb,and_true,true_implies];(repeat' (first|(with_reducible assumption)|(with_reducible apply And.intro)|intro _|((fail_if_success (with_reducible show(_:Int)≤_));assumption)))<;>first|omega|rfl|(simp only[ab,hA,x1,x2,f1,f2,hn];done)|(simp[Nat.mul_one,hA,x1,x2,f1,f2,hn]<;>omega)|(simp_all;done))))|exact(rfl:some _=_)|((fail_if_success refine aZ ?_);refine lA [(8,fun _=>some (.bool true)),(17,fun _=>some (.bool true)),(22,fun _=>some (.bool true))] ?_;(repeat1' dsimp only[c6,eA,gy,aa,bp,go_sem]);first|refine ba ?_ ?_ rfl ?_|apply bb|apply bf|(refine bg (fun hc=>?_) fun hc=>?_<;>first|(cases hc;done)|(exfalso;first|(simp at hc<;>omega)|(simp[hA,x1,x2,f1,f2,hn]at hc;done))|(try simp only[bn]at hc;try contradiction))|skip))
 refine de (h.l.length+1) (fun _=>True) (fun k=>[(1,.ptr 0 0 0),(3,.ptr 1 0 0),(25,.pv (.int .i64 (h.l.length+1))),(26,.pv (.int .i64 k))]) (fun k=>[cL h,pR (xn h.l k)]) trivial (by (repeat' (first|exact trivial|refine And.intro (by first|rfl|(simp[get,Nat.beq]<;>omega)|(dsimp only[get];congr 1<;>first|rfl|omega|(simp<;>omega))) ?_))) ⟨[],rfl⟩ (fun _=>⟨Nat.zero_le _,rfl,rfl⟩) fun k hk _=>?_
 by_cases hlt:k<h.l.length+1
 ·have hkl:k≤h.l.length:=by omega
  have y1:=Bk h k hkl;have y2:=nw {h with l:=h.l.take k} hs (by simp only[List.length_take];omega) (fun x hx=>hsm x (List.mem_of_mem_take hx));rw[ua hv k hkl,if_pos rfl,if_pos rfl]at y2;simp only at y2;rw[Ee h.l k hkl]at y2;have hW:=NL hv k hkl;have hsu:=Eg (fun i j=>hso i j) hkl;have hto:=FP (yT hv) hkl;have hle:=prev_le (fun i j=>hso i j) k hkl;have hnx:xn h.l (k+1)=ny h.l k:=rfl;have b7:=sN h.l 7 k;have b1:=sN h.l 1 k;rw[hnx];clear hnx hso hsm hv hA x1 x2 hw;generalize ny h.l k=cur at *;generalize xn h.l k=prev at *
  unfold BF at hW;rw[fU]at hW;obtain⟨w1,w2,w3,w4,w5,w6,w7,w8,w9,w10,w11,w12,w13,w14,w15⟩:=hW;obtain⟨s0,s1,s2,s3,s4⟩:=hsu;obtain⟨a0,a1,a3,a5,a6,a7,a8,a9,a10,a11,a12,a13,a14⟩:=hle;unfold oI at hto;have e0:cur.executed+cur.refused+cur.opn=cur.submitted:=by omega
  have e1:¬cur.submitted<cur.waited:=by omega
  have e2:¬cur.ticks<cur.longest:=by omega
  clear s0 s1 s2 s3 s4;simp only[cL,pR];obtain⟨up,hup⟩:∃up,up=eA {h with l:=h.l.take k}:=⟨_,rfl⟩
  rw[←hup]at y1 y2;repeat' (first|((with_reducible show aI _);first|exact True.intro|(simp only[vb,lb];omega)|(simp only[vb,lb,y1,y2,f1,f2,hlt,hkl,e0,e1,e2];and_intros<;>first|omega|(simp<;>omega))|(simp[vb,y1,y2,f1,f2,hlt,hkl,e0,e1,e2]<;>omega))|((with_reducible show aP _);first|exact True.intro|((try dsimp only[go_sem]);first|(simp[vb,y1,y2,f1,f2,hlt,hkl,e0,e1,e2]<;>omega)|(simp only[vb,and_true,true_implies];(repeat' (first|(with_reducible assumption)|(with_reducible apply And.intro)|intro _|((fail_if_success (with_reducible show(_:Int)≤_));assumption)))<;>first|omega|rfl|(simp only[ab,y1,y2,f1,f2,hlt,hkl,e0,e1,e2];done)|(simp[Nat.mul_one,y1,y2,f1,f2,hlt,hkl,e0,e1,e2]<;>omega)|(simp_all;done))))|exact(rfl:some _=_)|((fail_if_success refine aZ ?_);refine lA [(23,fun _=>some up),(18,fun _=>some (.tup [.agg (gU cur),.int .i64 0]))] ?_;(repeat1' dsimp only[c6,eA,gy,aa,bp,gU,aW,zf,go_sem]);first|refine ba ?_ ?_ rfl ?_|apply bb|apply bf|(refine bg (fun hc=>?_) fun hc=>?_<;>first|(cases hc;done)|(exfalso;first|(simp at hc<;>omega)|(simp[y1,y2,f1,f2,hlt,hkl,e0,e1,e2]at hc;done))|(try simp only[bn]at hc;try contradiction))|skip))
  rw[show((k:Int)-0).toNat=k by omega,po aR h.l k];have hL:(h.l.take k).length=k:=by rw[List.length_take];omega
  have f3:=bW aR (h.l.take k);rw[hL]at f3
  refine de k (fun _=>True) (fun j=>[(1,.ptr 0 0 0),(3,.ptr 1 0 0),(25,.pv (.int .i64 (h.l.length+1))),(26,.pv (.int .i64 k)),(5,.ptr 2 0 0),(4,.pv (.int .i64 k)),(8,.pv (.int .i64 (eg h.l 1 j))),(7,.pv (.int .i64 (eg h.l 7 j))),(70,.pv (.int .i64 j)),(69,.pv (.int .i64 k)),(68,.pv (.sl k ((h.l.take k).flatMap aJ)))]) (fun _=>[cL h,pR prev,pR cur]) trivial (by (repeat' (first|exact trivial|refine And.intro (by first|rfl|(simp[get,Nat.beq]<;>omega)|(dsimp only[get];congr 1<;>first|rfl|omega|(simp<;>omega))) ?_))) ⟨[],rfl⟩ (fun _=>⟨Nat.zero_le _,rfl,rfl⟩) fun j hj _=>?_
  simp only[cL,pR];by_cases hlj:j<k
  ·have e3:=dV aR (h.l.take k) j zx (by omega);rw[iF hlj]at e3;have k7:eg h.l 7 (j+1)=if (h.l.getD j zx).kind=7 then eg h.l 7 j+1 else eg h.l 7 j:=rfl
   have k1:eg h.l 1 (j+1)=if (h.l.getD j zx).kind=1 then eg h.l 1 j+1 else eg h.l 1 j:=rfl
   have c7:=sN h.l 7 j;have c1:=sN h.l 1 j;rw[k7,k1];generalize h.l.getD j zx=x at *;generalize eg h.l 7 j=q7 at *;generalize eg h.l 1 j=q1 at *;generalize (h.l.take k).flatMap aJ=tk at *;simp only[aJ,br,ar,aG,aC,ai,aa,List.cons_append,List.nil_append]at e3;by_cases d7:x.kind=7
   ·rw[if_pos d7,if_neg (by omega)];repeat' (first|((with_reducible show aI _);first|exact True.intro|(simp only[vb,lb];omega)|(simp only[vb,lb,e3,f3,hlj,d7];and_intros<;>first|omega|(simp<;>omega))|(simp[vb,e3,f3,hlj,d7]<;>omega))|((with_reducible show aP _);first|exact True.intro|((try dsimp only[go_sem]);first|(simp[vb,e3,f3,hlj,d7]<;>omega)|(simp only[vb,and_true,true_implies];(repeat' (first|(with_reducible assumption)|(with_reducible apply And.intro)|intro _|((fail_if_success (with_reducible show(_:Int)≤_));assumption)))<;>first|omega|rfl|(simp only[ab,e3,f3,hlj,d7];done)|(simp[Nat.mul_one,e3,f3,hlj,d7]<;>omega)|(simp_all;done))))|exact(rfl:some _=_)|((fail_if_success refine aZ ?_);refine cu [ξ 73 (bU x),ξ 76 (.bool true),ξ 81 (.bool false)] ?_;(repeat1' dsimp only[c6,aa,bp,bU,aJ,br,ar,aG,aC,ai,go_sem]);first|refine ba ?_ ?_ rfl ?_|apply bb|apply bf|(refine bg (fun hc=>?_) fun hc=>?_<;>first|(cases hc;done)|(exfalso;first|(simp at hc<;>omega)|(simp[e3,f3,hlj,d7]at hc;done))|(try simp only[bn]at hc;try contradiction))|skip))
    exact⟨hlj,trivial,by (repeat' (first|exact trivial|refine And.intro (by first|rfl|(simp[get,Nat.beq]<;>omega)|(dsimp only[get];congr 1<;>first|rfl|omega|(simp<;>omega))) ?_)),_,rfl⟩
   rw[if_neg d7];by_cases d1:x.kind=1
   ·rw[if_pos d1];repeat' (first|((with_reducible show aI _);first|exact True.intro|(simp only[vb,lb];omega)|(simp only[vb,lb,e3,f3,hlj,d7,d1];and_intros<;>first|omega|(simp<;>omega))|(simp[vb,e3,f3,hlj,d7,d1]<;>omega))|((with_reducible show aP _);first|exact True.intro|((try dsimp only[go_sem]);first|(simp[vb,e3,f3,hlj,d7,d1]<;>omega)|(simp only[vb,and_true,true_implies];(repeat' (first|(with_reducible assumption)|(with_reducible apply And.intro)|intro _|((fail_if_success (with_reducible show(_:Int)≤_));assumption)))<;>first|omega|rfl|(simp only[ab,e3,f3,hlj,d7,d1];done)|(simp[Nat.mul_one,e3,f3,hlj,d7,d1]<;>omega)|(simp_all;done))))|exact(rfl:some _=_)|((fail_if_success refine aZ ?_);refine cu [ξ 73 (bU x),ξ 76 (.bool false),ξ 81 (.bool true)] ?_;(repeat1' dsimp only[c6,aa,bp,bU,aJ,br,ar,aG,aC,ai,go_sem]);first|refine ba ?_ ?_ rfl ?_|apply bb|apply bf|(refine bg (fun hc=>?_) fun hc=>?_<;>first|(cases hc;done)|(exfalso;first|(simp at hc<;>omega)|(simp[e3,f3,hlj,d7,d1]at hc;done))|(try simp only[bn]at hc;try contradiction))|skip))
    exact⟨hlj,trivial,by (repeat' (first|exact trivial|refine And.intro (by first|rfl|(simp[get,Nat.beq]<;>omega)|(dsimp only[get];congr 1<;>first|rfl|omega|(simp<;>omega))) ?_)),_,rfl⟩
   rw[if_neg d1];repeat' (first|((with_reducible show aI _);first|exact True.intro|(simp only[vb,lb];omega)|(simp only[vb,lb,e3,f3,hlj,d7,d1];and_intros<;>first|omega|(simp<;>omega))|(simp[vb,e3,f3,hlj,d7,d1]<;>omega))|((with_reducible show aP _);first|exact True.intro|((try dsimp only[go_sem]);first|(simp[vb,e3,f3,hlj,d7,d1]<;>omega)|(simp only[vb,and_true,true_implies];(repeat' (first|(with_reducible assumption)|(with_reducible apply And.intro)|intro _|((fail_if_success (with_reducible show(_:Int)≤_));assumption)))<;>first|omega|rfl|(simp only[ab,e3,f3,hlj,d7,d1];done)|(simp[Nat.mul_one,e3,f3,hlj,d7,d1]<;>omega)|(simp_all;done))))|exact(rfl:some _=_)|((fail_if_success refine aZ ?_);refine cu [ξ 73 (bU x),ξ 76 (.bool false),ξ 81 (.bool false)] ?_;(repeat1' dsimp only[c6,aa,bp,bU,aJ,br,ar,aG,aC,ai,go_sem]);first|refine ba ?_ ?_ rfl ?_|apply bb|apply bf|(refine bg (fun hc=>?_) fun hc=>?_<;>first|(cases hc;done)|(exfalso;first|(simp at hc<;>omega)|(simp[e3,f3,hlj,d7,d1]at hc;done))|(try simp only[bn]at hc;try contradiction))|skip))
   exact⟨hlj,trivial,by (repeat' (first|exact trivial|refine And.intro (by first|rfl|(simp[get,Nat.beq]<;>omega)|(dsimp only[get];congr 1<;>first|rfl|omega|(simp<;>omega))) ?_)),_,rfl⟩
  obtain rfl:j=k:=by omega
  have e4:cur.submitted+cur.events+cur.deliveries+cur.reads+cur.waits+cur.busy+cur.crashes+cur.restarts+cur.full+eg h.l 7 j+eg h.l 1 j=j:=hto;generalize eg h.l 7 j=q7 at *;generalize eg h.l 1 j=q1 at *;repeat' (first|((with_reducible show aI _);first|exact True.intro|(simp only[vb,lb];omega)|(simp only[vb,lb,hlj,e4];and_intros<;>first|omega|(simp<;>omega))|(simp[vb,hlj,e4]<;>omega))|((with_reducible show aP _);first|exact True.intro|((try dsimp only[go_sem]);first|(simp[vb,hlj,e4]<;>omega)|(simp only[vb,and_true,true_implies];(repeat' (first|(with_reducible assumption)|(with_reducible apply And.intro)|intro _|((fail_if_success (with_reducible show(_:Int)≤_));assumption)))<;>first|omega|rfl|(simp only[ab,hlj,e4];done)|(simp[Nat.mul_one,hlj,e4]<;>omega)|(simp_all;done))))|exact(rfl:some _=_)|((fail_if_success refine aZ ?_);refine bJ ?_;(repeat1' dsimp only[c6,aa,bp,gU,aW,go_sem]);first|refine ba ?_ ?_ rfl ?_|apply bb|apply bf|(refine bg (fun hc=>?_) fun hc=>?_<;>first|(cases hc;done)|(exfalso;first|(simp at hc<;>omega)|(simp[hlj,e4]at hc;done))|(try simp only[bn]at hc;try contradiction))|skip))
  exact⟨hlt,trivial,by (repeat' (first|exact trivial|refine And.intro (by first|rfl|(simp[get,Nat.beq]<;>omega)|(dsimp only[get];congr 1<;>first|rfl|omega|(simp<;>omega))) ?_)),_,rfl⟩
 obtain rfl:k=h.l.length+1:=by omega
 simp only[cL,pR];repeat' (first|((with_reducible show aI _);first|exact True.intro|(simp only[vb,lb];omega)|(simp only[vb,lb,hlt];and_intros<;>first|omega|(simp<;>omega))|(simp[vb,hlt]<;>omega))|((with_reducible show aP _);first|exact True.intro|((try dsimp only[go_sem]);first|(simp[vb,hlt]<;>omega)|(simp only[vb,and_true,true_implies];(repeat' (first|(with_reducible assumption)|(with_reducible apply And.intro)|intro _|((fail_if_success (with_reducible show(_:Int)≤_));assumption)))<;>first|omega|rfl|(simp only[ab,hlt];done)|(simp[Nat.mul_one,hlt]<;>omega)|(simp_all;done))))|exact(rfl:some _=_)|((fail_if_success refine aZ ?_);refine bJ ?_;(repeat1' dsimp only[c6,aa,bp,gU,aW,go_sem]);first|refine ba ?_ ?_ rfl ?_|apply bb|apply bf|(refine bg (fun hc=>?_) fun hc=>?_<;>first|(cases hc;done)|(exfalso;first|(simp at hc<;>omega)|(simp[hlt]at hc;done))|(try simp only[bn]at hc;try contradiction))|skip))
end
end Pur
end
section
namespace Pur
open Go.RowKit
section
open Tr
theorem vm (qs:List PV) (h:ov Tryz.prog 1048576 [38] qs):ah ctx 6 qs (.bool true):=by
 match qs,h with
 |[p0],h =>
  obtain⟨h0,-⟩:=h;obtain⟨x,rfl,hs,hl,hw⟩:=HM h0;exact BC xl x (hw (by omega)) (by omega) (by omega)
end
end Pur
end
end Go.Proofs.YtfgcmogbdcifeaaGreatDoor
namespace Go.Proofs.YtfgcmogbdcifeaaGreatDoor.lawTraceCounts
open Go.ChangeShapes Go.WideShapes Go.ChangeAt Go.RowKit
theorem sM (H:Type) (enc:TypeId×Value→H) (W:World) (base:Nat) (args:Array Value) (ds gs:List (DataW H)) (before:List MemPlace)
  (hval:∀(j:Nat) t v,Tryz.f6.params[j]?=some t→args[j]?=some v→Value.okWide Tryz.prog W .any base t v)
  (hW:DataW.Whole enc Tryz.prog Tryz.f6.params.toList Rows.traceCountsSpec.vars false W args.toList ds gs before) (hk:Rows.uptoSmall H (ds++gs)=true) (hL:laidMetH Tryz.prog Rows.traceCountsUptoRow.laid W) (hsh:W.ShapedOpen Tryz.prog) :
  Calls Tryz.prog 6 args W fun e W'=>∃v,e= .returned v∧Rows.traceCountsSpec.post enc Tryz.prog Tryz.f6 false true false false W args v W':=by
 have hW':=hW;obtain⟨p,q,hA0,hV,rfl,hfz,hnd⟩:=hW;have hA:DataW.TrodAll enc Tryz.prog W 0 (fun _=>true) true [38] args.toList ds p:=hA0;obtain⟨rfl,rfl⟩:=trodVars_none hV;obtain⟨qs,hty,hps⟩:=Pur.rM (B:=1048576) (Sm:=(fun d:DataW H=>Rows.uptoBulk d≤1048576)) Pur.uN.upto (L:=[38,3,22,36,71,61,58,59,65,63,67,68,196,69]) (r:=.any) (b:=base) (by kernel_rfl) [38] args.toList ds p (of_decide_eq_true rfl) (fun j t v h1 h2=>hval j t v (by
  rw[Tryz.params6,List.getElem?_toArray];exact h1) (by rw[Array.getElem?_toList]at h2;exact h2)) hA (fun d hd=>Pur.wL hk d (List.mem_append_left _ hd))
 have hst:∀(W':World) (sp:Nat→Bool),Below W.heap.size W W'→(∀x∈p++[],sp x.block=true)→DataW.TrodAll enc Tryz.prog W' 0 sp true [38] args.toList ds p:=fun W' sp hb hsp =>
  Pur.rN (by kernel_rfl) _ _ _ _ (of_decide_eq_true (by kernel_rfl)) (fun x hx=>Pur.rO hb (hW'.lt x (List.mem_append_left _ hx))) (fun x hx=>hsp x (List.mem_append_left _ hx)) hA
 have hE:=Cd.C2 hL hsh;obtain⟨v0,vs0,d0,ds0,p0,q0,hargs,rfl,hp0,h0,r0⟩:=trodAll_cons hA;obtain⟨rfl,rfl,rfl⟩:=trodAll_nil r0;obtain rfl:args=#[v0]:=by cases args;simp_all
 refine((Pur.vm qs hty).2 W (Pur.nn W) [v0] hE (fun g h=>h) hps).mono fun e W' hh=>?_
 obtain⟨v,he,hb,hv⟩:=hh;have:=Pur.pG hv;subst this;subst he;exact⟨_,rfl,rK (pa:=p) (pv:=[]) hW' (fun _ _ _=>trodAll_cons_mk (shut_bool Tryz.underlying4 _) trodAll_mk0)
  (fun sp hsp=>hst W' sp hb hsp) (fun _ _=>rfl) rfl
  hb (ok_one (by kernel_rfl) rfl (okWide_bool_mk Tryz.underlying4 _))⟩
def start:Array Value:=#[.agg #[.int .i64 0,.int .i64 0,.slice none 0 0,.slice none 0 0]]
theorem met (os:Os):laidMet Tryz.prog Rows.traceCountsUptoRow.laid ((World.laidAll Tryz.prog os Rows.traceCountsUptoRow.laid).forCall (fun _ _=>0) ⟨#[],start,[]⟩).memory :=
 laidMet_laidAll _ (by kernel_rfl) (by kernel_rfl)
theorem reads (os:Os) {H:Type} (enc:TypeId×Value→H):∃places,DataW.whole enc Tryz.prog ((World.laidAll Tryz.prog os Rows.traceCountsUptoRow.laid).forCall (fun _ _=>0) ⟨#[],start,[]⟩).memory Tryz.f6.params.toList Rows.traceCountsSpec.vars false start.toList 8=some ([.agg [.lit (.int .i64 0),.lit (.int .i64 0),.nil,.nil]],[],places) :=
 ⟨[],by kernel_rfl⟩
set_option maxRecDepth 100000 in
theorem lifted (os:Os) (started:os.Started) (H:Type) (enc:TypeId×Value→H) (F:Stop.Interp) :
  ReturnsInHanded {} Tryz.checked os 6 .any ((Rows.OpenSpec.upto Rows.traceCountsSpec).preRow enc Tryz.prog Tryz.f6 Rows.traceCountsUptoRow.domain false Rows.traceCountsUptoRow.laid) (((Rows.OpenSpec.upto Rows.traceCountsSpec).at F).post enc Tryz.prog Tryz.f6 false true false false):=by
 obtain⟨places,hx⟩:=reads os enc;refine returnsInHanded_of_row (C:=Tryz.checked) (s:=(Rows.OpenSpec.upto Rows.traceCountsSpec)) Cd.own started (by kernel_rfl) Tryz.func6
  (witness_row_atRef (enc:=enc) (C:=Tryz.checked) false (World.laidAll Tryz.prog os Rows.traceCountsUptoRow.laid) start (World.laidAll_os _ _ _) (by kernel_rfl) (by kernel_rfl) (by kernel_rfl)
   (OpenSpec.preRow_of_cond 8 hx (by kernel_rfl) (fun k hk=>by cases hk;kernel_rfl) (by kernel_rfl) (met os))) ?_
 intro W base args ds gs before hval hW _ hk _ hL hsh _;exact sM H enc W base args ds gs before hval hW (hk _ rfl) hL hsh
theorem D4:Cd.NO Tryz.pinned.checked.prog Tryz.f6 (Rows.OpenSpec.upto Rows.traceCountsSpec).bare Rows.traceCountsUptoRow=true:=by kernel_rfl
theorem D5:Cd.NP Tryz.pinned.checked.prog 6 Rows.traceCountsUptoRow=true:=by kernel_rfl
theorem D6:Cd.NQ Tryz.pinned.checked.prog 6 Rows.traceCountsUptoRow=true:=by kernel_rfl
theorem D7:Cd.NR Tryz.pinned.checked.prog 6 Rows.traceCountsUptoRow=true:=by kernel_rfl
theorem D8:Cd.NT Tryz.pinned.checked.prog 6 Rows.traceCountsUptoRow=true:=by kernel_rfl
theorem D9:Cd.NU Tryz.pinned.checked.prog Tryz.f6 (Rows.OpenSpec.upto Rows.traceCountsSpec).bare Rows.traceCountsUptoRow=true:=by kernel_rfl
theorem Ea:Cd.NV Tryz.pinned.checked.prog Rows.traceCountsUptoRow=true:=by kernel_rfl
theorem Eb:Cd.NW Tryz.pinned.checked.prog Rows.traceCountsUptoRow=true:=by kernel_rfl
theorem Ec:Cd.NX Tryz.pinned.checked.prog Tryz.f6 (Rows.OpenSpec.upto Rows.traceCountsSpec).bare Rows.traceCountsUptoRow=true:=by kernel_rfl
theorem facts:joinedFacts Tryz.pinned.checked.prog 6 Tryz.f6 (Rows.OpenSpec.upto Rows.traceCountsSpec).bare Rows.traceCountsUptoRow=true:=Cd.tM D4 D5 D6 D7 D8 D9 Ea Eb Ec
theorem goes:false=OpenClaim.goesBy Rows.traceCountsUptoRow Tryz.pinned.checked.prog:=Cd.zI rfl (by kernel_rfl)
theorem said:Rows.TraceCountsUptoSaid :=
 OpenClaim.holds_of_cond 6 Tryz.f6 rfl rfl rfl rfl rfl rfl rfl ⟨rfl,rfl,rfl,rfl,rfl⟩ rfl rfl rfl rfl rfl (by kernel_rfl) Tryz.func6 facts
  (of_decide_eq_true (by kernel_rfl)) (by unfold Func.isWrapper;rw[if_neg (of_decide_eq_false (by kernel_rfl))];exact⟨rfl,rfl⟩)
  (fun os started H enc _ F=>by rw[OpenClaim.pre_eq_preRow];exact lifted os started H enc F)
theorem plain (f : FuncId) (fn : Func) (hf : Tryz.pinned.checked.prog.funcNamed "confluent/confluentlaw59.TraceCounts" = some f) (hfn : Tryz.pinned.checked.prog.funcs[f]? = some fn) :
  false=Tryz.pinned.checked.prog.looks []∧∀(j:Nat) t,fn.params[j]?=some t→Tryz.pinned.checked.prog.wantsStandIn t=false:=by
 obtain rfl : f = 6 := Option.some.inj ((show Tryz.prog.funcNamed "confluent/confluentlaw59.TraceCounts" = some 6 by kernel_rfl).symm.trans hf) |>.symm
 obtain rfl:fn=Tryz.f6:=(Option.some.inj (Tryz.func6.symm.trans hfn)).symm;refine⟨by kernel_rfl,fun j t ht=>?_⟩;rw[Tryz.params6]at ht;have hm:=Array.mem_of_getElem? ht;simp only[List.mem_toArray,List.mem_cons,List.not_mem_nil,or_false]at hm;rcases hm with rfl
 ·exact(by kernel_rfl:Tryz.prog.wantsStandIn 38=false)
theorem proved:Rows.TraceCountsUptoCardSaid :=
 Claim7.holds_tied_plain_at .later [] _ _ _ _ said (fun _ h=>by cases h) (by kernel_rfl) (fun _ h=>by cases h) traceCountsUpto_row_tie rfl ⟨rfl,rfl⟩ (by kernel_rfl) rfl plain goes
end Go.Proofs.YtfgcmogbdcifeaaGreatDoor.lawTraceCounts
