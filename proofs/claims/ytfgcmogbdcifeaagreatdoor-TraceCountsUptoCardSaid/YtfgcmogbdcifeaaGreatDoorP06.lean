/-
  Part of the proofs of TraceFigures and TraceCounts (TrND TrTa)
-/
import Derived.Test.YtfgcmogbdcifeaaGreatDoorP05
set_option maxRecDepth 10000
set_option maxHeartbeats 32000000
set_option linter.unusedSimpArgs false
set_option linter.unusedVariables false
namespace Go.Proofs.YtfgcmogbdcifeaaGreatDoor
section
namespace Pur
open Go.RowKit
attribute [local go_sem] cV ff cI bG cT jR List.map bF aN get put tmpsOf fi qu nz pK conds ev cond_true cond_false Nat.beq Nat.ble Nat.add quiet gN eb ec BD List.append_eq List.nil_append List.cons_append eD uc pJ jc jd je jf jg jh lr jK gg sR iN calm quiet.isCallK eJ List.getElem?_cons_zero List.getElem?_cons_succ cS er cellsOf List.all cH List.length_cons List.length_nil ia cG List.drop List.take List.getD Option.getD_some HR HS FV HT HU HV mV rb mW mX setAt List.set Nat.reduceAdd Nat.reduceMul dW cP refsOf cz dD scalar fu gI dw fq bI after freeze nW pO bM gw jI kQ iM kB kC iV kD kE kH kI kJ kK kL kM kN kO kP iW iX iY cY sS bytesOf cA fg aV dx fG cv dp eK still dT gH cj kh cZ jv List.isEmpty iZ ja jb Int.reduceToNat Nat.mul_one Nat.reduceSub ux gx fa eN fO look eO strip guarded nY pA ju bj iL eh mN kF kG Bool.or_false Bool.or_true Bool.and_true Bool.and_false Nat.blt rh mZ mY fF idxOf nX mG re fX bI uy
section
open Tr
def DX:af:=(⟨_,by conv=>(lhs;reduce;try simp only[bD,Int.cast_ofNat_Int,Int.reduceNegSucc,UInt8.reduceOfNat])⟩:{x // codeOf Tryz.prog 266 (fun _=>false)=some x}).1
theorem HK:aD Tryz.prog 266 (fun _=>false)=some (DX,[.t 6],29,true):=by kernel_rfl
theorem Bs:ah ctx 266 [.int .i64 0,.int .i64 (-7),.int .i64 0] (.bool true):=by
 refine aj (C:=ctx) (Fn.of HK rfl) rfl ?_;unfold DX;repeat' (first|((with_reducible first|show aI _|show aP _);simp[vb]<;>omega)|exact(rfl:some _=_)|((fail_if_success refine aZ ?_);refine bJ ?_;(repeat1' dsimp only[DX,go_sem]);first|refine ba ?_ ?_ rfl ?_|apply bb|apply bf|(refine bg (fun hc=>?_) fun hc=>?_<;>first|(cases hc;done)|(exfalso;simp at hc<;>omega)|(try simp only[bn]at hc;try contradiction))|skip))
theorem Bt:ah ctx 266 [.int .i64 0,.int .i64 7,.int .i64 9] (.bool true):=by
 refine aj (C:=ctx) (Fn.of HK rfl) rfl ?_;unfold DX;repeat' (first|((with_reducible first|show aI _|show aP _);simp[vb]<;>omega)|exact(rfl:some _=_)|((fail_if_success refine aZ ?_);refine bJ ?_;(repeat1' dsimp only[DX,go_sem]);first|refine ba ?_ ?_ rfl ?_|apply bb|apply bf|(refine bg (fun hc=>?_) fun hc=>?_<;>first|(cases hc;done)|(exfalso;simp at hc<;>omega)|(try simp only[bn]at hc;try contradiction))|skip))
def N0:PV:=.agg [.nilsl,.sl 1 [.str [99],.int .i64 1,.nilsl,.int .i64 0,.int .i64 9,.int .i64 0],.sl 1 [.str [99]],.sl 2 [.int .i64 0,.int .i64 0,.sl 1 [.int .i64 0,.int .i64 (-1)],.int .i64 0,.int .i64 0,.int .i64 0,.int .i64 0,.int .i64 0,.sl 1 [.int .i64 0,.int .i64 1],.int .i64 9,.int .i64 0,.int .i64 0],.sl 1 [.str [117,112],.bool false,.nilsl],.sl 1 [.int .i64 0,.nilsl,.sl 1 [.int .i64 0,.int .i64 2],.nilsl,.nilsl],.nilsl]
def Kz:Ev:=⟨0,1,1,[0,0],0,0,zn,0,0,1⟩
def yR:Hi:=⟨2,5,[7],[{zx with kind:=0,ses:=1,ser:=1},{zx with kind:=1,out:={zo with ser:=1,kind:=2,needs:=[⟨0,0,0,2⟩]}},{zx with tick:=3,kind:=2,ev:=Kz},{zx with tick:=3,kind:=1,out:={zo with ser:=1,num:=1}},{zx with tick:=4,kind:=2,rep:=1,ev:=Kz}]⟩
def HL:Fi:=⟨1,1,0,1,0,1,1,0,0,0,0,0,0,3,3⟩
theorem tX:bS yR=true:=by kernel_rfl
theorem DY:gT yR.l yR.l.length=HL:=by kernel_rfl
theorem DZ:∀x∈yR.l,jJ x:=fun x hx=>by
 refine zS x ?_;have:yR.l.all (fun x=>decide ((bV x).length≤200))=true:=by kernel_rfl
 exact of_decide_eq_true (List.all_eq_true.mp this x hx)
theorem KA:pI HL:=by
 refine⟨?_,?_⟩<;>rw[fU]<;>simp[HL]
theorem D0:ah ctx 41 [eA yR] (.bool true):=by
 have:=sG yR (by simp[yR]) (by simp[yR]) DZ;rwa [tX]at this
theorem yS:ah ctx 18 [eA yR] (.tup [.agg (gU HL),.int .i64 0]):=by
 have:=nw yR (by simp[yR]) (by simp[yR]) DZ;rwa [tX,if_pos rfl,if_pos rfl,DY]at this
theorem Bu:ah ctx 159 [.agg (ar Kz)] (.bool true):=by
 have:=tP Kz (by simp[Kz]);rwa [show fS Kz=true by kernel_rfl]at this
def N1 (ps:List PV):Option PV:=bif jl ps [.str [99]]||jl ps [.str [117,112]] then some (.bool true) else none
theorem D1 (ps:List PV) (r:PV) (h:N1 ps=some r):ah ctx 240 ps r:=by
 unfold N1 at h;cases hb:jl ps [.str [99]]||jl ps [.str [117,112]] with
 |false=>rw[hb]at h;cases h
 |true =>
  rw[hb,cond_true]at h;injection h with h
  subst h;rw[Bool.or_eq_true]at hb;rcases hb with hb|hb
  ·rw[fQ hb];exact zH (.inl rfl)
  rw[fQ hb];exact zH (.inr rfl)
def FL (d:Nat) (xs:List PV) (v:PV) (ps:List PV):Option PV:=bif jl (ps.map (canon d)) xs then some v else none
theorem nx {f:FuncId} {d:Nat} {xs:List PV} {v:PV} (h1:ah ctx f xs v) (ps:List PV) (r:PV) (h:FL d xs v ps=some r):ah ctx f ps r:=by
 unfold FL at h;cases hb:jl (ps.map (canon d)) xs with
 |false=>rw[hb]at h;cases h
 |true =>
  rw[hb,cond_true]at h;injection h with h
  subst h;refine ah.yj d ?_;rw[fQ hb];exact h1
def FM:jr:={fns:=zz,pure:=[(240,N1)],ref:=[]}
theorem zT:gf ctx FM where
 dz:=.inl rfl
 fns _ _ h:=me wM h
 pure g s h ps r hr:=by
  simp only[FM,fZ]at h;cases hb:Nat.beq 240 g with
  |false=>rw[hb,cond_false]at h;cases h
  |true =>
   rw[hb,cond_true]at h;injection h with h
   subst h;have:=Nat.eq_of_beq_eq_true hb;subst this;exact D1 ps r hr
 ref g s h:=by cases h
 tab g l h:=by cases h
set_option maxRecDepth 100000 in
theorem Bv:tG FM (run FM 2000) 57 [N0]=some (.bool true):=by kernel_rfl
theorem D2:ah ctx 57 [N0] (.bool true):=fk zT (fR zT 2000) Bv
def OT (ps:List PV):Option PV:=match ps with
 |[.int .i64 n]=>bif decide (0≤n)&&decide (n≤9) then some (.str (Lib.itoa n)) else none
 |_=>none
theorem KB (ps:List PV) (r:PV) (h:OT ps=some r):ah ctx 45 ps r:=by
 unfold OT at h;split at h
 ·rename_i n;cases hb:decide (0≤n)&&decide (n≤9) with
  |false=>rw[hb]at h;cases h
  |true =>
   rw[hb,cond_true]at h;injection h with h
   subst h;simp only[Bool.and_eq_true,decide_eq_true_eq]at hb;exact zy n (by omega) (by omega)
 cases h
def OU:List (Nat×(List PV→Option PV)):=[(240,N1),(57,FL 0 [N0] (.bool true)),(41,FL 3 [eA yR] (.bool true)),
 (18,FL 3 [eA yR] (.tup [.agg (gU HL),.int .i64 0])),(20,FL 0 [.agg (gU HL)] (gS (eC HL))),(159,FL 0 [.agg (ar Kz)] (.bool true)),(45,OT)]
def N2 (ps:List PV):Option PV:=match FL 0 [.int .i64 0,.int .i64 (-7),.int .i64 0] (.bool true) ps with
 |some r=>some r
 |none=>FL 0 [.int .i64 0,.int .i64 7,.int .i64 9] (.bool true) ps
theorem KC (ps:List PV) (r:PV) (h:N2 ps=some r):ah ctx 266 ps r:=by
 unfold N2 at h;split at h
 ·rename_i r' hr;injection h with h
  subst h;exact nx Bs ps r' hr
 exact nx Bt ps r h
theorem zU:∀(l:List (Nat×(List PV→Option PV))),(∀x∈l,∀ps r,x.2 ps=some r→ah ctx x.1 ps r)→∀g s,fZ l g=some s→∀ps r,s ps=some r→ah ctx g ps r
 |[],_,_,_,h,_,_,_=>by cases h
 |(k,x)::l,hl,g,s,h,ps,r,hr=>by
  rw[fZ]at h;cases hk:Nat.beq k g with
  |true =>
   rw[hk,cond_true]at h;injection h with h
   subst h;have:=Nat.eq_of_beq_eq_true hk;subst this;exact hl (k,x) (by simp) ps r hr
  |false =>
   rw[hk,cond_false]at h;exact zU l (fun y hy=>hl y (by simp[hy])) g s h ps r hr
def KE:jr:={fns:=zz,pure:=(266,N2)::OU,ref:=[],mem:=[288]}
theorem zV:gf ctx KE where
 dz:=.inl rfl
 fns _ _ h:=me wM h
 pure:=zU ((266,N2)::OU) (by
  simp only[OU,List.forall_mem_cons];exact⟨KC,D1,nx (d:=0) (xs:=[N0]) D2,nx (d:=3) D0,nx (d:=3) yS,nx (d:=0) (pt HL KA),nx (d:=0) Bu,KB,fun _ h=>by cases h⟩)
 ref g s h:=by cases h
 tab g l h:=by cases h
set_option maxRecDepth 100000 in
theorem Bw:tG KE (run KE 2000) 8 []=some (.bool true):=by kernel_rfl
theorem xl:ah ctx 8 [] (.bool true):=fk zV (fR zV 2000) Bw
end
end Pur
end
section
namespace Pur
open Go.RowKit
section
open Tr
theorem jq:Tryz.prog.cellsOf 3=1:=by kernel_rfl
theorem dG {n B:Nat} {l:List PV} (h:Typed Tryz.prog B n 3 l):∃x,l=[.int .i64 x]∧ -9223372036854775808≤x∧x≤9223372036854775807:=by
 obtain⟨x,rfl,hw⟩:=H8 h Tryz.underlying3;exact⟨x,rfl,wf_i64 hw⟩
def gA (x:Int×Int×Int):List PV:=[.int .i64 x.1,.int .i64 x.2.1,.int .i64 x.2.2]
def gC (x:Int×Int):List PV:=[.int .i64 x.1,.int .i64 x.2]
def cM (x:Int):List PV:=[.int .i64 x]
def bH (x:List Int):List PV:=[aa x]
theorem Ny:Tryz.prog.cellsOf 63=3:=by kernel_rfl
theorem Nz:Tryz.prog.cellsOf 58=2:=by kernel_rfl
theorem KF:Tryz.prog.cellsOf 65=4:=by kernel_rfl
theorem NA:Tryz.prog.cellsOf 61=6:=by kernel_rfl
theorem NB:Tryz.prog.cellsOf 67=13:=by kernel_rfl
theorem NC:Tryz.prog.cellsOf 196=2:=by kernel_rfl
theorem ND:Tryz.prog.cellsOf 71=28:=by kernel_rfl
theorem OV:Tryz.prog.cellsOf 38=4:=by kernel_rfl
theorem OW:Tryz.prog.cellsOf 49=15:=by kernel_rfl
theorem zW:Tryz.prog.cellsOf 22=1:=by kernel_rfl
theorem NF:Tryz.prog.cellsOf 69=1:=by kernel_rfl
theorem NG:Tryz.prog.cellsOf 59=1:=by kernel_rfl
theorem NH:Tryz.prog.cellsOf 68=1:=by kernel_rfl
theorem NI:Tryz.prog.cellsOf 36=1:=by kernel_rfl
theorem qp (x:List Int):x.flatMap cM=x.map (.int .i64):=by induction x with
 |nil=>rfl
 |cons a l ih=>rw[List.flatMap_cons,ih];rfl
theorem D3 (x:List (List Int)):x.flatMap bH=x.map aa:=by induction x with
 |nil=>rfl
 |cons a l ih=>rw[List.flatMap_cons,ih];rfl
theorem O8 {n B:Nat} {l:List PV} (h:Typed Tryz.prog B n 63 l):∃x,l=gA x∧True:=by
 obtain⟨hl,m,rfl,hf⟩:=fb h Tryz.underlying63;rw[Ny]at hl;match l,hl with
 |[a0,a1,a2],_ =>
  obtain⟨x0,e0,i0,j0⟩:=dG (piece hf 0 0 3 jq rfl);simp only[List.drop_succ_cons,List.drop_zero,List.take_succ_cons,List.take_zero,List.cons_append,List.nil_append,List.cons.injEq,and_true,cX,br,ar,ei,aJ,gA,gC,cM,bH,aG,aC,ai]at e0;subst e0;obtain⟨x1,e1,i1,j1⟩:=dG (piece hf 1 1 3 jq rfl);simp only[List.drop_succ_cons,List.drop_zero,List.take_succ_cons,List.take_zero,List.cons_append,List.nil_append,List.cons.injEq,and_true,cX,br,ar,ei,aJ,gA,gC,cM,bH,aG,aC,ai]at e1;subst e1;obtain⟨x2,e2,i2,j2⟩:=dG (piece hf 2 2 3 jq rfl)
  simp only[List.drop_succ_cons,List.drop_zero,List.take_succ_cons,List.take_zero,List.cons_append,List.nil_append,List.cons.injEq,and_true,cX,br,ar,ei,aJ,gA,gC,cM,bH,aG,aC,ai]at e2;subst e2;exact⟨(x0,x1,x2),rfl,trivial⟩
theorem O9 {n B:Nat} {l:List PV} (h:Typed Tryz.prog B n 58 l):∃x,l=gC x∧True:=by
 obtain⟨hl,m,rfl,hf⟩:=fb h Tryz.underlying58;rw[Nz]at hl;match l,hl with
 |[a0,a1],_ =>
  obtain⟨x0,e0,i0,j0⟩:=dG (piece hf 0 0 3 jq rfl);simp only[List.drop_succ_cons,List.drop_zero,List.take_succ_cons,List.take_zero,List.cons_append,List.nil_append,List.cons.injEq,and_true,cX,br,ar,ei,aJ,gA,gC,cM,bH,aG,aC,ai]at e0;subst e0;obtain⟨x1,e1,i1,j1⟩:=dG (piece hf 1 1 3 jq rfl);simp only[List.drop_succ_cons,List.drop_zero,List.take_succ_cons,List.take_zero,List.cons_append,List.nil_append,List.cons.injEq,and_true,cX,br,ar,ei,aJ,gA,gC,cM,bH,aG,aC,ai]at e1;subst e1;exact⟨(x0,x1),rfl,trivial⟩
theorem O2 {n B:Nat} {l:List PV} (h:Typed Tryz.prog B n 65 l):∃x,l=cX x∧True:=by
 obtain⟨hl,m,rfl,hf⟩:=fb h Tryz.underlying65;rw[KF]at hl;match l,hl with
 |[a0,a1,a2,a3],_ =>
  obtain⟨x0,e0,w0⟩:=O8 (piece hf 0 0 63 Ny rfl);simp only[List.drop_succ_cons,List.drop_zero,List.take_succ_cons,List.take_zero,List.cons_append,List.nil_append,List.cons.injEq,and_true,cX,br,ar,ei,aJ,gA,gC,cM,bH,aG,aC,ai]at e0;obtain⟨rfl,rfl,rfl⟩:=e0;obtain⟨x1,e1,i1,j1⟩:=dG (piece hf 1 3 3 jq rfl);simp only[List.drop_succ_cons,List.drop_zero,List.take_succ_cons,List.take_zero,List.cons_append,List.nil_append,List.cons.injEq,and_true,cX,br,ar,ei,aJ,gA,gC,cM,bH,aG,aC,ai]at e1;subst e1;exact⟨⟨x0.1,x0.2.1,x0.2.2,x1⟩,rfl,trivial⟩
theorem Pa {n B:Nat} {l:List PV} (h:Typed Tryz.prog B n 196 l):∃x,l=ei x∧True:=by
 obtain⟨hl,m,rfl,hf⟩:=fb h Tryz.underlying196;rw[NC]at hl;match l,hl with
 |[a0,a1],_ =>
  obtain⟨x0,e0,i0,j0⟩:=dG (piece hf 0 0 3 jq rfl);simp only[List.drop_succ_cons,List.drop_zero,List.take_succ_cons,List.take_zero,List.cons_append,List.nil_append,List.cons.injEq,and_true,cX,br,ar,ei,aJ,gA,gC,cM,bH,aG,aC,ai]at e0;subst e0;obtain⟨x1,e1,i1,j1⟩:=dG (piece hf 1 1 3 jq rfl);simp only[List.drop_succ_cons,List.drop_zero,List.take_succ_cons,List.take_zero,List.cons_append,List.nil_append,List.cons.injEq,and_true,cX,br,ar,ei,aJ,gA,gC,cM,bH,aG,aC,ai]at e1;subst e1;exact⟨⟨x0,x1⟩,rfl,trivial⟩
theorem Pb {n B:Nat} {l:List PV} (h:Typed Tryz.prog B n 61 l):∃x,l=br x∧x.needs.length≤B:=by
 obtain⟨hl,m,rfl,hf⟩:=fb h Tryz.underlying61;rw[NA]at hl;match l,hl with
 |[a0,a1,a2,a3,a4,a5],_ =>
  obtain⟨x0,e0,i0,j0⟩:=dG (piece hf 0 0 3 jq rfl);simp only[List.drop_succ_cons,List.drop_zero,List.take_succ_cons,List.take_zero,List.cons_append,List.nil_append,List.cons.injEq,and_true,cX,br,ar,ei,aJ,gA,gC,cM,bH,aG,aC,ai]at e0;subst e0;obtain⟨x1,e1,i1,j1⟩:=dG (piece hf 1 1 3 jq rfl);simp only[List.drop_succ_cons,List.drop_zero,List.take_succ_cons,List.take_zero,List.cons_append,List.nil_append,List.cons.injEq,and_true,cX,br,ar,ei,aJ,gA,gC,cM,bH,aG,aC,ai]at e1;subst e1;obtain⟨x2,e2,i2,j2⟩:=dG (piece hf 2 2 3 jq rfl)
  simp only[List.drop_succ_cons,List.drop_zero,List.take_succ_cons,List.take_zero,List.cons_append,List.nil_append,List.cons.injEq,and_true,cX,br,ar,ei,aJ,gA,gC,cM,bH,aG,aC,ai]at e2;subst e2;obtain⟨x3,e3,w3⟩:=O9 (piece hf 3 3 58 Nz rfl);simp only[List.drop_succ_cons,List.drop_zero,List.take_succ_cons,List.take_zero,List.cons_append,List.nil_append,List.cons.injEq,and_true,cX,br,ar,ei,aJ,gA,gC,cM,bH,aG,aC,ai]at e3;obtain⟨rfl,rfl⟩:=e3
  obtain⟨x4,e4,l4,w4⟩:=gP (piece hf 4 5 59 NG rfl) Tryz.underlying59 KF cX (fun _=>True) (fun x _=>iv x) fun m c _ hc=>O2 hc
  simp only[List.drop_succ_cons,List.drop_zero,List.take_succ_cons,List.take_zero,List.cons_append,List.nil_append,List.cons.injEq,and_true,cX,br,ar,ei,aJ,gA,gC,cM,bH,aG,aC,ai]at e4;subst e4;exact⟨⟨x0,x1,x2,x3.1,x3.2,x4⟩,rfl,l4⟩
theorem Pc {n B:Nat} {l:List PV} (h:Typed Tryz.prog B n 67 l):∃x,l=ar x∧x.past.length≤B:=by
 obtain⟨hl,m,rfl,hf⟩:=fb h Tryz.underlying67;rw[NB]at hl;match l,hl with
 |[a0,a1,a2,a3,a4,a5,a6,a7,a8,a9,a10,a11,a12],_ =>
  obtain⟨x0,e0,i0,j0⟩:=dG (piece hf 0 0 3 jq rfl);simp only[List.drop_succ_cons,List.drop_zero,List.take_succ_cons,List.take_zero,List.cons_append,List.nil_append,List.cons.injEq,and_true,cX,br,ar,ei,aJ,gA,gC,cM,bH,aG,aC,ai]at e0;subst e0;obtain⟨x1,e1,i1,j1⟩:=dG (piece hf 1 1 3 jq rfl);simp only[List.drop_succ_cons,List.drop_zero,List.take_succ_cons,List.take_zero,List.cons_append,List.nil_append,List.cons.injEq,and_true,cX,br,ar,ei,aJ,gA,gC,cM,bH,aG,aC,ai]at e1;subst e1;obtain⟨x2,e2,i2,j2⟩:=dG (piece hf 2 2 3 jq rfl)
  simp only[List.drop_succ_cons,List.drop_zero,List.take_succ_cons,List.take_zero,List.cons_append,List.nil_append,List.cons.injEq,and_true,cX,br,ar,ei,aJ,gA,gC,cM,bH,aG,aC,ai]at e2;subst e2;obtain⟨x3,e3,l3,-⟩:=gP (piece hf 3 3 22 zW rfl) Tryz.underlying22 jq cM (fun _=>True) (fun _ _=>rfl) fun m c _ hc=>by
   obtain⟨x,hx,-⟩:=dG hc;exact⟨x,hx,trivial⟩
  rw[qp]at e3;simp only[List.drop_succ_cons,List.drop_zero,List.take_succ_cons,List.take_zero,List.cons_append,List.nil_append,List.cons.injEq,and_true,cX,br,ar,ei,aJ,gA,gC,cM,bH,aG,aC,ai]at e3;subst e3;obtain⟨x4,e4,i4,j4⟩:=dG (piece hf 4 4 3 jq rfl);simp only[List.drop_succ_cons,List.drop_zero,List.take_succ_cons,List.take_zero,List.cons_append,List.nil_append,List.cons.injEq,and_true,cX,br,ar,ei,aJ,gA,gC,cM,bH,aG,aC,ai]at e4;subst e4;obtain⟨x5,e5,i5,j5⟩:=dG (piece hf 5 5 3 jq rfl)
  simp only[List.drop_succ_cons,List.drop_zero,List.take_succ_cons,List.take_zero,List.cons_append,List.nil_append,List.cons.injEq,and_true,cX,br,ar,ei,aJ,gA,gC,cM,bH,aG,aC,ai]at e5;subst e5;obtain⟨x6,e6,w6⟩:=O2 (piece hf 6 6 65 KF rfl);simp only[List.drop_succ_cons,List.drop_zero,List.take_succ_cons,List.take_zero,List.cons_append,List.nil_append,List.cons.injEq,and_true,cX,br,ar,ei,aJ,gA,gC,cM,bH,aG,aC,ai]at e6;obtain⟨rfl,rfl,rfl,rfl⟩:=e6;obtain⟨x7,e7,i7,j7⟩:=dG (piece hf 7 10 3 jq rfl)
  simp only[List.drop_succ_cons,List.drop_zero,List.take_succ_cons,List.take_zero,List.cons_append,List.nil_append,List.cons.injEq,and_true,cX,br,ar,ei,aJ,gA,gC,cM,bH,aG,aC,ai]at e7;subst e7;obtain⟨x8,e8,i8,j8⟩:=dG (piece hf 8 11 3 jq rfl);simp only[List.drop_succ_cons,List.drop_zero,List.take_succ_cons,List.take_zero,List.cons_append,List.nil_append,List.cons.injEq,and_true,cX,br,ar,ei,aJ,gA,gC,cM,bH,aG,aC,ai]at e8;subst e8;obtain⟨x9,e9,i9,j9⟩:=dG (piece hf 9 12 3 jq rfl)
  simp only[List.drop_succ_cons,List.drop_zero,List.take_succ_cons,List.take_zero,List.cons_append,List.nil_append,List.cons.injEq,and_true,cX,br,ar,ei,aJ,gA,gC,cM,bH,aG,aC,ai]at e9;subst e9;exact⟨⟨x0,x1,x2,x3,x4,x5,x6,x7,x8,x9⟩,rfl,l3⟩
theorem Pd {n B:Nat} {l:List PV} (h:Typed Tryz.prog B n 71 l):∃x,l=aJ x∧(B≤1100000→zK x):=by
 obtain⟨hl,m,rfl,hf⟩:=fb h Tryz.underlying71;rw[ND]at hl;match l,hl with
 |[a0,a1,a2,a3,a4,a5,a6,a7,a8,a9,a10,a11,a12,a13,a14,a15,a16,a17,a18,a19,a20,a21,a22,a23,a24,a25,a26,a27],_ =>
  obtain⟨x0,e0,i0,j0⟩:=dG (piece hf 0 0 3 jq rfl);simp only[List.drop_succ_cons,List.drop_zero,List.take_succ_cons,List.take_zero,List.cons_append,List.nil_append,List.cons.injEq,and_true,cX,br,ar,ei,aJ,gA,gC,cM,bH,aG,aC,ai]at e0;subst e0;obtain⟨x1,e1,i1,j1⟩:=dG (piece hf 1 1 3 jq rfl);simp only[List.drop_succ_cons,List.drop_zero,List.take_succ_cons,List.take_zero,List.cons_append,List.nil_append,List.cons.injEq,and_true,cX,br,ar,ei,aJ,gA,gC,cM,bH,aG,aC,ai]at e1;subst e1;obtain⟨x2,e2,i2,j2⟩:=dG (piece hf 2 2 3 jq rfl)
  simp only[List.drop_succ_cons,List.drop_zero,List.take_succ_cons,List.take_zero,List.cons_append,List.nil_append,List.cons.injEq,and_true,cX,br,ar,ei,aJ,gA,gC,cM,bH,aG,aC,ai]at e2;subst e2;obtain⟨x3,e3,i3,j3⟩:=dG (piece hf 3 3 3 jq rfl);simp only[List.drop_succ_cons,List.drop_zero,List.take_succ_cons,List.take_zero,List.cons_append,List.nil_append,List.cons.injEq,and_true,cX,br,ar,ei,aJ,gA,gC,cM,bH,aG,aC,ai]at e3;subst e3;obtain⟨x4,e4,i4,j4⟩:=dG (piece hf 4 4 3 jq rfl)
  simp only[List.drop_succ_cons,List.drop_zero,List.take_succ_cons,List.take_zero,List.cons_append,List.nil_append,List.cons.injEq,and_true,cX,br,ar,ei,aJ,gA,gC,cM,bH,aG,aC,ai]at e4;subst e4;obtain⟨x5,e5,i5,j5⟩:=dG (piece hf 5 5 3 jq rfl);simp only[List.drop_succ_cons,List.drop_zero,List.take_succ_cons,List.take_zero,List.cons_append,List.nil_append,List.cons.injEq,and_true,cX,br,ar,ei,aJ,gA,gC,cM,bH,aG,aC,ai]at e5;subst e5;obtain⟨x6,e6,w6⟩:=Pb (piece hf 6 6 61 NA rfl)
  simp only[List.drop_succ_cons,List.drop_zero,List.take_succ_cons,List.take_zero,List.cons_append,List.nil_append,List.cons.injEq,and_true,cX,br,ar,ei,aJ,gA,gC,cM,bH,aG,aC,ai]at e6;obtain⟨rfl,rfl,rfl,rfl,rfl,rfl⟩:=e6;obtain⟨x7,e7,w7⟩:=Pc (piece hf 7 12 67 NB rfl);simp only[List.drop_succ_cons,List.drop_zero,List.take_succ_cons,List.take_zero,List.cons_append,List.nil_append,List.cons.injEq,and_true,cX,br,ar,ei,aJ,gA,gC,cM,bH,aG,aC,ai]at e7;obtain⟨rfl,rfl,rfl,rfl,rfl,rfl,rfl,rfl,rfl,rfl,rfl,rfl,rfl⟩:=e7
  obtain⟨x8,e8,l8,w8⟩:=gP (piece hf 8 25 68 NH rfl) Tryz.underlying68 NC ei (fun _=>True) (fun x _=>gG x) fun m c _ hc=>Pa hc
  simp only[List.drop_succ_cons,List.drop_zero,List.take_succ_cons,List.take_zero,List.cons_append,List.nil_append,List.cons.injEq,and_true,cX,br,ar,ei,aJ,gA,gC,cM,bH,aG,aC,ai]at e8;subst e8;obtain⟨x9,e9,l9,w9⟩:=gP (piece hf 9 26 69 NF rfl) Tryz.underlying69 zW bH (fun v=>v.length≤B) (fun _ _=>rfl) fun m c _ hc=>by
   obtain⟨x,e,lx,-⟩:=gP hc Tryz.underlying22 jq cM (fun _=>True) (fun _ _=>rfl) fun m c _ hc=>by
    obtain⟨x,hx,-⟩:=dG hc;exact⟨x,hx,trivial⟩
   rw[qp]at e;exact⟨x,e,lx⟩
  rw[D3]at e9;simp only[List.drop_succ_cons,List.drop_zero,List.take_succ_cons,List.take_zero,List.cons_append,List.nil_append,List.cons.injEq,and_true,cX,br,ar,ei,aJ,gA,gC,cM,bH,aG,aC,ai]at e9;subst e9;obtain⟨x10,e10,l10,-⟩:=gP (piece hf 10 27 22 zW rfl) Tryz.underlying22 jq cM (fun _=>True) (fun _ _=>rfl) fun m c _ hc=>by
   obtain⟨x,hx,-⟩:=dG hc;exact⟨x,hx,trivial⟩
  rw[qp]at e10;simp only[List.drop_succ_cons,List.drop_zero,List.take_succ_cons,List.take_zero,List.cons_append,List.nil_append,List.cons.injEq,and_true,cX,br,ar,ei,aJ,gA,gC,cM,bH,aG,aC,ai]at e10;subst e10;exact⟨⟨x0,x1,x2,x3,x4,x5,x6,x7,x8,x9,x10⟩,rfl,fun hB=>⟨Nat.le_trans w6 hB,Nat.le_trans w7 hB,Nat.le_trans l8 hB,Nat.le_trans l9 hB,fun v hv=>Nat.le_trans (w9 v hv) hB,Nat.le_trans l10 hB⟩⟩
theorem Pe {n B:Nat} {l:List PV} (h:Typed Tryz.prog B n 38 l):∃x,l=gy x∧x.state.length≤B∧x.l.length≤B∧(B≤1100000→∀y∈x.l,zK y):=by
 obtain⟨hl,m,rfl,hf⟩:=fb h Tryz.underlying38;rw[OV]at hl;match l,hl with
 |[a0,a1,a2,a3],_ =>
  obtain⟨x0,e0,i0,j0⟩:=dG (piece hf 0 0 3 jq rfl);simp only[List.drop_succ_cons,List.drop_zero,List.take_succ_cons,List.take_zero,List.cons_append,List.nil_append,List.cons.injEq,and_true,cX,br,ar,ei,gA,gC,cM,bH,aG,aC,ai]at e0;subst e0;obtain⟨x1,e1,i1,j1⟩:=dG (piece hf 1 1 3 jq rfl);simp only[List.drop_succ_cons,List.drop_zero,List.take_succ_cons,List.take_zero,List.cons_append,List.nil_append,List.cons.injEq,and_true,cX,br,ar,ei,gA,gC,cM,bH,aG,aC,ai]at e1;subst e1
  obtain⟨x2,e2,l2,-⟩:=gP (piece hf 2 2 22 zW rfl) Tryz.underlying22 jq cM (fun _=>True) (fun _ _=>rfl) fun m c _ hc=>by
   obtain⟨x,hx,-⟩:=dG hc;exact⟨x,hx,trivial⟩
  rw[qp]at e2;simp only[List.drop_succ_cons,List.drop_zero,List.take_succ_cons,List.take_zero,List.cons_append,List.nil_append,List.cons.injEq,and_true,cX,br,ar,ei,gA,gC,cM,bH,aG,aC,ai]at e2;subst e2;obtain⟨x3,e3,l3,w3⟩:=gP (piece hf 3 3 36 NI rfl) Tryz.underlying36 ND aJ (fun x=>B≤1100000→zK x) (fun x _=>aR x) fun m c _ hc=>Pd hc
  simp only[List.drop_succ_cons,List.drop_zero,List.take_succ_cons,List.take_zero,List.cons_append,List.nil_append,List.cons.injEq,and_true,cX,br,ar,ei,gA,gC,cM,bH,aG,aC,ai]at e3;subst e3;exact⟨⟨x0,x1,x2,x3⟩,rfl,l2,l3,fun hB y hy=>w3 y hy hB⟩
theorem Pf {n B:Nat} {l:List PV} (h:Typed Tryz.prog B n 49 l):∃x,l=gU x∧pI x:=by
 obtain⟨hl,m,rfl,hf⟩:=fb h Tryz.underlying49;rw[OW]at hl;match l,hl with
 |[a0,a1,a2,a3,a4,a5,a6,a7,a8,a9,a10,a11,a12,a13,a14],_ =>
  obtain⟨x0,e0,i0,j0⟩:=dG (piece hf 0 0 3 jq rfl);simp only[List.drop_succ_cons,List.drop_zero,List.take_succ_cons,List.take_zero,List.cons_append,List.nil_append,List.cons.injEq,and_true,cX,br,ar,ei,aJ,gA,gC,cM,bH,aG,aC,ai]at e0;subst e0;obtain⟨x1,e1,i1,j1⟩:=dG (piece hf 1 1 3 jq rfl);simp only[List.drop_succ_cons,List.drop_zero,List.take_succ_cons,List.take_zero,List.cons_append,List.nil_append,List.cons.injEq,and_true,cX,br,ar,ei,aJ,gA,gC,cM,bH,aG,aC,ai]at e1;subst e1;obtain⟨x2,e2,i2,j2⟩:=dG (piece hf 2 2 3 jq rfl)
  simp only[List.drop_succ_cons,List.drop_zero,List.take_succ_cons,List.take_zero,List.cons_append,List.nil_append,List.cons.injEq,and_true,cX,br,ar,ei,aJ,gA,gC,cM,bH,aG,aC,ai]at e2;subst e2;obtain⟨x3,e3,i3,j3⟩:=dG (piece hf 3 3 3 jq rfl);simp only[List.drop_succ_cons,List.drop_zero,List.take_succ_cons,List.take_zero,List.cons_append,List.nil_append,List.cons.injEq,and_true,cX,br,ar,ei,aJ,gA,gC,cM,bH,aG,aC,ai]at e3;subst e3;obtain⟨x4,e4,i4,j4⟩:=dG (piece hf 4 4 3 jq rfl)
  simp only[List.drop_succ_cons,List.drop_zero,List.take_succ_cons,List.take_zero,List.cons_append,List.nil_append,List.cons.injEq,and_true,cX,br,ar,ei,aJ,gA,gC,cM,bH,aG,aC,ai]at e4;subst e4;obtain⟨x5,e5,i5,j5⟩:=dG (piece hf 5 5 3 jq rfl);simp only[List.drop_succ_cons,List.drop_zero,List.take_succ_cons,List.take_zero,List.cons_append,List.nil_append,List.cons.injEq,and_true,cX,br,ar,ei,aJ,gA,gC,cM,bH,aG,aC,ai]at e5;subst e5;obtain⟨x6,e6,i6,j6⟩:=dG (piece hf 6 6 3 jq rfl)
  simp only[List.drop_succ_cons,List.drop_zero,List.take_succ_cons,List.take_zero,List.cons_append,List.nil_append,List.cons.injEq,and_true,cX,br,ar,ei,aJ,gA,gC,cM,bH,aG,aC,ai]at e6;subst e6;obtain⟨x7,e7,i7,j7⟩:=dG (piece hf 7 7 3 jq rfl);simp only[List.drop_succ_cons,List.drop_zero,List.take_succ_cons,List.take_zero,List.cons_append,List.nil_append,List.cons.injEq,and_true,cX,br,ar,ei,aJ,gA,gC,cM,bH,aG,aC,ai]at e7;subst e7;obtain⟨x8,e8,i8,j8⟩:=dG (piece hf 8 8 3 jq rfl)
  simp only[List.drop_succ_cons,List.drop_zero,List.take_succ_cons,List.take_zero,List.cons_append,List.nil_append,List.cons.injEq,and_true,cX,br,ar,ei,aJ,gA,gC,cM,bH,aG,aC,ai]at e8;subst e8;obtain⟨x9,e9,i9,j9⟩:=dG (piece hf 9 9 3 jq rfl);simp only[List.drop_succ_cons,List.drop_zero,List.take_succ_cons,List.take_zero,List.cons_append,List.nil_append,List.cons.injEq,and_true,cX,br,ar,ei,aJ,gA,gC,cM,bH,aG,aC,ai]at e9;subst e9;obtain⟨x10,e10,i10,j10⟩:=dG (piece hf 10 10 3 jq rfl)
  simp only[List.drop_succ_cons,List.drop_zero,List.take_succ_cons,List.take_zero,List.cons_append,List.nil_append,List.cons.injEq,and_true,cX,br,ar,ei,aJ,gA,gC,cM,bH,aG,aC,ai]at e10;subst e10;obtain⟨x11,e11,i11,j11⟩:=dG (piece hf 11 11 3 jq rfl);simp only[List.drop_succ_cons,List.drop_zero,List.take_succ_cons,List.take_zero,List.cons_append,List.nil_append,List.cons.injEq,and_true,cX,br,ar,ei,aJ,gA,gC,cM,bH,aG,aC,ai]at e11;subst e11;obtain⟨x12,e12,i12,j12⟩:=dG (piece hf 12 12 3 jq rfl)
  simp only[List.drop_succ_cons,List.drop_zero,List.take_succ_cons,List.take_zero,List.cons_append,List.nil_append,List.cons.injEq,and_true,cX,br,ar,ei,aJ,gA,gC,cM,bH,aG,aC,ai]at e12;subst e12;obtain⟨x13,e13,i13,j13⟩:=dG (piece hf 13 13 3 jq rfl);simp only[List.drop_succ_cons,List.drop_zero,List.take_succ_cons,List.take_zero,List.cons_append,List.nil_append,List.cons.injEq,and_true,cX,br,ar,ei,aJ,gA,gC,cM,bH,aG,aC,ai]at e13;subst e13;obtain⟨x14,e14,i14,j14⟩:=dG (piece hf 14 14 3 jq rfl)
  simp only[List.drop_succ_cons,List.drop_zero,List.take_succ_cons,List.take_zero,List.cons_append,List.nil_append,List.cons.injEq,and_true,cX,br,ar,ei,aJ,gA,gC,cM,bH,aG,aC,ai]at e14;subst e14;exact⟨⟨x0,x1,x2,x3,x4,x5,x6,x7,x8,x9,x10,x11,x12,x13,x14⟩,rfl,by refine⟨?_,?_⟩<;>rw[fU]<;>simp only<;>omega⟩
theorem HM {B:Nat} {p:PV} (h:pb Tryz.prog B 38 p):∃x,p=eA x∧x.state.length≤B∧x.l.length≤B∧(B≤1100000→∀y∈x.l,zK y):=by
 obtain⟨n,l,h',rfl⟩:=CC h Tryz.underlying38;obtain⟨x,rfl,hx⟩:=Pe h';exact⟨x,rfl,hx⟩
theorem NJ {B:Nat} {p:PV} (h:pb Tryz.prog B 49 p):∃x,p= .agg (gU x)∧pI x:=by
 obtain⟨n,l,h',rfl⟩:=CC h Tryz.underlying49;obtain⟨x,rfl,hx⟩:=Pf h';exact⟨x,rfl,hx⟩
end
end Pur
end
end Go.Proofs.YtfgcmogbdcifeaaGreatDoor
