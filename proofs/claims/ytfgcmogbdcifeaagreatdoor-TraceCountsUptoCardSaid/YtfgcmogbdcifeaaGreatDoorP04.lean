/-
  Part of the proofs of TraceFigures and TraceCounts (TrCd TrC TrG TrN TrI TrPK TrP TrQ TrR TrS TrU TrV TrD TrE TrH TrJ)
-/
import Derived.Test.YtfgcmogbdcifeaaGreatDoorP03
import Derived.Test.YtfgcmogbdcifeaaGreatDoorCards
import Derived.Test.YtfgcmogbdcifeaaGreatDoorTie
import Derived.ProofKit
import Derived.OpenShut
import Derived.Deep.DeepHandedRow
import Derived.Deep.DeepWitnessRowRef
import Derived.Lay
import Derived.JoinedCond
import Derived.SevenTiedAt
import Derived.Lib.Replace
set_option maxRecDepth 10000
set_option maxHeartbeats 32000000
set_option linter.unusedSimpArgs false
set_option linter.unusedVariables false
namespace Go.Proofs.YtfgcmogbdcifeaaGreatDoor
namespace Pur
theorem pG {w:World} {S:Nat→Prop} {b:Bool} {v:Value} (h:Is w S (.bool b) v):v= .bool b:=by cases h;rfl
end Pur
end Go.Proofs.YtfgcmogbdcifeaaGreatDoor
namespace Go.Proofs.YtfgcmogbdcifeaaGreatDoor.Cd
open Go.ChangeShapes Go.WideShapes Go.ChangeAt Go.RowKit
theorem uS {P:Program} {w:World} {g:Nat} {t:TypeId} {zero:Array Value} (h:w.ShapedOpen P) (hg:g<P.globals.size)
  (h0:((begin P (fun _ _=>0) default).world.heap[g]?).bind Obj.row?=some (zero,t)) (hz:zero.size=1)
  (hb:P.buildable t=true) (hc:P.cellTypes P.depth t=some [t]) (hu:P.underlying t=some (.int .i64)):∃m,w.cell? ⟨g,0,none⟩=some (.int .i64 m):=by
 obtain⟨cs,hh,hs,hr⟩:=h.1 g zero t hg h0;obtain⟨ts,hts,_,hall⟩:=hr hb;rw[hc]at hts;cases hts;have h1:0<cs.size:=by omega
 obtain⟨u,hu',hok⟩:=hall 0 cs[0] (by simp[h1]);have:u=t:=by simpa using hu'.symm
 subst this;have hcell:w.cell? ⟨g,0,none⟩=some cs[0]:=by simp[World.cell?,hh,h1]
 rw[hcell];unfold Cell.ok at hok;rw[hu]at hok;cases hv:cs[0]<;>rw[hv]at hok<;>first|(simp at hok;done)|skip
 obtain⟨rfl,_⟩:=hok;exact⟨_,rfl⟩
theorem own:ownKnob Tryz.prog.godebug=none:=by kernel_rfl
theorem CY:(Tryz.prog.globals[3]?).map (·.type)=some 369:=by kernel_rfl
theorem CZ:Tryz.prog.cellsOf 369=20:=by kernel_rfl
theorem A9:Tryz.prog.cellsOf 327=1:=by kernel_rfl
theorem C0:(Tryz.prog.globals[6]?).map (·.type)=some 322:=by kernel_rfl
theorem C1:Tryz.prog.cellsOf 322=256:=by kernel_rfl
theorem cellsByte:Tryz.prog.cellsOf 5=1:=by kernel_rfl
theorem C2 {W:World} (h:laidMetH Tryz.prog Rows.traceFiguresUptoRow.laid W) (hsh:W.ShapedOpen Tryz.prog):Env W:=by
 obtain⟨ps,hv,_⟩:laidMet Tryz.prog Rows.traceFiguresUptoRow.laid W:=h;refine⟨?_,?_,?_⟩
 ·exact mM Tryz.H7 CY Tryz.underlying369 Tryz.underlying327 A9 CZ _ ps hv (by
   simp only[Rows.traceFiguresUptoRow,List.mem_cons,List.not_mem_nil,or_false];right;right;left;rfl)
 ·exact mM Tryz.EP C0 Tryz.underlying322 Tryz.underlying5 cellsByte C1 _ ps hv (by
   simp only[Rows.traceFiguresUptoRow,List.mem_cons,List.not_mem_nil,or_false];right;right;right;right;right;left;exact congrArg (Prod.mk _) (by kernel_rfl))
 exact uS (zero:=#[.int .i64 0]) hsh (of_decide_eq_true (by kernel_rfl)) (t:=3) (by kernel_rfl) rfl (by kernel_rfl) (by kernel_rfl) Tryz.underlying3
def NO (P:Program) (fn:Func) (s:ChangeSpec) (c:OpenClaim):Bool:=c.wf (OpenSpec.ofChange s)&&laidOutB P&&mapsRowed P &&
 fn.params.all (P.readableRec ·)&&namedTie P c.named s.vars &&
 (c.stops==[])&&(P.stops==[])&&(c.knobs==[])&&(P.stopKnobs==[])
def NP (P:Program) (f:FuncId) (c:OpenClaim):Bool:=c.inPlace==P.inPlace f
def NQ (P:Program) (f:FuncId) (c:OpenClaim):Bool:=c.unfollowed==P.unfollowed f
def NR (P:Program) (f:FuncId) (c:OpenClaim):Bool:=c.recurses==P.recurses f
def NT (P:Program) (f:FuncId) (c:OpenClaim):Bool:=c.named==P.varsNamed f
def NU (P:Program) (fn:Func) (s:ChangeSpec) (c:OpenClaim):Bool:=(c.maps==(fn.params.toList++s.plain.varTypes P).any (P.mapsRec ·))&&((c.ifaces==(fn.params.toList++s.plain.varTypes P).any (P.ifacesRec ·))&&((c.mapsOut==P.mapsAmong fn.resultTypes.toList) &&
 ((c.loops==(fn.params.toList++s.plain.varTypes P).any (P.loopsFrom ·))&&((c.wideKeys==(fn.params.toList++s.plain.varTypes P++fn.resultTypes.toList).any (P.wideKeysFrom ·)) &&
 (s.vars.all (P.varReadable ·)&&(fn.resultTypes.all (fun t=>P.readableRec t&&decide (t<P.types.size))&&((c.ifacesOut==fn.resultTypes.toList.any (P.ifacesRec ·))&&(c.loopsOut==fn.resultTypes.toList.any (P.loopsFrom ·)))))))))
def NV (P:Program) (c:OpenClaim):Bool:=(c.plainKeys==P.plainKeys)&&(c.shortTexts.isNone&&P.stopsHeard)
def NW (P:Program) (c:OpenClaim):Bool:=P.mayEnter&&((c.lifted==P.liftsFinal)&&(P.make==some c.make))
def NX (P:Program) (fn:Func) (s:ChangeSpec) (c:OpenClaim):Bool:=(c.kinds==(if c.domain.isEmpty then [] else fn.params.toList.map fun t=>match P.underlying t with|some (.int k)=>some k|_=>none))&&((c.pinned==c.pinnedBy) &&
 ((c.veiled==(fn.params.toList++s.plain.varTypes P++fn.resultTypes.toList).any (P.veiledRec ·))&&c.veiledFits P fn.params.toList (fn.params.toList++s.plain.varTypes P++fn.resultTypes.toList)))
theorem tM {P:Program} {f:FuncId} {fn:Func} {s:ChangeSpec} {c:OpenClaim} (a:NO P fn s c=true) (b:NP P f c=true) (d:NQ P f c=true) (e:NR P f c=true) (g:NT P f c=true) (h:NU P fn s c=true) (i:NV P c=true) (j:NW P c=true) (k:NX P fn s c=true):joinedFacts P f fn s c=true:=by
 simp only[NO,NP,NQ,NR,NT,NU,NV,NW,NX,Bool.and_eq_true]at a b d e g h i j k;simp only[joinedFacts,Bool.and_eq_true];obtain⟨h1,h2,h3,h4,h5,h6,h7,h8,h9⟩:=h;obtain⟨i1,i2,i3⟩:=i;obtain⟨j1,j2,j3⟩:=j;obtain⟨k1,k2,k3,k4⟩:=k;exact⟨⟨⟨⟨⟨⟨⟨⟨⟨⟨⟨⟨⟨⟨⟨⟨⟨⟨⟨⟨⟨⟨⟨a,b⟩,d⟩,e⟩,g⟩,h1⟩,h2⟩,h3⟩,h4⟩,h5⟩,h6⟩,h7⟩,h8⟩,h9⟩,i1⟩,i2⟩,i3⟩,j1⟩,j2⟩,j3⟩,k1⟩,k2⟩,k3⟩,k4⟩
theorem zI {P:Program} {c:OpenClaim} (hs:c.start= .entering) (h:P.funcs.toList.any Func.goes=false):false=c.goesBy P:=by
 have hm:∀g:Nat,(P.funcs[g]?).any Func.goes=false:=fun g=>by
  cases hg:P.funcs[g]? with
  |none=>rfl
  |some fn =>
   have:=List.any_eq_false.mp h fn (Array.mem_toList_iff.mpr (Array.mem_of_getElem? hg));simpa using this
 have ha:P.funcs.any Func.goes=false:=by rw[←Array.any_toList];exact h
 have hf:∀f,P.goes f=false:=fun f=>by
  unfold Program.goes;rw[ha,Bool.and_false,Bool.or_false];exact List.any_eq_false.mpr fun g _=>by rw[hm g];simp
 unfold OpenClaim.goesBy Program.goesAt Program.goesFrom;rw[hs];cases P.funcNamed c.func with
 |none=>rfl
 |some f=>simp[hf f]
end Go.Proofs.YtfgcmogbdcifeaaGreatDoor.Cd
namespace Go.Proofs.YtfgcmogbdcifeaaGreatDoor
section
namespace Tr
open Pur (gX)
theorem mm (x:En):(bV x).length=28+4*x.out.needs.length+x.ev.past.length+2*x.qs.length+gX x.vals+x.clk.length:=by
 simp only[bV,List.length_append,Pur.oy,Pur.zA,Pur.oA,bA,List.length_cons,an,List.length_nil];have:(x.vals.flatMap an).length=gX x.vals:=rfl;omega
theorem zJ:∀l:List (List Int),l.length≤gX l
 |[]=>Nat.zero_le _
 |x::r=>by
  have:=zJ r;simp only[gX,List.flatMap_cons,List.length_append,List.length_cons,an]at *;omega
theorem pd:∀l:List (List Int),(∀v∈l,v.length≤1100000)→gX l≤l.length*1100001
 |[],_=>Nat.zero_le _
 |x::r,h=>by
  have h1:=pd r fun v hv=>h v (by simp[hv])
  have h2:=h x (by simp);simp only[gX,List.flatMap_cons,List.length_append,List.length_cons,an]at *;omega
structure zK (x:En):Prop where
 nd:x.out.needs.length≤1100000
 past:x.ev.past.length≤1100000
 qs:x.qs.length≤1100000
 vals:x.vals.length≤1100000
 inn:∀v∈x.vals,v.length≤1100000
 clk:x.clk.length≤1100000
theorem zL {x:En} (h:zK x):(bV x).length≤1300000000000:=by
 have hL:=mm x;have hM:=pd x.vals h.inn;have hq:=Nat.mul_le_mul_right 1100001 h.vals;have q1:=h.nd;have q2:=h.past;have q3:=h.qs;have q5:=h.clk;omega
theorem wO {x:En} (h:zK x):zK (bK x):=by
 obtain⟨h1,h2,h3,h4,h5,h6⟩:=h;unfold bK;(repeat' split)<;>constructor<;>simp_all [zx,zo,ze]
end Tr
namespace Pur
open Go.RowKit
attribute [local go_sem] ξ cV ff cI bG cT jR List.map bF aN get put tmpsOf fi qu nz pK conds ev cond_true cond_false Nat.beq Nat.ble Nat.add quiet gN eb ec BD List.append_eq List.nil_append List.cons_append eD uc pJ jc jd je jf jg jh lr jK gg sR iN calm quiet.isCallK eJ List.getElem?_cons_zero List.getElem?_cons_succ cS er cellsOf List.all cH List.length_cons List.length_nil ia cG List.drop List.take List.getD Option.getD_some HR HS FV HT HU HV mV rb mW mX setAt List.set Nat.reduceAdd Nat.reduceMul dW cP refsOf cz dD scalar fu gI dw fq bI after freeze nW pO bM gw jI kQ iM kB kC iV kD kE kH kI kJ kK kL kM kN kO kP iW iX iY cY sS bytesOf cA fg aV dx fG cv dp eK still dT gH cj kh cZ jv List.isEmpty iZ ja jb Int.reduceToNat Nat.mul_one Nat.reduceSub ux gx fa eN fO look eO strip guarded nY pA ju bj iL eh mN kF kG Bool.or_false Bool.or_true Bool.and_true Bool.and_false Nat.blt rh mZ mY fF idxOf nX mG re fX bI uy
open Tr
def Ok:af:=(⟨_,by conv=>(lhs;reduce;try simp only[bD,Int.cast_ofNat_Int,Int.reduceNegSucc,UInt8.reduceOfNat])⟩:{x // codeOf Tryz.prog 40 (fun d=>Nat.beq d 16)=some x}).1
theorem Ol:aD Tryz.prog 40 (fun d=>Nat.beq d 16)=some (Ok,[.t 2],42,true):=by kernel_rfl
def JM:af:=(⟨_,by conv=>(lhs;reduce;try simp only[bD,Int.cast_ofNat_Int,Int.reduceNegSucc,UInt8.reduceOfNat])⟩:{x // codeOf Tryz.prog 115 (fun _=>false)=some x}).1
theorem Mt:aD Tryz.prog 115 (fun _=>false)=some (JM,[.cell 2 28 true],67,true):=by kernel_rfl
def Mu:af:=(⟨_,by conv=>(lhs;reduce;try simp only[bD,Int.cast_ofNat_Int,Int.reduceNegSucc,UInt8.reduceOfNat])⟩:{x // codeOf Tryz.prog 46 (fun _=>false)=some x}).1
theorem Om:aD Tryz.prog 46 (fun _=>false)=some (Mu,[.t 2],22,true):=by kernel_rfl
def C3:af:=(⟨_,by conv=>(lhs;reduce;try simp only[bD,Int.cast_ofNat_Int,Int.reduceNegSucc,UInt8.reduceOfNat])⟩:{x // codeOf Tryz.prog 217 (fun _=>false)=some x}).1
theorem Mv:aD Tryz.prog 217 (fun _=>false)=some (C3,[.t 2],30,true):=by kernel_rfl
def Fu:af:=(⟨_,by conv=>(lhs;reduce;try simp only[bD,Int.cast_ofNat_Int,Int.reduceNegSucc,UInt8.reduceOfNat])⟩:{x // codeOf Tryz.prog 117 (fun _=>false)=some x}).1
theorem Mw:aD Tryz.prog 117 (fun _=>false)=some (Fu,[.t 4],13,true):=by kernel_rfl
theorem rU (x:En) (hw:zK x):ah ctx 40 [bU x] (aa (bV x)):=by
 have hL:=mm x;have hV:=zJ x.vals;have hM:=pd x.vals hw.inn;have hq:=Nat.mul_le_mul_right 1100001 hw.vals;have q1:=hw.nd;have q2:=hw.past;have q3:=hw.qs;have q4:=hw.vals;have q5:=hw.clk;have h1:=uO x.out (by omega);have h2:=yn x.ev (by omega);have h3:=uP x.qs (by omega);have h4:=yo x.vals (by omega) (fun v hv=>by have:=hw.inn v hv;omega) (by omega);have h5:=pc x.clk (by omega);have f1:=aU (bT x.out);have f2:=aU (eQ x.ev);have f3:=aU (cx x.qs);have f4:=aU (bA x.vals);have f5:=aU (an x.clk)
 have g1:=oy x.out;have g2:=zA x.ev;have g3:=oA x.qs;have g4:(bA x.vals).length=1+gX x.vals:=by simp[bA,gX];omega
 have g5:(an x.clk).length=x.clk.length+1:=rfl;have hR:bV x=[x.tick,x.kind,x.rep,x.ses,x.act,x.ser]++bT x.out++eQ x.ev++cx x.qs++bA x.vals++an x.clk:=rfl;have hB:(bT x.out).length+(eQ x.ev).length+(cx x.qs).length+(bA x.vals).length+(an x.clk).length≤1300000000000:=by omega
 rw[hR];clear hR hL hM hq q1 q2 q3 q4 q5 hw;generalize bT x.out=o at *;generalize eQ x.ev=e at *;generalize cx x.qs=q at *;generalize bA x.vals=v at *;generalize an x.clk=c at *;unfold aa br aG at h1;unfold aa ar at h2;unfold aa aC at h3;unfold aa ai at h4;unfold aa at h5;refine aj (C:=ctx) (Fn.of Ol rfl) rfl ?_;unfold Ok;repeat' (first|((with_reducible first|show aI _|show aP _);simp[vb,f1,f2,f3,f4,f5,h1,h2,h3,h4,h5]<;>omega)|exact(rfl:some _=_)|((fail_if_success refine aZ ?_);refine lA [(100,fun _=>some (aa o)),(101,fun _=>some (aa e)),(102,fun _=>some (aa q)),(103,fun _=>some (aa v)),(104,fun _=>some (aa c))] ?_;(repeat1' dsimp only[Ok,aa,bU,aJ,br,ar,aG,aC,ai,go_sem]);first|refine ba ?_ ?_ rfl ?_|apply bb|apply bf|(refine bg (fun hc=>?_) fun hc=>?_<;>first|(cases hc;done)|(exfalso;simp[f1,f2,f3,f4,f5,h1,h2,h3,h4,h5]at hc<;>omega)|(try simp only[bn]at hc;try contradiction))|skip))
 ·exact⟨h2,trivial⟩
 exact iI rfl rfl rfl (by simp) (by simp;omega) (by simp)
def Fv:List PV:=[.int .i64 0,.int .i64 0,.int .i64 0,.int .i64 0,.int .i64 0,.nilsl]
def Fw:List PV:=[.int .i64 0,.int .i64 0,.int .i64 0,.nilsl,.int .i64 0,.int .i64 0,.int .i64 0,.int .i64 0,.int .i64 0,.int .i64 0,.int .i64 0,.int .i64 0,.int .i64 0]
def C4 (x:En):PV :=
 if x.kind=0 then .agg ([.int .i64 x.tick,.int .i64 x.kind,.int .i64 x.rep,.int .i64 x.ses,.int .i64 x.act,.int .i64 x.ser]++Fv++Fw++[.nilsl,.nilsl,.nilsl])
 else if x.kind=1 then .agg ([.int .i64 x.tick,.int .i64 x.kind,.int .i64 x.rep,.int .i64 0,.int .i64 0,.int .i64 0]++br x.out++Fw++[.nilsl,.nilsl,.nilsl])
 else if x.kind=2 then .agg ([.int .i64 x.tick,.int .i64 x.kind,.int .i64 x.rep,.int .i64 0,.int .i64 0,.int .i64 0]++Fv++ar x.ev++[.nilsl,.nilsl,.nilsl])
 else if x.kind=3 then .agg ([.int .i64 x.tick,.int .i64 x.kind,.int .i64 x.rep,.int .i64 x.ses,.int .i64 0,.int .i64 0]++Fv++Fw++[aC x.qs,ai x.vals,aa x.clk])
 else if x.kind=4 then .agg ([.int .i64 x.tick,.int .i64 x.kind,.int .i64 x.rep,.int .i64 x.ses,.int .i64 0,.int .i64 0]++Fv++Fw++[.nilsl,.nilsl,.nilsl])
 else if x.kind=6 then .agg ([.int .i64 x.tick,.int .i64 x.kind,.int .i64 x.rep,.int .i64 0,.int .i64 0,.int .i64 0]++Fv++Fw++[.nilsl,.nilsl,aa x.clk])
 else if x.kind=9 then .agg ([.int .i64 x.tick,.int .i64 x.kind,.int .i64 x.rep,.int .i64 x.ses,.int .i64 x.act,.int .i64 0]++Fv++Fw++[.nilsl,.nilsl,.nilsl])
 else .agg ([.int .i64 x.tick,.int .i64 x.kind,.int .i64 x.rep,.int .i64 0,.int .i64 0,.int .i64 0]++Fv++Fw++[.nilsl,.nilsl,.nilsl])
theorem JN (l:List PV):l.map (canon 0)=l:=by
 induction l with
 |nil=>rfl
 |cons a r ih=>rw[List.map_cons,ih];rfl
theorem C5 (x:En):canon 2 (C4 x)=bU (bK x):=by
 unfold C4 bK;(repeat' split)<;>simp[canon,bU,aJ,Fv,Fw,br,ar,aG,aa,aC,ai,zx,zo,ze,zn,JN]
theorem Ba (x:En):ah ctx 115 [bU x] (bU (bK x)):=by
 rw[←C5];refine ah.AK 2 ?_;refine aj (C:=ctx) (Fn.of Mt rfl) rfl ?_;unfold JM;unfold C4;repeat' (first|((with_reducible first|show aI _|show aP _);simp[vb]<;>omega)|exact(rfl:some _=_)|((fail_if_success refine aZ ?_);refine bJ ?_;(repeat1' dsimp only[JM,aa,bU,aJ,br,ar,aG,aC,ai,go_sem]);first|refine ba ?_ ?_ rfl ?_|apply bb|apply bf|(refine bg (fun hc=>?_) fun hc=>?_<;>first|(cases hc;done)|(exfalso;simp at hc<;>omega)|(try simp only[bn]at hc;try contradiction))|skip))
 all_goals (simp only[Fv,Fw,aa,br,ar,aG,aC,ai,List.cons_append,List.nil_append];simp_all)
theorem pH (l:List Int) (hl:l.length≤2000000000000):ah ctx 46 [aa l] (.bool (l.all lD)):=by
 have f1:=aU l;refine aj (C:=ctx) (Fn.of Om rfl) rfl ?_;unfold Mu;repeat' (first|((with_reducible first|show aI _|show aP _);simp[vb]<;>omega)|exact(rfl:some _=_)|((fail_if_success refine aZ ?_);refine bJ ?_;(repeat1' dsimp only[Mu,aa,go_sem]);first|refine ba ?_ ?_ rfl ?_|apply bb|apply bf|(refine bg (fun hc=>?_) fun hc=>?_<;>first|(cases hc;done)|(exfalso;simp at hc<;>omega)|(try simp only[bn]at hc;try contradiction))|skip))
 refine de l.length (fun k=>(l.take k).all lD=true) (fun k=>[(0,.pv (aa l)),(3,.pv (.int .i64 k))]) (fun _=>[]) rfl (by (repeat' (first|exact trivial|refine And.intro (by first|rfl|(simp[get,Nat.beq]<;>omega)|(dsimp only[get];congr 1<;>first|rfl|omega|(simp<;>omega))) ?_))) ⟨[],rfl⟩ (fun _=>⟨Nat.zero_le _,rfl,rfl⟩) fun k hk hP=>?_
 by_cases hlt:k<l.length
 ·have e1:=ints_at l k hlt;have i1:=mb lD l k 0 hlt;have i2:=uL lD l k 0 hlt;generalize l.getD k 0=x at *;rw[hP,Bool.true_and]at i1;repeat' (first|((with_reducible show aI _);first|exact True.intro|(simp only[vb,lb];omega)|(simp only[vb,lb,e1,f1,hlt];and_intros<;>first|omega|(simp<;>omega))|(simp[vb,e1,f1,hlt]<;>omega))|((with_reducible show aP _);first|exact True.intro|((try dsimp only[go_sem]);first|(simp[vb,e1,f1,hlt]<;>omega)|(simp only[vb,and_true,true_implies];(repeat' (first|(with_reducible assumption)|(with_reducible apply And.intro)|intro _|((fail_if_success (with_reducible show(_:Int)≤_));assumption)))<;>first|omega|rfl|(simp only[ab,e1,f1,hlt];done)|(simp[Nat.mul_one,e1,f1,hlt]<;>omega)|(simp_all;done))))|exact(rfl:some _=_)|((fail_if_success refine aZ ?_);refine cu [ξ 13 (.int .i64 x),ξ 19 (.int .i64 x)] ?_;(repeat1' dsimp only[Mu,aa,go_sem]);first|refine ba ?_ ?_ rfl ?_|apply bb|apply bf|(refine bg (fun hc=>?_) fun hc=>?_<;>first|(cases hc;done)|(exfalso;first|(simp at hc<;>omega)|(simp[e1,f1,hlt]at hc;done))|(try simp only[bn]at hc;try contradiction))|skip))
  ·rw[i2 (by simp[lD];omega)]
  exact⟨hlt,by rw[i1];simp[lD];omega,by (repeat' (first|exact trivial|refine And.intro (by first|rfl|(simp[get,Nat.beq]<;>omega)|(dsimp only[get];congr 1<;>first|rfl|omega|(simp<;>omega))) ?_)),_,rfl⟩
 obtain rfl:k=l.length:=by omega
 rw[List.take_length]at hP;repeat' (first|((with_reducible show aI _);first|exact True.intro|(simp only[vb,lb];omega)|(simp only[vb,lb,hlt];and_intros<;>first|omega|(simp<;>omega))|(simp[vb,hlt]<;>omega))|((with_reducible show aP _);first|exact True.intro|((try dsimp only[go_sem]);first|(simp[vb,hlt]<;>omega)|(simp only[vb,and_true,true_implies];(repeat' (first|(with_reducible assumption)|(with_reducible apply And.intro)|intro _|((fail_if_success (with_reducible show(_:Int)≤_));assumption)))<;>first|omega|rfl|(simp only[ab,hlt];done)|(simp[Nat.mul_one,hlt]<;>omega)|(simp_all;done))))|exact(rfl:some _=_)|((fail_if_success refine aZ ?_);refine bJ ?_;(repeat1' dsimp only[Mu,aa,go_sem]);first|refine ba ?_ ?_ rfl ?_|apply bb|apply bf|(refine bg (fun hc=>?_) fun hc=>?_<;>first|(cases hc;done)|(exfalso;first|(simp at hc<;>omega)|(simp[hlt]at hc;done))|(try simp only[bn]at hc;try contradiction))|skip))
 rw[hP]
theorem ca (a b:Bool):(bif a then b else false)=(a&&b):=by cases a<;>rfl
theorem wP (l:List Int) (hl:l.length≤1000000000):ah ctx 217 [aa l] (.bool (eP l)):=by
 have f1:=aU l;unfold eP;refine aj (C:=ctx) (Fn.of Mv rfl) rfl ?_;unfold C3;repeat' (first|((with_reducible first|show aI _|show aP _);simp[vb]<;>omega)|exact(rfl:some _=_)|((fail_if_success refine aZ ?_);refine bJ ?_;(repeat1' dsimp only[C3,aa,go_sem]);first|refine ba ?_ ?_ rfl ?_|apply bb|apply bf|(refine bg (fun hc=>?_) fun hc=>?_<;>first|(cases hc;done)|(exfalso;simp at hc<;>omega)|(try simp only[bn]at hc;try contradiction))|skip))
 refine de l.length (fun k=>(l.take k).all o8=true) (fun k=>[(0,.pv (aa l)),(3,.pv (.int .i64 k))]) (fun _=>[]) rfl (by (repeat' (first|exact trivial|refine And.intro (by first|rfl|(simp[get,Nat.beq]<;>omega)|(dsimp only[get];congr 1<;>first|rfl|omega|(simp<;>omega))) ?_))) ⟨[],rfl⟩ (fun _=>⟨Nat.zero_le _,rfl,rfl⟩) fun k hk hP=>?_
 by_cases hlt:k<l.length
 ·have e1:=ints_at l k hlt;have i1:=mb o8 l k 0 hlt;have i2:=uL o8 l k 0 hlt;generalize l.getD k 0=x at *;rw[hP,Bool.true_and]at i1;repeat' (first|((with_reducible show aI _);first|exact True.intro|(simp only[vb,lb];omega)|(simp only[vb,lb,e1,f1,hlt];and_intros<;>first|omega|(simp<;>omega))|(simp[vb,e1,f1,hlt]<;>omega))|((with_reducible show aP _);first|exact True.intro|((try dsimp only[go_sem]);first|(simp[vb,e1,f1,hlt]<;>omega)|(simp only[vb,and_true,true_implies];(repeat' (first|(with_reducible assumption)|(with_reducible apply And.intro)|intro _|((fail_if_success (with_reducible show(_:Int)≤_));assumption)))<;>first|omega|rfl|(simp only[ab,e1,f1,hlt];done)|(simp[Nat.mul_one,e1,f1,hlt]<;>omega)|(simp_all;done))))|exact(rfl:some _=_)|((fail_if_success refine aZ ?_);refine cu [ξ 13 (.int .i64 x),ξ 19 (.int .i64 x)] ?_;(repeat1' dsimp only[C3,aa,go_sem]);first|refine ba ?_ ?_ rfl ?_|apply bb|apply bf|(refine bg (fun hc=>?_) fun hc=>?_<;>first|(cases hc;done)|(exfalso;first|(simp at hc<;>omega)|(simp[e1,f1,hlt]at hc;done))|(try simp only[bn]at hc;try contradiction))|skip))
  ·rw[i2 (by simp[o8];omega)];rfl
  exact⟨hlt,by rw[i1];simp[o8];omega,by (repeat' (first|exact trivial|refine And.intro (by first|rfl|(simp[get,Nat.beq]<;>omega)|(dsimp only[get];congr 1<;>first|rfl|omega|(simp<;>omega))) ?_)),_,rfl⟩
 obtain rfl:k=l.length:=by omega
 rw[List.take_length]at hP;rw[hP,Bool.true_and];repeat' (first|((with_reducible show aI _);first|exact True.intro|(simp only[vb,lb];omega)|(simp only[vb,lb,hlt];and_intros<;>first|omega|(simp<;>omega))|(simp[vb,hlt]<;>omega))|((with_reducible show aP _);first|exact True.intro|((try dsimp only[go_sem]);first|(simp[vb,hlt]<;>omega)|(simp only[vb,and_true,true_implies];(repeat' (first|(with_reducible assumption)|(with_reducible apply And.intro)|intro _|((fail_if_success (with_reducible show(_:Int)≤_));assumption)))<;>first|omega|rfl|(simp only[ab,hlt];done)|(simp[Nat.mul_one,hlt]<;>omega)|(simp_all;done))))|exact(rfl:some _=_)|((fail_if_success refine aZ ?_);refine bJ ?_;(repeat1' dsimp only[C3,aa,go_sem]);first|refine ba ?_ ?_ rfl ?_|apply bb|apply bf|(refine bg (fun hc=>?_) fun hc=>?_<;>first|(cases hc;done)|(exfalso;first|(simp at hc<;>omega)|(simp[hlt]at hc;done))|(try simp only[bn]at hc;try contradiction))|skip))
 rw[ca,show decide (1≤(l.length:Int))=decide (1≤l.length) from decide_eq_decide.mpr (by omega),show decide ((l.length:Int)≤5)=decide (l.length≤5) from decide_eq_decide.mpr (by omega)]
theorem C6 (l:List Int) (r:Int) (hl:l.length≤1000000000):ah ctx 117 [aa l,.int .i64 r] (.bool (eP l&&decide ((l.length:Int)=r))):=by
 have hx:=wP l hl;unfold aa at hx;generalize eP l=q at *;refine aj (C:=ctx) (Fn.of Mw rfl) rfl ?_;unfold Fu;cases q with
 |true =>
  repeat' (first|((with_reducible first|show aI _|show aP _);simp[vb,hx]<;>omega)|exact(rfl:some _=_)|((fail_if_success refine aZ ?_);refine lA [(217,fun _=>some (.bool true))] ?_;(repeat1' dsimp only[Fu,aa,go_sem]);first|refine ba ?_ ?_ rfl ?_|apply bb|apply bf|(refine bg (fun hc=>?_) fun hc=>?_<;>first|(cases hc;done)|(exfalso;simp[hx]at hc<;>omega)|(try simp only[bn]at hc;try contradiction))|skip))
  all_goals simp
 |false =>
  repeat' (first|((with_reducible first|show aI _|show aP _);simp[vb,hx]<;>omega)|exact(rfl:some _=_)|((fail_if_success refine aZ ?_);refine lA [(217,fun _=>some (.bool false))] ?_;(repeat1' dsimp only[Fu,aa,go_sem]);first|refine ba ?_ ?_ rfl ?_|apply bb|apply bf|(refine bg (fun hc=>?_) fun hc=>?_<;>first|(cases hc;done)|(exfalso;simp[hx]at hc<;>omega)|(try simp only[bn]at hc;try contradiction))|skip))
  all_goals simp
end Pur
end
section
namespace Tr
def aW (f:Fi):List Int:=[f.submitted,f.executed,f.refused,f.waited,f.opn,f.events,f.deliveries,f.reads,f.waits,f.busy,f.crashes,f.restarts,f.full,f.ticks,f.longest]
def yu:List (List UInt8×Int)→List UInt8
 |[]=>[]
 |(w,n)::r=>w++Lib.itoa n++yu r
def wQ:List (List UInt8×Int)→List UInt8
 |[]=>[]
 |(w,_)::r=>w++78::wQ r
def C7 (f:Fi):List (List (List UInt8×Int)):=[[([115,117,98,109,105,116,116,101,100,32],f.submitted),([44,32,101,120,101,99,117,116,101,100,32],f.executed),([44,32,114,101,102,117,115,101,100,32],f.refused),([44,32,119,97,105,116,101,100,32],f.waited),([44,32,111,112,101,110,32],f.opn)],
 [([101,118,101,110,116,115,32],f.events),([44,32,100,101,108,105,118,101,114,105,101,115,32],f.deliveries)],
 [([114,101,97,100,115,32],f.reads),([44,32,119,97,105,116,115,32],f.waits),([44,32,98,117,115,121,32],f.busy)],
 [([99,114,97,115,104,101,115,32],f.crashes),([44,32,114,101,115,116,97,114,116,115,32],f.restarts),([44,32,102,117,108,108,32],f.full)],
 [([116,105,99,107,115,32],f.ticks),([44,32,108,111,110,103,101,115,116,32],f.longest)]]
def eC (f:Fi):List (List UInt8):=(C7 f).map yu
end Tr
namespace Pur
open Go.RowKit
attribute [local go_sem] ξ cV ff cI bG cT jR List.map bF aN get put tmpsOf fi qu nz pK conds ev cond_true cond_false Nat.beq Nat.ble Nat.add quiet gN eb ec BD List.append_eq List.nil_append List.cons_append eD uc pJ jc jd je jf jg jh lr jK gg sR iN calm quiet.isCallK eJ List.getElem?_cons_zero List.getElem?_cons_succ cS er cellsOf List.all cH List.length_cons List.length_nil ia cG List.drop List.take List.getD Option.getD_some HR HS FV HT HU HV mV rb mW mX setAt List.set Nat.reduceAdd Nat.reduceMul dW cP refsOf cz dD scalar fu gI dw fq bI after freeze nW pO bM gw jI kQ iM kB kC iV kD kE kH kI kJ kK kL kM kN kO kP iW iX iY cY sS bytesOf cA fg aV dx fG cv dp eK still dT gH cj kh cZ jv List.isEmpty iZ ja jb Int.reduceToNat Nat.mul_one Nat.reduceSub ux gx fa eN fO look eO strip guarded nY pA ju bj iL eh mN kF kG Bool.or_false Bool.or_true Bool.and_true Bool.and_false Nat.blt rh mZ mY fF idxOf nX mG re fX bI uy
open Tr
def gU (f:Fi):List PV:=(aW f).map (.int .i64)
def gS (l:List (List UInt8)):PV:=.sl l.length (l.map .str)
def On:af:=(⟨_,by conv=>(lhs;reduce;try simp only[bD,Int.cast_ofNat_Int,Int.reduceNegSucc,UInt8.reduceOfNat])⟩:{x // codeOf Tryz.prog 21 (fun _=>false)=some x}).1
theorem Oo:aD Tryz.prog 21 (fun _=>false)=some (On,[.t 2],74,true):=by kernel_rfl
def pI (f:Fi):Prop:=(∀n∈aW f,-9223372036854775808≤n)∧∀n∈aW f,n≤9223372036854775807
theorem oE (f:Fi) (hf:pI f):ah ctx 21 [.agg (gU f)] (gS (eC f)):=by
 obtain⟨s0,h0⟩:∃s,s=Lib.itoa f.submitted:=⟨_,rfl⟩
 obtain⟨s1,h1⟩:∃s,s=Lib.itoa f.executed:=⟨_,rfl⟩
 obtain⟨s2,h2⟩:∃s,s=Lib.itoa f.refused:=⟨_,rfl⟩
 obtain⟨s3,h3⟩:∃s,s=Lib.itoa f.waited:=⟨_,rfl⟩
 obtain⟨s4,h4⟩:∃s,s=Lib.itoa f.opn:=⟨_,rfl⟩
 obtain⟨s5,h5⟩:∃s,s=Lib.itoa f.events:=⟨_,rfl⟩
 obtain⟨s6,h6⟩:∃s,s=Lib.itoa f.deliveries:=⟨_,rfl⟩
 obtain⟨s7,h7⟩:∃s,s=Lib.itoa f.reads:=⟨_,rfl⟩
 obtain⟨s8,h8⟩:∃s,s=Lib.itoa f.waits:=⟨_,rfl⟩
 obtain⟨s9,h9⟩:∃s,s=Lib.itoa f.busy:=⟨_,rfl⟩
 obtain⟨s10,h10⟩:∃s,s=Lib.itoa f.crashes:=⟨_,rfl⟩
 obtain⟨s11,h11⟩:∃s,s=Lib.itoa f.restarts:=⟨_,rfl⟩
 obtain⟨s12,h12⟩:∃s,s=Lib.itoa f.full:=⟨_,rfl⟩
 obtain⟨s13,h13⟩:∃s,s=Lib.itoa f.ticks:=⟨_,rfl⟩
 obtain⟨s14,h14⟩:∃s,s=Lib.itoa f.longest:=⟨_,rfl⟩
 have x0:=fw f.submitted (hf.1 _ (by simp[aW])) (hf.2 _ (by simp[aW]));have l0:=dk f.submitted (hf.1 _ (by simp[aW])) (hf.2 _ (by simp[aW]));rw[←h0]at x0 l0;have x1:=fw f.executed (hf.1 _ (by simp[aW])) (hf.2 _ (by simp[aW]));have l1:=dk f.executed (hf.1 _ (by simp[aW])) (hf.2 _ (by simp[aW]));rw[←h1]at x1 l1;have x2:=fw f.refused (hf.1 _ (by simp[aW])) (hf.2 _ (by simp[aW]));have l2:=dk f.refused (hf.1 _ (by simp[aW])) (hf.2 _ (by simp[aW]));rw[←h2]at x2 l2;have x3:=fw f.waited (hf.1 _ (by simp[aW])) (hf.2 _ (by simp[aW]))
 have l3:=dk f.waited (hf.1 _ (by simp[aW])) (hf.2 _ (by simp[aW]));rw[←h3]at x3 l3;have x4:=fw f.opn (hf.1 _ (by simp[aW])) (hf.2 _ (by simp[aW]));have l4:=dk f.opn (hf.1 _ (by simp[aW])) (hf.2 _ (by simp[aW]));rw[←h4]at x4 l4;have x5:=fw f.events (hf.1 _ (by simp[aW])) (hf.2 _ (by simp[aW]));have l5:=dk f.events (hf.1 _ (by simp[aW])) (hf.2 _ (by simp[aW]));rw[←h5]at x5 l5;have x6:=fw f.deliveries (hf.1 _ (by simp[aW])) (hf.2 _ (by simp[aW]));have l6:=dk f.deliveries (hf.1 _ (by simp[aW])) (hf.2 _ (by simp[aW]));rw[←h6]at x6 l6
 have x7:=fw f.reads (hf.1 _ (by simp[aW])) (hf.2 _ (by simp[aW]));have l7:=dk f.reads (hf.1 _ (by simp[aW])) (hf.2 _ (by simp[aW]));rw[←h7]at x7 l7;have x8:=fw f.waits (hf.1 _ (by simp[aW])) (hf.2 _ (by simp[aW]));have l8:=dk f.waits (hf.1 _ (by simp[aW])) (hf.2 _ (by simp[aW]));rw[←h8]at x8 l8;have x9:=fw f.busy (hf.1 _ (by simp[aW])) (hf.2 _ (by simp[aW]));have l9:=dk f.busy (hf.1 _ (by simp[aW])) (hf.2 _ (by simp[aW]));rw[←h9]at x9 l9;have x10:=fw f.crashes (hf.1 _ (by simp[aW])) (hf.2 _ (by simp[aW]))
 have l10:=dk f.crashes (hf.1 _ (by simp[aW])) (hf.2 _ (by simp[aW]));rw[←h10]at x10 l10;have x11:=fw f.restarts (hf.1 _ (by simp[aW])) (hf.2 _ (by simp[aW]));have l11:=dk f.restarts (hf.1 _ (by simp[aW])) (hf.2 _ (by simp[aW]));rw[←h11]at x11 l11;have x12:=fw f.full (hf.1 _ (by simp[aW])) (hf.2 _ (by simp[aW]));have l12:=dk f.full (hf.1 _ (by simp[aW])) (hf.2 _ (by simp[aW]));rw[←h12]at x12 l12;have x13:=fw f.ticks (hf.1 _ (by simp[aW])) (hf.2 _ (by simp[aW]));have l13:=dk f.ticks (hf.1 _ (by simp[aW])) (hf.2 _ (by simp[aW]))
 rw[←h13]at x13 l13;have x14:=fw f.longest (hf.1 _ (by simp[aW])) (hf.2 _ (by simp[aW]));have l14:=dk f.longest (hf.1 _ (by simp[aW])) (hf.2 _ (by simp[aW]));rw[←h14]at x14 l14
 have hR:eC f=[[115,117,98,109,105,116,116,101,100,32]++s0++[44,32,101,120,101,99,117,116,101,100,32]++s1++[44,32,114,101,102,117,115,101,100,32]++s2++[44,32,119,97,105,116,101,100,32]++s3++[44,32,111,112,101,110,32]++s4,[101,118,101,110,116,115,32]++s5++[44,32,100,101,108,105,118,101,114,105,101,115,32]++s6,[114,101,97,100,115,32]++s7++[44,32,119,97,105,116,115,32]++s8++[44,32,98,117,115,121,32]++s9,[99,114,97,115,104,101,115,32]++s10++[44,32,114,101,115,116,97,114,116,115,32]++s11++[44,32,102,117,108,108,32]++s12,[116,105,99,107,115,32]++s13++[44,32,108,111,110,103,101,115,116,32]++s14]:=by
  simp only[eC,C7,List.map_cons,List.map_nil,yu,List.append_nil,List.append_assoc,h0,h1,h2,h3,h4,h5,h6,h7,h8,h9,h10,h11,h12,h13,h14]
 rw[hR];clear hR h0 h1 h2 h3 h4 h5 h6 h7 h8 h9 h10 h11 h12 h13 h14;refine aj (C:=ctx) (Fn.of Oo rfl) rfl ?_;unfold On;repeat' (first|((with_reducible show aI _);first|exact True.intro|(simp only[vb,lb];omega)|(simp only[vb,lb,x0,x1,x2,x3,x4,x5,x6,x7,x8,x9,x10,x11,x12,x13,x14,l0,l1,l2,l3,l4,l5,l6,l7,l8,l9,l10,l11,l12,l13,l14];and_intros<;>first|omega|(simp<;>omega))|(simp[vb,x0,x1,x2,x3,x4,x5,x6,x7,x8,x9,x10,x11,x12,x13,x14,l0,l1,l2,l3,l4,l5,l6,l7,l8,l9,l10,l11,l12,l13,l14]<;>omega))|((with_reducible show aP _);first|exact True.intro|((try dsimp only[go_sem]);first|(simp[vb,x0,x1,x2,x3,x4,x5,x6,x7,x8,x9,x10,x11,x12,x13,x14,l0,l1,l2,l3,l4,l5,l6,l7,l8,l9,l10,l11,l12,l13,l14]<;>omega)|(simp only[vb,and_true,true_implies];(repeat' (first|(with_reducible assumption)|(with_reducible apply And.intro)|intro _|((fail_if_success (with_reducible show(_:Int)≤_));assumption)))<;>first|omega|rfl|(simp only[ab,x0,x1,x2,x3,x4,x5,x6,x7,x8,x9,x10,x11,x12,x13,x14,l0,l1,l2,l3,l4,l5,l6,l7,l8,l9,l10,l11,l12,l13,l14];done)|(simp[Nat.mul_one,x0,x1,x2,x3,x4,x5,x6,x7,x8,x9,x10,x11,x12,x13,x14,l0,l1,l2,l3,l4,l5,l6,l7,l8,l9,l10,l11,l12,l13,l14]<;>omega)|(simp_all;done))))|exact(rfl:some _=_)|((fail_if_success refine aZ ?_);refine cu [ξ 5 (.str s0),ξ 10 (.str s1),ξ 15 (.str s2),ξ 20 (.str s3),ξ 25 (.str s4),ξ 29 (.str s5),ξ 34 (.str s6),ξ 38 (.str s7),ξ 43 (.str s8),ξ 48 (.str s9),ξ 52 (.str s10),ξ 57 (.str s11),ξ 62 (.str s12),ξ 66 (.str s13),ξ 71 (.str s14)] ?_;(repeat1' dsimp only[On,gU,aW,gS,go_sem]);first|refine ba ?_ ?_ rfl ?_|apply bb|apply bf|(refine bg (fun hc=>?_) fun hc=>?_<;>first|(cases hc;done)|(exfalso;first|(simp at hc<;>omega)|(simp[x0,x1,x2,x3,x4,x5,x6,x7,x8,x9,x10,x11,x12,x13,x14,l0,l1,l2,l3,l4,l5,l6,l7,l8,l9,l10,l11,l12,l13,l14]at hc;done))|(try simp only[bn]at hc;try contradiction))|skip))
end Pur
end
section
namespace Tr
def pe:List UInt8→List UInt8→List UInt8
 |[],_=>[]
 |c::r,s=>if c=78 then s++r else c::pe r s
theorem uT:∀(p r s:List UInt8),78 ∉ p→pe (p++78::r) s=p++s++r
 |[],r,s,_=>by simp[pe]
 |c::p,r,s,h=>by
  simp only[List.mem_cons,not_or]at h;rw[List.cons_append,pe,if_neg (fun e=>h.1 e.symm),uT p r s h.2];simp
theorem wR:∀(w s:List UInt8),(pe w s).length≤w.length+s.length
 |[],s=>by simp[pe]
 |c::r,s=>by
  rw[pe];split
  ·simp;omega
  have:=wR r s;simp only[List.length_cons];omega
theorem C8 (n:Nat):78 ∉ Lib.decDigits n:=by
 induction n using Nat.strongRecOn with
 |_ n ih =>
  rw[Lib.decDigits];have h1:∀d:Nat,d<10→(78:UInt8)≠UInt8.ofNat (48+d):=fun d hd e=>by
   have:=congrArg UInt8.toNat e;simp at this;omega
  split
  ·simp only[List.mem_singleton];exact h1 n (by omega)
  simp only[List.mem_append,List.mem_singleton,not_or];exact⟨ih (n / 10) (by omega),h1 _ (by omega)⟩
theorem zM (n:Int):78 ∉ Lib.itoa n:=by
 unfold Lib.itoa;split
 ·simp only[List.mem_cons,not_or];exact⟨by decide,C8 _⟩
 exact C8 _
def ke:List UInt8→List Int→List UInt8
 |w,[]=>w
 |w,n::r=>ke (pe w (Lib.itoa n)) r
theorem wS:∀(l:List (List UInt8×Int)) (p:List UInt8),78 ∉ p→(∀x∈l,78 ∉ x.1)→ke (p++wQ l) (l.map (·.2))=p++yu l
 |[],p,_,_=>by simp[ke,wQ,yu]
 |(w,n)::r,p,hp,hl=>by
  have hw:=hl (w,n) (by simp);simp only at hw;rw[List.map_cons,ke,wQ,←List.append_assoc,uT (p++w) _ _ (by simp[hp,hw]),wS r _ (by simp[hp,hw,zM]) (fun x hx=>hl x (by simp[hx])),yu];simp
end Tr
namespace Pur
open Go.RowKit
open Tr
theorem C9:∀(w:List UInt8),78 ∉ w→Lib.count w [78]=0
 |w,h=>by rw[Lib.count_one,List.count_eq_zero];exact h
theorem Bb (w s:List UInt8) (hs:s≠[78]):Lib.replace w [78] s 1=pe w s:=by
 have hb:([78]==s)=false:=by
  rw[beq_eq_false_iff_ne];exact fun e=>hs e.symm
 unfold Lib.replace;rw[hb,if_neg (by simp)];by_cases hm:78∈w
 ·obtain⟨p,r,rfl,hp⟩:∃p r,w=p++78::r∧78 ∉ p:=by
   obtain⟨p,r,h1,h2⟩:=List.append_of_mem hm |> fun ⟨a,b,h⟩=>(⟨a,b,h,trivial⟩:∃a b,w=a++78::b∧True)
   have:∀w:List UInt8,78∈w→∃p r,w=p++78::r∧78 ∉ p:=fun w=>by
    induction w with
    |nil=>intro h;cases h
    |cons c r ih =>
     intro h;by_cases hc:c=78
     ·subst hc;exact⟨[],r,rfl,by simp⟩
     obtain⟨p,q,h1,h2⟩:=ih (by simpa [Ne.symm hc]using h);exact⟨c::p,q,by rw[h1];rfl,by simp[h2,Ne.symm hc]⟩
   exact this w hm
  have hi:Lib.index (p++78::r) [78]=p.length:=by
   refine Lib.index_first (by simp) ?_ fun j hj=>?_
   ·simp[Lib.occAt,List.isPrefixOf]
   rw[Lib.occAt,List.drop_append_of_le_length (by omega)];cases hd:p.drop j with
   |nil=>have:=congrArg List.length hd;simp at this;omega
   |cons c q =>
    have:c∈p:=List.mem_of_mem_drop (by rw[hd];simp);simp only[List.cons_append,List.isPrefixOf,Bool.and_true];rw[beq_eq_false_iff_ne];exact fun e=>hp (e▸this)
  have hn:Lib.replaceNum (p++78::r) [78] 1=1:=by
   have:1≤Lib.count (p++78::r) [78]:=by rw[Lib.count_one];exact List.count_pos_iff.mpr (by simp)
   unfold Lib.replaceNum;rw[if_neg (by omega)];rfl
  rw[hn,Lib.replaceK_hit _ _ 0 _ p.length hi,uT p r s hp];simp[Lib.replaceK]
 have hn:Lib.replaceNum w [78] 1=0:=by
  unfold Lib.replaceNum;rw[C9 w hm];rfl
 rw[hn,Lib.replaceK];have:∀w:List UInt8,78 ∉ w→pe w s=w:=fun w=>by
  induction w with
  |nil=>intro _;rfl
  |cons c r ih =>
   intro h;simp only[List.mem_cons,not_or]at h;rw[pe,if_neg (fun e=>h.1 e.symm),ih h.2]
 exact(this w hm).symm
theorem yv (w s:List UInt8) (hw:w.length≤1000000) (hs:s.length≤1000) (hn:s≠[78]):ah ctx 44 [.str w,.str [78],.str s,.int .i64 1] (.str (pe w s)):=by
 rw[←Bb w s hn];refine ah.wI (by kernel_rfl) fun W S vs hE hS hp=>?_
 obtain⟨v1,v2,v3,v4,rfl,h1,h2,h3,h4⟩:∃a b c d,vs=[a,b,c,d]∧Is W S (.str w) a∧Is W S (.str [78]) b∧Is W S (.str s) c∧Is W S (.int .i64 1) d:=by
  match vs,hp.len with
  |[a,b,c,d],_=>exact⟨a,b,c,d,rfl,hp.at_ 0 _ a rfl rfl,hp.at_ 1 _ b rfl rfl,hp.at_ 2 _ c rfl rfl,hp.at_ 3 _ d rfl rfl⟩
 rw[nk h1,nk h2,nk h3,rJ h4];obtain⟨m,hm⟩:=hE.ml;have hc:Lib.countB ⟨w.toArray⟩ ⟨[(78:UInt8)].toArray⟩≤w.length:=by
  show Lib.count w [78]≤w.length;rw[Lib.count_one];exact List.count_le_length
 have e1:(⟨w.toArray⟩:ByteArray).size=w.length:=by simp[ByteArray.size]
 have e2:(⟨s.toArray⟩:ByteArray).size=s.length:=by simp[ByteArray.size]
 have hmul:Lib.countB ⟨w.toArray⟩ ⟨[(78:UInt8)].toArray⟩*s.length≤w.length*1000:=Nat.mul_le_mul hc hs;refine(Tryz.strings_Replace ⟨w.toArray⟩ ⟨[(78:UInt8)].toArray⟩ ⟨s.toArray⟩ 1 m W (by rw[e1];omega) hm (by simp[ByteArray.size]) (by rw[e1,e2];omega)).mono fun e w' ⟨he,hb⟩=>⟨_,he,hb,fun _ _=>?_⟩
 exact .str _
end Pur
end
section
namespace Pur
open Go.RowKit
attribute [local go_sem] ξ cV ff cI bG cT jR List.map bF aN get put tmpsOf fi qu nz pK conds ev cond_true cond_false Nat.beq Nat.ble Nat.add quiet gN eb ec BD List.append_eq List.nil_append List.cons_append eD uc pJ jc jd je jf jg jh lr jK gg sR iN calm quiet.isCallK eJ List.getElem?_cons_zero List.getElem?_cons_succ cS er cellsOf List.all cH List.length_cons List.length_nil ia cG List.drop List.take List.getD Option.getD_some HR HS FV HT HU HV mV rb mW mX setAt List.set Nat.reduceAdd Nat.reduceMul dW cP refsOf cz dD scalar fu gI dw fq bI after freeze nW pO bM gw jI kQ iM kB kC iV kD kE kH kI kJ kK kL kM kN kO kP iW iX iY cY sS bytesOf cA fg aV dx fG cv dp eK still dT gH cj kh cZ jv List.isEmpty iZ ja jb Int.reduceToNat Nat.mul_one Nat.reduceSub ux gx fa eN fO look eO strip guarded nY pA ju bj iL eh mN kF kG Bool.or_false Bool.or_true Bool.and_true Bool.and_false Nat.blt rh mZ mY fF idxOf nX mG re fX bI uy
section
open Tr
def Mx:af:=(⟨_,by conv=>(lhs;reduce;try simp only[bD,Int.cast_ofNat_Int,Int.reduceNegSucc,UInt8.reduceOfNat])⟩:{x // codeOf Tryz.prog 38 (fun _=>false)=some x}).1
theorem Oq:aD Tryz.prog 38 (fun _=>false)=some (Mx,[.t 4],43,true):=by kernel_rfl
theorem iw (l:List En):(l.flatMap aJ).length=l.length*28:=bW aR l
def gz (l:List En) (i k:Nat):Int:=match td l i k with
 |some j=>j
 |none=> -1
theorem tN (l:List En) (i k:Nat):gz l i (k+1)=if (l.getD k zx).kind=0∧(l.getD k zx).rep=(l.getD i zx).rep∧(l.getD k zx).ser=(l.getD i zx).out.ser then (k:Int) else gz l i k:=by
 unfold gz;rw[td];by_cases hc:(l.getD k zx).kind=0∧(l.getD k zx).rep=(l.getD i zx).rep∧(l.getD k zx).ser=(l.getD i zx).out.ser
 ·rw[if_pos hc,if_pos hc]
 rw[if_neg hc,if_neg hc]
def cL (h:Hi):dI:=⟨[.pv (.int .i64 h.reps),.pv (.int .i64 h.ticks),.pv (aa h.state),.pv (bp h.l)],0,4,38,false⟩
def NY (x:En):dI:=⟨(aJ x).map .pv,0,28,71,false⟩
theorem Da (h:Hi) (i:Nat) (hi:i<h.l.length) (hl:h.l.length≤1000000000):ah ctx 38 [eA h,.int .i64 i] (.int .i64 (gz h.l i i)):=by
 have f1:=aU h.state;have f2:=iw h.l;have e0:=dV aR h.l i zx hi;obtain⟨x,hx⟩:∃x,x=h.l.getD i zx:=⟨_,rfl⟩
 rw[←hx]at e0;simp only[aJ,br,ar,aG,aC,ai,aa,List.cons_append,List.nil_append]at e0;obtain⟨r,hr⟩:∃r,r=gz h.l i i:=⟨_,rfl⟩
 rw[←hr];refine aj (C:=ctx) (Fn.of Oq rfl) rfl ?_;unfold Mx;repeat' (first|((with_reducible show aI _);first|exact True.intro|(simp only[vb,lb];omega)|(simp only[vb,lb,e0,f2,hi];and_intros<;>first|omega|(simp<;>omega))|(simp[vb,e0,f2,hi]<;>omega))|((with_reducible show aP _);first|exact True.intro|((try dsimp only[go_sem]);first|(simp[vb,e0,f2,hi]<;>omega)|(simp only[vb,and_true,true_implies];(repeat' (first|(with_reducible assumption)|(with_reducible apply And.intro)|intro _|((fail_if_success (with_reducible show(_:Int)≤_));assumption)))<;>first|omega|rfl|(simp only[ab,e0,f2,hi];done)|(simp[Nat.mul_one,e0,f2,hi]<;>omega)|(simp_all;done))))|exact(rfl:some _=_)|((fail_if_success refine aZ ?_);refine cu [ξ 12 (bU x)] ?_;(repeat1' dsimp only[Mx,eA,gy,aa,bp,bU,aJ,br,ar,aG,aC,ai,go_sem]);first|refine ba ?_ ?_ rfl ?_|apply bb|apply bf|(refine bg (fun hc=>?_) fun hc=>?_<;>first|(cases hc;done)|(exfalso;first|(simp at hc<;>omega)|(simp[e0,f2,hi]at hc;done))|(try simp only[bn]at hc;try contradiction))|skip))
 refine lU (σ:=Nat) (fun j=>j≤i∧r=gz h.l i j) (fun j=>[(2,.ptr 0 0 0),(5,.ptr 1 0 0),(6,.pv (.int .i64 ((j:Int)-1)))]) (fun _=>[cL h,NY x]) (fun j=>j) i ⟨Nat.le_refl _,hr⟩ (by (repeat' (first|exact trivial|refine And.intro (by first|rfl|(simp[get,Nat.beq]<;>omega)|(dsimp only[get];congr 1<;>first|rfl|omega|(simp<;>omega))) ?_))) ⟨[],rfl⟩ (fun _ _=>⟨Nat.zero_le _,rfl,rfl⟩) fun j hP=>?_
 obtain⟨p1,p2⟩:=hP;simp only[cL,NY];cases j with
 |zero =>
  have:gz h.l i 0= -1:=rfl;rw[p2,this];repeat' (first|((with_reducible show aI _);first|exact True.intro|(simp only[vb,lb];omega)|(simp only[vb,lb,f2];and_intros<;>first|omega|(simp<;>omega))|(simp[vb,f2]<;>omega))|((with_reducible show aP _);first|exact True.intro|((try dsimp only[go_sem]);first|(simp[vb,f2]<;>omega)|(simp only[vb,and_true,true_implies];(repeat' (first|(with_reducible assumption)|(with_reducible apply And.intro)|intro _|((fail_if_success (with_reducible show(_:Int)≤_));assumption)))<;>first|omega|rfl|(simp only[ab,f2];done)|(simp[Nat.mul_one,f2]<;>omega)|(simp_all;done))))|exact(rfl:some _=_)|((fail_if_success refine aZ ?_);refine cu [ξ 15 (.int .i64 (-1))] ?_;(repeat1' dsimp only[Mx,aa,bp,bU,aJ,br,ar,aG,aC,ai,go_sem]);first|refine ba ?_ ?_ rfl ?_|apply bb|apply bf|(refine bg (fun hc=>?_) fun hc=>?_<;>first|(cases hc;done)|(exfalso;first|(simp at hc<;>omega)|(simp[f2]at hc;done))|(try simp only[bn]at hc;try contradiction))|skip))
 |succ j =>
  have hlt:j<h.l.length:=by omega
  have e1:=dV aR h.l j zx hlt;rw[tN,←hx]at p2;generalize h.l.getD j zx=y at *;simp only[aJ,br,ar,aG,aC,ai,aa,List.cons_append,List.nil_append]at e1;rw[show((j+1:Nat):Int)-1=(j:Int) by omega];have hj:0≤(j:Int):=by omega
  repeat' (first|((with_reducible show aI _);first|exact True.intro|(simp only[vb,lb];omega)|(simp only[vb,lb,e1,f2,hlt,hj];and_intros<;>first|omega|(simp<;>omega))|(simp[vb,e1,f2,hlt,hj]<;>omega))|((with_reducible show aP _);first|exact True.intro|((try dsimp only[go_sem]);first|(simp[vb,e1,f2,hlt,hj]<;>omega)|(simp only[vb,and_true,true_implies];(repeat' (first|(with_reducible assumption)|(with_reducible apply And.intro)|intro _|((fail_if_success (with_reducible show(_:Int)≤_));assumption)))<;>first|omega|rfl|(simp only[ab,e1,f2,hlt,hj];done)|(simp[Nat.mul_one,e1,f2,hlt,hj]<;>omega)|(simp_all;done))))|exact(rfl:some _=_)|((fail_if_success refine aZ ?_);refine cu [ξ 15 (.int .i64 j),ξ 16 (.bool true),ξ 23 (bU y)] ?_;(repeat1' dsimp only[Mx,aa,bp,bU,aJ,br,ar,aG,aC,ai,go_sem]);first|refine ba ?_ ?_ rfl ?_|apply bb|apply bf|(refine bg (fun hc=>?_) fun hc=>?_<;>first|(cases hc;done)|(exfalso;first|(simp at hc<;>omega)|(simp[e1,f2,hlt,hj]at hc;done))|(try simp only[bn]at hc;try contradiction))|skip))
  ·rw[p2,if_pos ⟨hc.1.1,hc.1.2,hc.2⟩]
  exact⟨j,by omega,⟨by omega,by rw[p2,if_neg (by rintro⟨a,b,c⟩;rcases hc with(h|h)|h<;>exact h (by assumption))]⟩,by (repeat' (first|exact trivial|refine And.intro (by first|rfl|(simp[get,Nat.beq]<;>omega)|(dsimp only[get];congr 1<;>first|rfl|omega|(simp<;>omega))) ?_)),_,rfl⟩
end
section
open Tr
def My:af:=(⟨_,by conv=>(lhs;reduce;try simp only[bD,Int.cast_ofNat_Int,Int.reduceNegSucc,UInt8.reduceOfNat])⟩:{x // codeOf Tryz.prog 36 (fun _=>false)=some x}).1
theorem Ot:aD Tryz.prog 36 (fun _=>false)=some (My,[.t 4,.t 5],44,true):=by kernel_rfl
def uU (r:Int):PV:=.tup [.int .i64 (if 0≤r then r else 0),.bool (decide (0≤r))]
theorem wT (h:Hi) (i:Nat) (hi:i<h.l.length) (hl:h.l.length≤1000000000):ah ctx 36 [eA h,.int .i64 i] (uU (gz h.l i i)):=by
 have f1:=aU h.state;have f2:=iw h.l;have e0:=dV aR h.l i zx hi;obtain⟨x,hx⟩:∃x,x=h.l.getD i zx:=⟨_,rfl⟩
 rw[←hx]at e0;simp only[aJ,br,ar,aG,aC,ai,aa,List.cons_append,List.nil_append]at e0;obtain⟨r,hr⟩:∃r,r=gz h.l i i:=⟨_,rfl⟩
 rw[←hr];refine aj (C:=ctx) (Fn.of Ot rfl) rfl ?_;unfold My;repeat' (first|((with_reducible show aI _);first|exact True.intro|(simp only[vb,lb];omega)|(simp only[vb,lb,e0,f2,hi];and_intros<;>first|omega|(simp<;>omega))|(simp[vb,e0,f2,hi]<;>omega))|((with_reducible show aP _);first|exact True.intro|((try dsimp only[go_sem]);first|(simp[vb,e0,f2,hi]<;>omega)|(simp only[vb,and_true,true_implies];(repeat' (first|(with_reducible assumption)|(with_reducible apply And.intro)|intro _|((fail_if_success (with_reducible show(_:Int)≤_));assumption)))<;>first|omega|rfl|(simp only[ab,e0,f2,hi];done)|(simp[Nat.mul_one,e0,f2,hi]<;>omega)|(simp_all;done))))|exact(rfl:some _=_)|((fail_if_success refine aZ ?_);refine cu [ξ 13 (bU x)] ?_;(repeat1' dsimp only[My,eA,gy,aa,bp,bU,aJ,br,ar,aG,aC,ai,go_sem]);first|refine ba ?_ ?_ rfl ?_|apply bb|apply bf|(refine bg (fun hc=>?_) fun hc=>?_<;>first|(cases hc;done)|(exfalso;first|(simp at hc<;>omega)|(simp[e0,f2,hi]at hc;done))|(try simp only[bn]at hc;try contradiction))|skip))
 refine lU (σ:=Nat) (fun j=>j≤i∧r=gz h.l i j) (fun j=>[(2,.ptr 0 0 0),(6,.ptr 1 0 0),(7,.pv (.int .i64 ((j:Int)-1)))]) (fun _=>[cL h,NY x]) (fun j=>j) i ⟨Nat.le_refl _,hr⟩ (by (repeat' (first|exact trivial|refine And.intro (by first|rfl|(simp[get,Nat.beq]<;>omega)|(dsimp only[get];congr 1<;>first|rfl|omega|(simp<;>omega))) ?_))) ⟨[],rfl⟩ (fun _ _=>⟨Nat.zero_le _,rfl,rfl⟩) fun j hP=>?_
 obtain⟨p1,p2⟩:=hP;simp only[cL,NY];cases j with
 |zero =>
  have:gz h.l i 0= -1:=rfl;rw[p2,this];repeat' (first|((with_reducible show aI _);first|exact True.intro|(simp only[vb,lb];omega)|(simp only[vb,lb,f2];and_intros<;>first|omega|(simp<;>omega))|(simp[vb,f2]<;>omega))|((with_reducible show aP _);first|exact True.intro|((try dsimp only[go_sem]);first|(simp[vb,f2]<;>omega)|(simp only[vb,and_true,true_implies];(repeat' (first|(with_reducible assumption)|(with_reducible apply And.intro)|intro _|((fail_if_success (with_reducible show(_:Int)≤_));assumption)))<;>first|omega|rfl|(simp only[ab,f2];done)|(simp[Nat.mul_one,f2]<;>omega)|(simp_all;done))))|exact(rfl:some _=_)|((fail_if_success refine aZ ?_);refine cu [ξ 16 (.int .i64 (-1))] ?_;(repeat1' dsimp only[My,aa,bp,bU,aJ,br,ar,aG,aC,ai,go_sem]);first|refine ba ?_ ?_ rfl ?_|apply bb|apply bf|(refine bg (fun hc=>?_) fun hc=>?_<;>first|(cases hc;done)|(exfalso;first|(simp at hc<;>omega)|(simp[f2]at hc;done))|(try simp only[bn]at hc;try contradiction))|skip))
  all_goals first|exact⟨trivial,rfl⟩|rfl
 |succ j =>
  have hlt:j<h.l.length:=by omega
  have e1:=dV aR h.l j zx hlt;rw[tN,←hx]at p2;generalize h.l.getD j zx=y at *;simp only[aJ,br,ar,aG,aC,ai,aa,List.cons_append,List.nil_append]at e1;rw[show((j+1:Nat):Int)-1=(j:Int) by omega];have hj:0≤(j:Int):=by omega
  repeat' (first|((with_reducible show aI _);first|exact True.intro|(simp only[vb,lb];omega)|(simp only[vb,lb,e1,f2,hlt,hj];and_intros<;>first|omega|(simp<;>omega))|(simp[vb,e1,f2,hlt,hj]<;>omega))|((with_reducible show aP _);first|exact True.intro|((try dsimp only[go_sem]);first|(simp[vb,e1,f2,hlt,hj]<;>omega)|(simp only[vb,and_true,true_implies];(repeat' (first|(with_reducible assumption)|(with_reducible apply And.intro)|intro _|((fail_if_success (with_reducible show(_:Int)≤_));assumption)))<;>first|omega|rfl|(simp only[ab,e1,f2,hlt,hj];done)|(simp[Nat.mul_one,e1,f2,hlt,hj]<;>omega)|(simp_all;done))))|exact(rfl:some _=_)|((fail_if_success refine aZ ?_);refine cu [ξ 16 (.int .i64 j),ξ 17 (.bool true),ξ 24 (bU y)] ?_;(repeat1' dsimp only[My,aa,bp,bU,aJ,br,ar,aG,aC,ai,go_sem]);first|refine ba ?_ ?_ rfl ?_|apply bb|apply bf|(refine bg (fun hc=>?_) fun hc=>?_<;>first|(cases hc;done)|(exfalso;first|(simp at hc<;>omega)|(simp[e1,f2,hlt,hj]at hc;done))|(try simp only[bn]at hc;try contradiction))|skip))
  ·have hrj:r=j:=by rw[p2,if_pos ⟨hc.1.1,hc.1.2,hc.2⟩]
   subst hrj;unfold uU;rw[if_pos (by omega)];simp
  exact⟨j,by omega,⟨by omega,by rw[p2,if_neg (by rintro⟨a,b,c⟩;rcases hc with(h|h)|h<;>exact h (by assumption))]⟩,by (repeat' (first|exact trivial|refine And.intro (by first|rfl|(simp[get,Nat.beq]<;>omega)|(dsimp only[get];congr 1<;>first|rfl|omega|(simp<;>omega))) ?_)),_,rfl⟩
end
section
open Tr
def Db:af:=(⟨_,by conv=>(lhs;reduce;try simp only[bD,Int.cast_ofNat_Int,Int.reduceNegSucc,UInt8.reduceOfNat])⟩:{x // codeOf Tryz.prog 209 (fun _=>false)=some x}).1
theorem Mz:aD Tryz.prog 209 (fun _=>false)=some (Db,[.t 2],26,true):=by kernel_rfl
def JO:af:=(⟨_,by conv=>(lhs;reduce;try simp only[bD,Int.cast_ofNat_Int,Int.reduceNegSucc,UInt8.reduceOfNat])⟩:{x // codeOf Tryz.prog 148 (fun _=>false)=some x}).1
theorem MA:aD Tryz.prog 148 (fun _=>false)=some (JO,[.t 4],9,true):=by kernel_rfl
def Bc:af:=(⟨_,by conv=>(lhs;reduce;try simp only[bD,Int.cast_ofNat_Int,Int.reduceNegSucc,UInt8.reduceOfNat])⟩:{x // codeOf Tryz.prog 261 (fun _=>false)=some x}).1
theorem MB:aD Tryz.prog 261 (fun _=>false)=some (Bc,[.t 4],19,true):=by kernel_rfl
def JP:af:=(⟨_,by conv=>(lhs;reduce;try simp only[bD,Int.cast_ofNat_Int,Int.reduceNegSucc,UInt8.reduceOfNat])⟩:{x // codeOf Tryz.prog 301 (fun _=>false)=some x}).1
theorem MC:aD Tryz.prog 301 (fun _=>false)=some (JP,[.t 2],9,true):=by kernel_rfl
def JQ:af:=(⟨_,by conv=>(lhs;reduce;try simp only[bD,Int.cast_ofNat_Int,Int.reduceNegSucc,UInt8.reduceOfNat])⟩:{x // codeOf Tryz.prog 204 (fun _=>false)=some x}).1
theorem MD:aD Tryz.prog 204 (fun _=>false)=some (JQ,[.t 2],6,true):=by kernel_rfl
def JR:af:=(⟨_,by conv=>(lhs;reduce;try simp only[bD,Int.cast_ofNat_Int,Int.reduceNegSucc,UInt8.reduceOfNat])⟩:{x // codeOf Tryz.prog 105 (fun _=>false)=some x}).1
theorem ME:aD Tryz.prog 105 (fun _=>false)=some (JR,[.t 2],32,true):=by kernel_rfl
def JS:af:=(⟨_,by conv=>(lhs;reduce;try simp only[bD,Int.cast_ofNat_Int,Int.reduceNegSucc,UInt8.reduceOfNat])⟩:{x // codeOf Tryz.prog 205 (fun _=>false)=some x}).1
theorem MF:aD Tryz.prog 205 (fun _=>false)=some (JS,[.t 2],9,true):=by kernel_rfl
def te:af:=(⟨_,by conv=>(lhs;reduce;try simp only[bD,Int.cast_ofNat_Int,Int.reduceNegSucc,UInt8.reduceOfNat])⟩:{x // codeOf Tryz.prog 306 (fun _=>false)=some x}).1
theorem Dc:aD Tryz.prog 306 (fun _=>false)=some (te,[.t 4],26,true):=by kernel_rfl
theorem zN (l:List Int) (hl:l.length≤1000000000):ah ctx 209 [aa l] (.bool (eP l)):=by
 have f1:=aU l;unfold eP;refine aj (C:=ctx) (Fn.of Mz rfl) rfl ?_;unfold Db;repeat' (first|((with_reducible first|show aI _|show aP _);simp[vb]<;>omega)|exact(rfl:some _=_)|((fail_if_success refine aZ ?_);refine bJ ?_;(repeat1' dsimp only[Db,aa,go_sem]);first|refine ba ?_ ?_ rfl ?_|apply bb|apply bf|(refine bg (fun hc=>?_) fun hc=>?_<;>first|(cases hc;done)|(exfalso;simp at hc<;>omega)|(try simp only[bn]at hc;try contradiction))|skip))
 refine de l.length (fun k=>(l.take k).all o8=true) (fun k=>[(0,.pv (aa l)),(5,.pv (aa l)),(6,.pv (.int .i64 l.length)),(7,.pv (.int .i64 k))]) (fun _=>[]) rfl (by (repeat' (first|exact trivial|refine And.intro (by first|rfl|(simp[get,Nat.beq]<;>omega)|(dsimp only[get];congr 1<;>first|rfl|omega|(simp<;>omega))) ?_))) ⟨[],rfl⟩ (fun _=>⟨Nat.zero_le _,rfl,rfl⟩) fun k hk hP=>?_
 by_cases hlt:k<l.length
 ·have e1:=ints_at l k hlt;have i1:=mb o8 l k 0 hlt;have i2:=uL o8 l k 0 hlt;generalize l.getD k 0=x at *;rw[hP,Bool.true_and]at i1;repeat' (first|((with_reducible show aI _);first|exact True.intro|(simp only[vb,lb];omega)|(simp only[vb,lb,e1,f1,hlt];and_intros<;>first|omega|(simp<;>omega))|(simp[vb,e1,f1,hlt]<;>omega))|((with_reducible show aP _);first|exact True.intro|((try dsimp only[go_sem]);first|(simp[vb,e1,f1,hlt]<;>omega)|(simp only[vb,and_true,true_implies];(repeat' (first|(with_reducible assumption)|(with_reducible apply And.intro)|intro _|((fail_if_success (with_reducible show(_:Int)≤_));assumption)))<;>first|omega|rfl|(simp only[ab,e1,f1,hlt];done)|(simp[Nat.mul_one,e1,f1,hlt]<;>omega)|(simp_all;done))))|exact(rfl:some _=_)|((fail_if_success refine aZ ?_);refine cu [ξ 10 (.int .i64 x)] ?_;(repeat1' dsimp only[Db,aa,go_sem]);first|refine ba ?_ ?_ rfl ?_|apply bb|apply bf|(refine bg (fun hc=>?_) fun hc=>?_<;>first|(cases hc;done)|(exfalso;first|(simp at hc<;>omega)|(simp[e1,f1,hlt]at hc;done))|(try simp only[bn]at hc;try contradiction))|skip))
  ·rw[i2 (by simp[o8];omega)];rfl
  exact⟨hlt,by rw[i1];simp[o8];omega,by (repeat' (first|exact trivial|refine And.intro (by first|rfl|(simp[get,Nat.beq]<;>omega)|(dsimp only[get];congr 1<;>first|rfl|omega|(simp<;>omega))) ?_)),_,rfl⟩
 obtain rfl:k=l.length:=by omega
 rw[List.take_length]at hP;rw[hP,Bool.true_and];repeat' (first|((with_reducible show aI _);first|exact True.intro|(simp only[vb,lb];omega)|(simp only[vb,lb,hlt];and_intros<;>first|omega|(simp<;>omega))|(simp[vb,hlt]<;>omega))|((with_reducible show aP _);first|exact True.intro|((try dsimp only[go_sem]);first|(simp[vb,hlt]<;>omega)|(simp only[vb,and_true,true_implies];(repeat' (first|(with_reducible assumption)|(with_reducible apply And.intro)|intro _|((fail_if_success (with_reducible show(_:Int)≤_));assumption)))<;>first|omega|rfl|(simp only[ab,hlt];done)|(simp[Nat.mul_one,hlt]<;>omega)|(simp_all;done))))|exact(rfl:some _=_)|((fail_if_success refine aZ ?_);refine bJ ?_;(repeat1' dsimp only[Db,aa,go_sem]);first|refine ba ?_ ?_ rfl ?_|apply bb|apply bf|(refine bg (fun hc=>?_) fun hc=>?_<;>first|(cases hc;done)|(exfalso;first|(simp at hc<;>omega)|(simp[hlt]at hc;done))|(try simp only[bn]at hc;try contradiction))|skip))
 rw[ca,show decide (1≤(l.length:Int))=decide (1≤l.length) from decide_eq_decide.mpr (by omega),show decide ((l.length:Int)≤5)=decide (l.length≤5) from decide_eq_decide.mpr (by omega)]
def uV {α:Type} (p:α→Bool) (l:List α):Int:=match l.findIdx? p with
 |some i=>i
 |none=> -1
theorem Fx {α:Type} (p:α→Bool) (l:List α) (k:Nat) (d:α) (hk:k<l.length) (h:(l.take k).all (fun x=>!p x)=true) (hp:p (l.getD k d)=true):uV p l=k:=by
 have:l.findIdx? p=some k:=by
  rw[List.findIdx?_eq_some_iff_getElem];refine⟨hk,by rw[List.getD,List.getElem?_eq_getElem hk]at hp;exact hp,fun j hj=>?_⟩;have:=List.all_eq_true.mp h (l[j]'(by omega)) (by
   rw[List.mem_take_iff_getElem];exact⟨j,by omega,rfl⟩)
  simpa using this
 rw[uV,this]
theorem Dd {α:Type} (p:α→Bool) (l:List α) (h:l.all (fun x=>!p x)=true):uV p l= -1:=by
 have:l.findIdx? p=none:=by
  rw[List.findIdx?_eq_none_iff];intro x hx;have:=List.all_eq_true.mp h x hx;simpa using this
 rw[uV,this]
theorem Fy {α:Type} (p:α→Bool) (l:List α):decide (0≤uV p l)=l.any p:=by
 cases h:l.findIdx? p with
 |none =>
  rw[List.findIdx?_eq_none_iff]at h;have:l.any p=false:=List.any_eq_false.mpr fun x hx=>by rw[h x hx];simp
  rw[this,uV,List.findIdx?_eq_none_iff.mpr h];rfl
 |some i =>
  rw[uV,h];rw[List.findIdx?_eq_some_iff_getElem]at h;obtain⟨h1,h2,-⟩:=h;rw[show l.any p=true from List.any_eq_true.mpr ⟨_,List.getElem_mem h1,h2⟩];simp
theorem Bd (g:FuncId) (l:List Int) (hl:l.length≤1000000000) (p:Int→Bool) (hp:∀x∈l,ah ctx g [.int .i64 x] (.bool (p x))):ah ctx 261 [aa l,.val (.func (.func g) #[] #[])] (.int .i64 (uV p l)):=by
 have f1:=aU l;refine aj (C:=ctx) (Fn.of MB rfl) rfl ?_;unfold Bc;repeat' (first|((with_reducible first|show aI _|show aP _);simp[vb]<;>omega)|exact(rfl:some _=_)|((fail_if_success refine aZ ?_);refine bJ ?_;(repeat1' dsimp only[Bc,aa,go_sem]);first|refine ba ?_ ?_ rfl ?_|apply bb|apply bf|(refine bg (fun hc=>?_) fun hc=>?_<;>first|(cases hc;done)|(exfalso;simp at hc<;>omega)|(try simp only[bn]at hc;try contradiction))|skip))
 refine de l.length (fun k=>(l.take k).all (fun x=>!p x)=true) (fun k=>[(0,.pv (aa l)),(1,.pv (.val (.func (.func g) #[] #[]))),(7,.pv (.int .i64 l.length)),(8,.pv (.int .i64 k))]) (fun _=>[]) rfl (by (repeat' (first|exact trivial|refine And.intro (by first|rfl|(simp[get,Nat.beq]<;>omega)|(dsimp only[get];congr 1<;>first|rfl|omega|(simp<;>omega))) ?_))) ⟨[],rfl⟩ (fun _=>⟨Nat.zero_le _,rfl,rfl⟩) fun k hk hP=>?_
 by_cases hlt:k<l.length
 ·have e1:=ints_at l k hlt;have i1:=mb (fun x=>!p x) l k 0 hlt;have i3:=Fx p l k 0 hlt hP;have hx:=hp _ (bX (d:=0) hlt);rw[hP,Bool.true_and]at i1;generalize l.getD k 0=x at *;generalize p x=q at *;cases q with
  |true =>
   rw[i3 rfl];repeat' (first|((with_reducible show aI _);first|exact True.intro|(simp only[vb,lb];omega)|(simp only[vb,lb,e1,f1,hlt,hx];and_intros<;>first|omega|(simp<;>omega))|(simp[vb,e1,f1,hlt,hx]<;>omega))|((with_reducible show aP _);first|exact True.intro|((try dsimp only[go_sem]);first|(simp[vb,e1,f1,hlt,hx]<;>omega)|(simp only[vb,and_true,true_implies];(repeat' (first|(with_reducible assumption)|(with_reducible apply And.intro)|intro _|((fail_if_success (with_reducible show(_:Int)≤_));assumption)))<;>first|omega|rfl|(simp only[ab,e1,f1,hlt,hx];done)|(simp[Nat.mul_one,e1,f1,hlt,hx]<;>omega)|(simp_all;done))))|exact(rfl:some _=_)|((fail_if_success refine aZ ?_);refine cu [ξ 15 (.int .i64 x),ξ 16 (.bool true)] ?_;(repeat1' dsimp only[Bc,aa,go_sem]);first|refine ba ?_ ?_ rfl ?_|apply bb|apply bf|(refine bg (fun hc=>?_) fun hc=>?_<;>first|(cases hc;done)|(exfalso;first|(simp at hc<;>omega)|(simp[e1,f1,hlt,hx]at hc;done))|(try simp only[bn]at hc;try contradiction))|skip))
  |false =>
   repeat' (first|((with_reducible show aI _);first|exact True.intro|(simp only[vb,lb];omega)|(simp only[vb,lb,e1,f1,hlt,hx];and_intros<;>first|omega|(simp<;>omega))|(simp[vb,e1,f1,hlt,hx]<;>omega))|((with_reducible show aP _);first|exact True.intro|((try dsimp only[go_sem]);first|(simp[vb,e1,f1,hlt,hx]<;>omega)|(simp only[vb,and_true,true_implies];(repeat' (first|(with_reducible assumption)|(with_reducible apply And.intro)|intro _|((fail_if_success (with_reducible show(_:Int)≤_));assumption)))<;>first|omega|rfl|(simp only[ab,e1,f1,hlt,hx];done)|(simp[Nat.mul_one,e1,f1,hlt,hx]<;>omega)|(simp_all;done))))|exact(rfl:some _=_)|((fail_if_success refine aZ ?_);refine cu [ξ 15 (.int .i64 x),ξ 16 (.bool false)] ?_;(repeat1' dsimp only[Bc,aa,go_sem]);first|refine ba ?_ ?_ rfl ?_|apply bb|apply bf|(refine bg (fun hc=>?_) fun hc=>?_<;>first|(cases hc;done)|(exfalso;first|(simp at hc<;>omega)|(simp[e1,f1,hlt,hx]at hc;done))|(try simp only[bn]at hc;try contradiction))|skip))
   exact⟨hlt,i1,by (repeat' (first|exact trivial|refine And.intro (by first|rfl|(simp[get,Nat.beq]<;>omega)|(dsimp only[get];congr 1<;>first|rfl|omega|(simp<;>omega))) ?_)),_,rfl⟩
 obtain rfl:k=l.length:=by omega
 rw[List.take_length]at hP;rw[Dd p l hP];repeat' (first|((with_reducible show aI _);first|exact True.intro|(simp only[vb,lb];omega)|(simp only[vb,lb,hlt];and_intros<;>first|omega|(simp<;>omega))|(simp[vb,hlt]<;>omega))|((with_reducible show aP _);first|exact True.intro|((try dsimp only[go_sem]);first|(simp[vb,hlt]<;>omega)|(simp only[vb,and_true,true_implies];(repeat' (first|(with_reducible assumption)|(with_reducible apply And.intro)|intro _|((fail_if_success (with_reducible show(_:Int)≤_));assumption)))<;>first|omega|rfl|(simp only[ab,hlt];done)|(simp[Nat.mul_one,hlt]<;>omega)|(simp_all;done))))|exact(rfl:some _=_)|((fail_if_success refine aZ ?_);refine bJ ?_;(repeat1' dsimp only[Bc,aa,go_sem]);first|refine ba ?_ ?_ rfl ?_|apply bb|apply bf|(refine bg (fun hc=>?_) fun hc=>?_<;>first|(cases hc;done)|(exfalso;first|(simp at hc<;>omega)|(simp[hlt]at hc;done))|(try simp only[bn]at hc;try contradiction))|skip))
theorem Be (g:FuncId) (l:List Int) (hl:l.length≤1000000000) (p:Int→Bool) (hp:∀x∈l,ah ctx g [.int .i64 x] (.bool (p x))):ah ctx 148 [aa l,.val (.func (.func g) #[] #[])] (.bool (l.any p)):=by
 have hx:=Bd g l hl p hp;rw[←Fy];generalize uV p l=q at *;unfold aa at hx;refine aj (C:=ctx) (Fn.of MA rfl) rfl ?_;unfold JO;repeat' (first|((with_reducible first|show aI _|show aP _);simp[vb,hx]<;>omega)|exact(rfl:some _=_)|((fail_if_success refine aZ ?_);refine lA [(261,fun _=>some (.int .i64 q))] ?_;(repeat1' dsimp only[JO,aa,go_sem]);first|refine ba ?_ ?_ rfl ?_|apply bb|apply bf|(refine bg (fun hc=>?_) fun hc=>?_<;>first|(cases hc;done)|(exfalso;simp[hx]at hc<;>omega)|(try simp only[bn]at hc;try contradiction))|skip))
theorem Bf (n:Int):ah ctx 301 [.int .i64 n] (.bool (!lD n)):=by
 refine aj (C:=ctx) (Fn.of MC rfl) rfl ?_;unfold JP;repeat' (first|((with_reducible first|show aI _|show aP _);simp[vb]<;>omega)|exact(rfl:some _=_)|((fail_if_success refine aZ ?_);refine bJ ?_;(repeat1' dsimp only[JP,go_sem]);first|refine ba ?_ ?_ rfl ?_|apply bb|apply bf|(refine bg (fun hc=>?_) fun hc=>?_<;>first|(cases hc;done)|(exfalso;simp at hc<;>omega)|(try simp only[bn]at hc;try contradiction))|skip))
 refine congrArg (fun b=>some (PV.bool b)) ?_;rw[Bool.eq_iff_iff];simp[lD,cond_eq_ite]
theorem tO (l:List Int) (hl:l.length≤1000000000):ah ctx 204 [aa l] (.bool (l.all lD)):=by
 have hx:=Be 301 l hl (fun n=>!lD n) fun n _=>Bf n
 rw[show l.all lD= !(l.any fun n=>!lD n) by rw[List.any_eq_not_all_not];simp];generalize (l.any fun n=>!lD n)=q at *;unfold aa at hx;refine aj (C:=ctx) (Fn.of MD rfl) rfl ?_;unfold JQ;repeat' (first|((with_reducible first|show aI _|show aP _);simp[vb,hx]<;>omega)|exact(rfl:some _=_)|((fail_if_success refine aZ ?_);refine lA [(148,fun _=>some (.bool q))] ?_;(repeat1' dsimp only[JQ,aa,go_sem]);first|refine ba ?_ ?_ rfl ?_|apply bb|apply bf|(refine bg (fun hc=>?_) fun hc=>?_<;>first|(cases hc;done)|(exfalso;simp[hx]at hc<;>omega)|(try simp only[bn]at hc;try contradiction))|skip))
theorem De (n:Int):ah ctx 205 [.int .i64 n] (.bool (decide (0≤n)&&decide (n≤9))):=by
 refine aj (C:=ctx) (Fn.of MF rfl) rfl ?_;unfold JS;repeat' (first|((with_reducible first|show aI _|show aP _);simp[vb]<;>omega)|exact(rfl:some _=_)|((fail_if_success refine aZ ?_);refine bJ ?_;(repeat1' dsimp only[JS,go_sem]);first|refine ba ?_ ?_ rfl ?_|apply bb|apply bf|(refine bg (fun hc=>?_) fun hc=>?_<;>first|(cases hc;done)|(exfalso;simp at hc<;>omega)|(try simp only[bn]at hc;try contradiction))|skip))
 refine congrArg (fun b=>some (PV.bool b)) ?_;rw[ca,show decide (n<10)=decide (n≤9) from decide_eq_decide.mpr (by omega)]
theorem rV (a b:List Int) (ha:a.length≤1000000000) (hb:b.length≤1000000000):ah ctx 306 [aa a,aa b] (.bool (decide (a=b))):=by
 have f1:=aU a;have f2:=aU b;by_cases hl:a.length=b.length
 ·refine aj (C:=ctx) (Fn.of Dc rfl) rfl ?_;unfold te;repeat' (first|((with_reducible first|show aI _|show aP _);simp[vb,hl]<;>omega)|exact(rfl:some _=_)|((fail_if_success refine aZ ?_);refine bJ ?_;(repeat1' dsimp only[te,aa,go_sem]);first|refine ba ?_ ?_ rfl ?_|apply bb|apply bf|(refine bg (fun hc=>?_) fun hc=>?_<;>first|(cases hc;done)|(exfalso;simp[hl]at hc<;>omega)|(try simp only[bn]at hc;try contradiction))|skip))
  refine de a.length (fun k=>a.take k=b.take k) (fun k=>[(0,.pv (aa a)),(1,.pv (aa b)),(12,.pv (.int .i64 a.length)),(13,.pv (.int .i64 k))]) (fun _=>[]) (by simp) (by (repeat' (first|exact trivial|refine And.intro (by first|rfl|(simp[get,Nat.beq]<;>omega)|(dsimp only[get];congr 1<;>first|rfl|omega|(simp<;>omega))) ?_))) ⟨[],rfl⟩ (fun _=>⟨Nat.zero_le _,rfl,rfl⟩) fun k hk hP=>?_
  by_cases hlt:k<a.length
  ·have hlt2:k<b.length:=by omega
   have e1:=ints_at a k hlt;have e2:=ints_at b k hlt2;have h1:=bB a k 0 hlt;have h2:=bB b k 0 hlt2;have hne:a.getD k 0≠b.getD k 0→a≠b:=fun h e=>h (by rw[e])
   generalize a.getD k 0=x at *;generalize b.getD k 0=y at *;repeat' (first|((with_reducible show aI _);first|exact True.intro|(simp only[vb,lb];omega)|(simp only[vb,lb,e1,e2,f1,f2,hlt,hlt2,hl];and_intros<;>first|omega|(simp<;>omega))|(simp[vb,e1,e2,f1,f2,hlt,hlt2,hl]<;>omega))|((with_reducible show aP _);first|exact True.intro|((try dsimp only[go_sem]);first|(simp[vb,e1,e2,f1,f2,hlt,hlt2,hl]<;>omega)|(simp only[vb,and_true,true_implies];(repeat' (first|(with_reducible assumption)|(with_reducible apply And.intro)|intro _|((fail_if_success (with_reducible show(_:Int)≤_));assumption)))<;>first|omega|rfl|(simp only[ab,e1,e2,f1,f2,hlt,hlt2,hl];done)|(simp[Nat.mul_one,e1,e2,f1,f2,hlt,hlt2,hl]<;>omega)|(simp_all;done))))|exact(rfl:some _=_)|((fail_if_success refine aZ ?_);refine cu [ξ 19 (.int .i64 x),ξ 23 (.int .i64 y)] ?_;(repeat1' dsimp only[te,aa,go_sem]);first|refine ba ?_ ?_ rfl ?_|apply bb|apply bf|(refine bg (fun hc=>?_) fun hc=>?_<;>first|(cases hc;done)|(exfalso;first|(simp at hc<;>omega)|(simp[e1,e2,f1,f2,hlt,hlt2,hl]at hc;done))|(try simp only[bn]at hc;try contradiction))|skip))
   ·rw[decide_eq_false (hne hc)]
   exact⟨hlt,by rw[h1,h2,hP,hc],by (repeat' (first|exact trivial|refine And.intro (by first|rfl|(simp[get,Nat.beq]<;>omega)|(dsimp only[get];congr 1<;>first|rfl|omega|(simp<;>omega))) ?_)),_,rfl⟩
  obtain rfl:k=a.length:=by omega
  rw[List.take_length,hl,List.take_length]at hP;repeat' (first|((with_reducible show aI _);first|exact True.intro|(simp only[vb,lb];omega)|(simp only[vb,lb,hlt,hl];and_intros<;>first|omega|(simp<;>omega))|(simp[vb,hlt,hl]<;>omega))|((with_reducible show aP _);first|exact True.intro|((try dsimp only[go_sem]);first|(simp[vb,hlt,hl]<;>omega)|(simp only[vb,and_true,true_implies];(repeat' (first|(with_reducible assumption)|(with_reducible apply And.intro)|intro _|((fail_if_success (with_reducible show(_:Int)≤_));assumption)))<;>first|omega|rfl|(simp only[ab,hlt,hl];done)|(simp[Nat.mul_one,hlt,hl]<;>omega)|(simp_all;done))))|exact(rfl:some _=_)|((fail_if_success refine aZ ?_);refine bJ ?_;(repeat1' dsimp only[te,aa,go_sem]);first|refine ba ?_ ?_ rfl ?_|apply bb|apply bf|(refine bg (fun hc=>?_) fun hc=>?_<;>first|(cases hc;done)|(exfalso;first|(simp at hc<;>omega)|(simp[hlt,hl]at hc;done))|(try simp only[bn]at hc;try contradiction))|skip))
  rw[decide_eq_true hP]
 refine aj (C:=ctx) (Fn.of Dc rfl) rfl ?_;unfold te;repeat' (first|((with_reducible first|show aI _|show aP _);simp[vb,hl]<;>omega)|exact(rfl:some _=_)|((fail_if_success refine aZ ?_);refine bJ ?_;(repeat1' dsimp only[te,aa,go_sem]);first|refine ba ?_ ?_ rfl ?_|apply bb|apply bf|(refine bg (fun hc=>?_) fun hc=>?_<;>first|(cases hc;done)|(exfalso;simp[hl]at hc<;>omega)|(try simp only[bn]at hc;try contradiction))|skip))
 rw[decide_eq_false fun h=>hl (by rw[h])]
end
section
open Tr
def wU:af:=(⟨_,by conv=>(lhs;reduce;try simp only[bD,Int.cast_ofNat_Int,Int.reduceNegSucc,UInt8.reduceOfNat])⟩:{x // codeOf Tryz.prog 305 (fun _=>false)=some x}).1
theorem Hv:aD Tryz.prog 305 (fun _=>false)=some (wU,[.t 6],32,true):=by kernel_rfl
def rW:List bx:=[
 ⟨(some 4),.mv (.c (.bool false)),none⟩]
def rX:List bx:=[
 ⟨(some 6),.mv (.t 0),none⟩,
 ⟨(some 7),.len (.t 6),none⟩,
 ⟨(some 8),.mv (.t 1),none⟩,
 ⟨(some 9),.len (.t 8),none⟩,
 ⟨(some 10),.bin .neq (.t 7) (.t 9),none⟩]
def rY:List bx:=[
 ⟨(some 4),.mv (.c (.bool false)),none⟩]
def rZ:List bx:=[
 ⟨(some 11),.mv (.t 0),none⟩,
 ⟨(some 12),.len (.t 11),none⟩,
 ⟨(some 13),.mv (.c (.int .i64 0)),none⟩]
def r7:List bx:=[
 ⟨(some 14),.bin .lss (.t 13) (.t 12),none⟩]
def r8:List bx:=[
 ⟨(some 15),.mv (.t 13),none⟩,
 ⟨(some 5),.mv (.t 15),none⟩]
def r9:List bx:=[
 ⟨(some 16),.mv (.t 0),none⟩,
 ⟨(some 17),.mv (.t 5),none⟩,
 ⟨(some 18),.indexSl (.t 16) (.t 17) 4,none⟩,
 ⟨(some 19),.load (.t 18) 4 true,none⟩,
 ⟨(some 20),.mv (.t 1),none⟩,
 ⟨(some 21),.mv (.t 5),none⟩,
 ⟨(some 22),.indexSl (.t 20) (.t 21) 4,none⟩,
 ⟨(some 23),.load (.t 22) 4 true,none⟩,
 ⟨(some 24),.eqA true [(0,0),(1,0),(2,0),(3,0)] (.t 19) (.t 23),none⟩]
def sa:List bx:=[
 ⟨(some 4),.mv (.c (.bool false)),none⟩]
def sb:List bx:=[
 ⟨(some 25),.bin .add (.t 13) (.c (.int .i64 1)),none⟩,
 ⟨(some 13),.mv (.t 25),none⟩]
def sc:List bx:=[
 ⟨(some 4),.mv (.c (.bool true)),none⟩]
def yw:af:=(.seq (.region false rW) (.seq (.seq (.region false rX) (.cond (.t 10) (.seq (.region false rY) .ret) .skip)) (.seq (.seq (.region false rZ) (.block 0 (.loop (.seq (.region false r7) (.seq (.cond (.t 14) .skip (.exit 0)) (.seq (.block 1 (.seq (.region false r8) (.seq (.region true r9) (.cond (.t 24) (.seq (.region false sa) .ret) .skip)))) (.region false sb))))))) (.seq (.region false sc) .ret))))
theorem Hw:aD Tryz.prog 302 (fun _=>false)=some (yw,[.t 4],26,true):=by kernel_rfl
def sd:List bx:=[
 ⟨(some 4),.mv (.c (.bool false)),none⟩]
def se:List bx:=[
 ⟨(some 6),.mv (.t 0),none⟩,
 ⟨(some 7),.len (.t 6),none⟩,
 ⟨(some 8),.mv (.t 1),none⟩,
 ⟨(some 9),.len (.t 8),none⟩,
 ⟨(some 10),.bin .neq (.t 7) (.t 9),none⟩]
def sf:List bx:=[
 ⟨(some 4),.mv (.c (.bool false)),none⟩]
def sh:List bx:=[
 ⟨(some 11),.mv (.t 0),none⟩,
 ⟨(some 12),.len (.t 11),none⟩,
 ⟨(some 13),.mv (.c (.int .i64 0)),none⟩]
def si:List bx:=[
 ⟨(some 14),.bin .lss (.t 13) (.t 12),none⟩]
def sj:List bx:=[
 ⟨(some 15),.mv (.t 13),none⟩,
 ⟨(some 5),.mv (.t 15),none⟩]
def sk:List bx:=[
 ⟨(some 16),.mv (.t 0),none⟩,
 ⟨(some 17),.mv (.t 5),none⟩,
 ⟨(some 18),.indexSl (.t 16) (.t 17) 2,none⟩,
 ⟨(some 19),.load (.t 18) 2 true,none⟩,
 ⟨(some 20),.mv (.t 1),none⟩,
 ⟨(some 21),.mv (.t 5),none⟩,
 ⟨(some 22),.indexSl (.t 20) (.t 21) 2,none⟩,
 ⟨(some 23),.load (.t 22) 2 true,none⟩,
 ⟨(some 24),.eqA true [(0,0),(1,0)] (.t 19) (.t 23),none⟩]
def sn:List bx:=[
 ⟨(some 4),.mv (.c (.bool false)),none⟩]
def so:List bx:=[
 ⟨(some 25),.bin .add (.t 13) (.c (.int .i64 1)),none⟩,
 ⟨(some 13),.mv (.t 25),none⟩]
def sq:List bx:=[
 ⟨(some 4),.mv (.c (.bool true)),none⟩]
def yx:af:=(.seq (.region false sd) (.seq (.seq (.region false se) (.cond (.t 10) (.seq (.region false sf) .ret) .skip)) (.seq (.seq (.region false sh) (.block 0 (.loop (.seq (.region false si) (.seq (.cond (.t 14) .skip (.exit 0)) (.seq (.block 1 (.seq (.region false sj) (.seq (.region true sk) (.cond (.t 24) (.seq (.region false sn) .ret) .skip)))) (.region false so))))))) (.seq (.region false sq) .ret))))
theorem Hx:aD Tryz.prog 304 (fun _=>false)=some (yx,[.t 4],26,true):=by kernel_rfl
def Df:List bx:=[
 ⟨(some 2),.box 67 (.t 0) 13,none⟩,
 ⟨(some 3),.box 67 (.t 1) 13,none⟩,
 ⟨(some 4),.mv (.c (.bool false)),none⟩]
def Dg:List bx:=[
 ⟨(some 5),.fieldAddr (.t 2) 3,none⟩,
 ⟨(some 6),.load (.t 5) 1 false,none⟩,
 ⟨(some 7),.fieldAddr (.t 3) 3,none⟩,
 ⟨(some 8),.load (.t 7) 1 false,none⟩,
 ⟨(some 9),.call 306 [(.t 6),(.t 8)],none⟩,
 ⟨(some 10),.mv (.t 9),none⟩,
 ⟨(some 11),.fieldAddr (.t 2) 0,some (10,true)⟩,
 ⟨(some 12),.load (.t 11) 1 false,some (10,true)⟩,
 ⟨(some 13),.fieldAddr (.t 3) 0,some (10,true)⟩,
 ⟨(some 14),.load (.t 13) 1 false,some (10,true)⟩,
 ⟨(some 15),.bin .eql (.t 12) (.t 14),some (10,true)⟩,
 ⟨(some 16),.pick (.t 10) (.t 15) (.c (.bool false)),none⟩,
 ⟨(some 17),.mv (.t 16),none⟩,
 ⟨(some 18),.fieldAddr (.t 2) 1,some (17,true)⟩,
 ⟨(some 19),.load (.t 18) 1 false,some (17,true)⟩,
 ⟨(some 20),.fieldAddr (.t 3) 1,some (17,true)⟩,
 ⟨(some 21),.load (.t 20) 1 false,some (17,true)⟩,
 ⟨(some 22),.bin .eql (.t 19) (.t 21),some (17,true)⟩,
 ⟨(some 23),.pick (.t 17) (.t 22) (.c (.bool false)),none⟩,
 ⟨(some 24),.mv (.t 23),none⟩,
 ⟨(some 25),.fieldAddr (.t 2) 2,some (24,true)⟩,
 ⟨(some 26),.load (.t 25) 1 false,some (24,true)⟩,
 ⟨(some 27),.fieldAddr (.t 3) 2,some (24,true)⟩,
 ⟨(some 28),.load (.t 27) 1 false,some (24,true)⟩,
 ⟨(some 29),.bin .eql (.t 26) (.t 28),some (24,true)⟩,
 ⟨(some 30),.pick (.t 24) (.t 29) (.c (.bool false)),none⟩,
 ⟨(some 31),.mv (.t 30),none⟩,
 ⟨(some 32),.fieldAddr (.t 2) 4,some (31,true)⟩,
 ⟨(some 33),.load (.t 32) 1 false,some (31,true)⟩,
 ⟨(some 34),.fieldAddr (.t 3) 4,some (31,true)⟩,
 ⟨(some 35),.load (.t 34) 1 false,some (31,true)⟩,
 ⟨(some 36),.bin .eql (.t 33) (.t 35),some (31,true)⟩,
 ⟨(some 37),.pick (.t 31) (.t 36) (.c (.bool false)),none⟩,
 ⟨(some 38),.mv (.t 37),none⟩,
 ⟨(some 39),.fieldAddr (.t 2) 5,some (38,true)⟩,
 ⟨(some 40),.load (.t 39) 1 false,some (38,true)⟩,
 ⟨(some 41),.fieldAddr (.t 3) 5,some (38,true)⟩,
 ⟨(some 42),.load (.t 41) 1 false,some (38,true)⟩,
 ⟨(some 43),.bin .eql (.t 40) (.t 42),some (38,true)⟩,
 ⟨(some 44),.pick (.t 38) (.t 43) (.c (.bool false)),none⟩,
 ⟨(some 45),.mv (.t 44),none⟩,
 ⟨(some 46),.fieldAddr (.t 2) 6,some (45,true)⟩,
 ⟨(some 47),.load (.t 46) 4 true,some (45,true)⟩,
 ⟨(some 48),.fieldAddr (.t 3) 6,some (45,true)⟩,
 ⟨(some 49),.load (.t 48) 4 true,some (45,true)⟩,
 ⟨(some 50),.eqA false [(0,0),(1,0),(2,0),(3,0)] (.t 47) (.t 49),some (45,true)⟩,
 ⟨(some 51),.pick (.t 45) (.t 50) (.c (.bool false)),none⟩,
 ⟨(some 52),.mv (.t 51),none⟩,
 ⟨(some 53),.fieldAddr (.t 2) 10,some (52,true)⟩,
 ⟨(some 54),.load (.t 53) 1 false,some (52,true)⟩,
 ⟨(some 55),.fieldAddr (.t 3) 10,some (52,true)⟩,
 ⟨(some 56),.load (.t 55) 1 false,some (52,true)⟩,
 ⟨(some 57),.bin .eql (.t 54) (.t 56),some (52,true)⟩,
 ⟨(some 58),.pick (.t 52) (.t 57) (.c (.bool false)),none⟩,
 ⟨(some 59),.mv (.t 58),none⟩,
 ⟨(some 60),.fieldAddr (.t 2) 11,some (59,true)⟩,
 ⟨(some 61),.load (.t 60) 1 false,some (59,true)⟩,
 ⟨(some 62),.fieldAddr (.t 3) 11,some (59,true)⟩,
 ⟨(some 63),.load (.t 62) 1 false,some (59,true)⟩,
 ⟨(some 64),.bin .eql (.t 61) (.t 63),some (59,true)⟩,
 ⟨(some 65),.pick (.t 59) (.t 64) (.c (.bool false)),none⟩,
 ⟨(some 66),.mv (.t 65),none⟩,
 ⟨(some 67),.fieldAddr (.t 2) 12,some (66,true)⟩,
 ⟨(some 68),.load (.t 67) 1 false,some (66,true)⟩,
 ⟨(some 69),.fieldAddr (.t 3) 12,some (66,true)⟩,
 ⟨(some 70),.load (.t 69) 1 false,some (66,true)⟩,
 ⟨(some 71),.bin .eql (.t 68) (.t 70),some (66,true)⟩,
 ⟨(some 72),.pick (.t 66) (.t 71) (.c (.bool false)),none⟩,
 ⟨(some 4),.mv (.t 72),none⟩]
def JT:af:=(.seq (.region false Df) (.seq (.region false Dg) .ret))
theorem MG:aD Tryz.prog 303 (fun _=>false)=some (JT,[.t 4],73,true):=by kernel_rfl
theorem Fz (h:Hi) (hs:h.state.length≤1000000000):ah ctx 105 [eA h] (.bool (pB h)):=by
 have hx:=tO h.state hs;have f1:=aU h.state;unfold pB;generalize h.state.all lD=q at *;unfold aa at hx;refine aj (C:=ctx) (Fn.of ME rfl) rfl ?_;unfold JR;repeat' (first|((with_reducible first|show aI _|show aP _);simp[vb,hx,f1]<;>omega)|exact(rfl:some _=_)|((fail_if_success refine aZ ?_);refine lA [(204,fun _=>some (.bool q))] ?_;(repeat1' dsimp only[JR,eA,gy,aa,bp,go_sem]);first|refine ba ?_ ?_ rfl ?_|apply bb|apply bf|(refine bg (fun hc=>?_) fun hc=>?_<;>first|(cases hc;done)|(exfalso;simp[hx,f1]at hc<;>omega)|(try simp only[bn]at hc;try contradiction))|skip))
 simp only[ca,show decide ((h.state.length:Int)≤128)=decide (h.state.length≤128) from decide_eq_decide.mpr (by omega)]
theorem Dh (a b:List Nd) (ha:a.length≤1000000000) (hb:b.length≤1000000000):ah ctx 302 [aG a,aG b] (.bool (decide (a=b))):=by
 have f1:=ox a;have f2:=ox b;by_cases hl:a.length=b.length
 ·refine aj (C:=ctx) (Fn.of Hw rfl) rfl ?_;unfold yw;repeat' (first|((with_reducible first|show aI _|show aP _);simp[vb,hl]<;>omega)|exact(rfl:some _=_)|((fail_if_success refine aZ ?_);refine bJ ?_;(repeat1' dsimp only[yw,rW,rX,rY,rZ,r7,r8,r9,sa,sb,sc,aG,go_sem]);first|refine ba ?_ ?_ rfl ?_|apply bb|apply bf|(refine bg (fun hc=>?_) fun hc=>?_<;>first|(cases hc;done)|(exfalso;simp[hl]at hc<;>omega)|(try simp only[bn]at hc;try contradiction))|skip))
  refine de a.length (fun k=>a.take k=b.take k) (fun k=>[(0,.pv (aG a)),(1,.pv (aG b)),(12,.pv (.int .i64 a.length)),(13,.pv (.int .i64 k))]) (fun _=>[]) (by simp) (by (repeat' (first|exact trivial|refine And.intro (by first|rfl|(simp[get,Nat.beq]<;>omega)|(dsimp only[get];congr 1<;>first|rfl|omega|(simp<;>omega))) ?_))) ⟨[],rfl⟩ (fun _=>⟨Nat.zero_le _,rfl,rfl⟩) fun k hk hP=>?_
  by_cases hlt:k<a.length
  ·have hlt2:k<b.length:=by omega
   have e1:=dV iv a k zn hlt;have e2:=dV iv b k zn hlt2;have h1:=bB a k zn hlt;have h2:=bB b k zn hlt2;have hne:a.getD k zn≠b.getD k zn→a≠b:=fun h e=>h (by rw[e])
   generalize a.getD k zn=x at *;generalize b.getD k zn=y at *;repeat' (first|((with_reducible show aI _);first|exact True.intro|(simp only[vb,lb];omega)|(simp only[vb,lb,e1,e2,f1,f2,hlt,hlt2,hl,cX];and_intros<;>first|omega|(simp<;>omega))|(simp[vb,e1,e2,f1,f2,hlt,hlt2,hl,cX]<;>omega))|((with_reducible show aP _);first|exact True.intro|((try dsimp only[go_sem]);first|(simp[vb,e1,e2,f1,f2,hlt,hlt2,hl,cX]<;>omega)|(simp only[vb,and_true,true_implies];(repeat' (first|(with_reducible assumption)|(with_reducible apply And.intro)|intro _|((fail_if_success (with_reducible show(_:Int)≤_));assumption)))<;>first|omega|rfl|(simp only[ab,e1,e2,f1,f2,hlt,hlt2,hl,cX];done)|(simp[Nat.mul_one,e1,e2,f1,f2,hlt,hlt2,hl,cX]<;>omega)|(simp_all;done))))|exact(rfl:some _=_)|((fail_if_success refine aZ ?_);refine cu [ξ 19 (.agg (cX x)),ξ 23 (.agg (cX y))] ?_;(repeat1' dsimp only[yw,rW,rX,rY,rZ,r7,r8,r9,sa,sb,sc,aG,go_sem]);first|refine ba ?_ ?_ rfl ?_|apply bb|apply bf|(refine bg (fun hc=>?_) fun hc=>?_<;>first|(cases hc;done)|(exfalso;first|(simp at hc<;>omega)|(simp[e1,e2,f1,f2,hlt,hlt2,hl,cX]at hc;done))|(try simp only[bn]at hc;try contradiction))|skip))
   ·rw[decide_eq_false (hne (fun e=>by subst e;simp at hc))]
   exact⟨hlt,by rw[h1,h2,hP,(show x=y by obtain⟨q1,q2,q3,q4,-⟩:=hc;cases x;cases y;simp_all)],by (repeat' (first|exact trivial|refine And.intro (by first|rfl|(simp[get,Nat.beq]<;>omega)|(dsimp only[get];congr 1<;>first|rfl|omega|(simp<;>omega))) ?_)),_,rfl⟩
  obtain rfl:k=a.length:=by omega
  rw[List.take_length,hl,List.take_length]at hP;repeat' (first|((with_reducible show aI _);first|exact True.intro|(simp only[vb,lb];omega)|(simp only[vb,lb,hlt,hl];and_intros<;>first|omega|(simp<;>omega))|(simp[vb,hlt,hl]<;>omega))|((with_reducible show aP _);first|exact True.intro|((try dsimp only[go_sem]);first|(simp[vb,hlt,hl]<;>omega)|(simp only[vb,and_true,true_implies];(repeat' (first|(with_reducible assumption)|(with_reducible apply And.intro)|intro _|((fail_if_success (with_reducible show(_:Int)≤_));assumption)))<;>first|omega|rfl|(simp only[ab,hlt,hl];done)|(simp[Nat.mul_one,hlt,hl]<;>omega)|(simp_all;done))))|exact(rfl:some _=_)|((fail_if_success refine aZ ?_);refine bJ ?_;(repeat1' dsimp only[yw,rW,rX,rY,rZ,r7,r8,r9,sa,sb,sc,aG,go_sem]);first|refine ba ?_ ?_ rfl ?_|apply bb|apply bf|(refine bg (fun hc=>?_) fun hc=>?_<;>first|(cases hc;done)|(exfalso;first|(simp at hc<;>omega)|(simp[hlt,hl]at hc;done))|(try simp only[bn]at hc;try contradiction))|skip))
  rw[decide_eq_true hP]
 refine aj (C:=ctx) (Fn.of Hw rfl) rfl ?_;unfold yw;repeat' (first|((with_reducible first|show aI _|show aP _);simp[vb,hl]<;>omega)|exact(rfl:some _=_)|((fail_if_success refine aZ ?_);refine bJ ?_;(repeat1' dsimp only[yw,rW,rX,rY,rZ,r7,r8,r9,sa,sb,sc,aG,go_sem]);first|refine ba ?_ ?_ rfl ?_|apply bb|apply bf|(refine bg (fun hc=>?_) fun hc=>?_<;>first|(cases hc;done)|(exfalso;simp[hl]at hc<;>omega)|(try simp only[bn]at hc;try contradiction))|skip))
 rw[decide_eq_false fun h=>hl (by rw[h])]
theorem Di (a b:List Qu) (ha:a.length≤1000000000) (hb:b.length≤1000000000):ah ctx 304 [aC a,aC b] (.bool (decide (a=b))):=by
 have f1:=oz a;have f2:=oz b;by_cases hl:a.length=b.length
 ·refine aj (C:=ctx) (Fn.of Hx rfl) rfl ?_;unfold yx;repeat' (first|((with_reducible first|show aI _|show aP _);simp[vb,hl]<;>omega)|exact(rfl:some _=_)|((fail_if_success refine aZ ?_);refine bJ ?_;(repeat1' dsimp only[yx,sd,se,sf,sh,si,sj,sk,sn,so,sq,aC,go_sem]);first|refine ba ?_ ?_ rfl ?_|apply bb|apply bf|(refine bg (fun hc=>?_) fun hc=>?_<;>first|(cases hc;done)|(exfalso;simp[hl]at hc<;>omega)|(try simp only[bn]at hc;try contradiction))|skip))
  refine de a.length (fun k=>a.take k=b.take k) (fun k=>[(0,.pv (aC a)),(1,.pv (aC b)),(12,.pv (.int .i64 a.length)),(13,.pv (.int .i64 k))]) (fun _=>[]) (by simp) (by (repeat' (first|exact trivial|refine And.intro (by first|rfl|(simp[get,Nat.beq]<;>omega)|(dsimp only[get];congr 1<;>first|rfl|omega|(simp<;>omega))) ?_))) ⟨[],rfl⟩ (fun _=>⟨Nat.zero_le _,rfl,rfl⟩) fun k hk hP=>?_
  by_cases hlt:k<a.length
  ·have hlt2:k<b.length:=by omega
   have e1:=dV gG a k zq hlt;have e2:=dV gG b k zq hlt2;have h1:=bB a k zq hlt;have h2:=bB b k zq hlt2;have hne:a.getD k zq≠b.getD k zq→a≠b:=fun h e=>h (by rw[e])
   generalize a.getD k zq=x at *;generalize b.getD k zq=y at *;repeat' (first|((with_reducible show aI _);first|exact True.intro|(simp only[vb,lb];omega)|(simp only[vb,lb,e1,e2,f1,f2,hlt,hlt2,hl,ei];and_intros<;>first|omega|(simp<;>omega))|(simp[vb,e1,e2,f1,f2,hlt,hlt2,hl,ei]<;>omega))|((with_reducible show aP _);first|exact True.intro|((try dsimp only[go_sem]);first|(simp[vb,e1,e2,f1,f2,hlt,hlt2,hl,ei]<;>omega)|(simp only[vb,and_true,true_implies];(repeat' (first|(with_reducible assumption)|(with_reducible apply And.intro)|intro _|((fail_if_success (with_reducible show(_:Int)≤_));assumption)))<;>first|omega|rfl|(simp only[ab,e1,e2,f1,f2,hlt,hlt2,hl,ei];done)|(simp[Nat.mul_one,e1,e2,f1,f2,hlt,hlt2,hl,ei]<;>omega)|(simp_all;done))))|exact(rfl:some _=_)|((fail_if_success refine aZ ?_);refine cu [ξ 19 (.agg (ei x)),ξ 23 (.agg (ei y))] ?_;(repeat1' dsimp only[yx,sd,se,sf,sh,si,sj,sk,sn,so,sq,aC,go_sem]);first|refine ba ?_ ?_ rfl ?_|apply bb|apply bf|(refine bg (fun hc=>?_) fun hc=>?_<;>first|(cases hc;done)|(exfalso;first|(simp at hc<;>omega)|(simp[e1,e2,f1,f2,hlt,hlt2,hl,ei]at hc;done))|(try simp only[bn]at hc;try contradiction))|skip))
   ·rw[decide_eq_false (hne (fun e=>by subst e;simp at hc))]
   exact⟨hlt,by rw[h1,h2,hP,(show x=y by obtain⟨q1,q2,-⟩:=hc;cases x;cases y;simp_all)],by (repeat' (first|exact trivial|refine And.intro (by first|rfl|(simp[get,Nat.beq]<;>omega)|(dsimp only[get];congr 1<;>first|rfl|omega|(simp<;>omega))) ?_)),_,rfl⟩
  obtain rfl:k=a.length:=by omega
  rw[List.take_length,hl,List.take_length]at hP;repeat' (first|((with_reducible show aI _);first|exact True.intro|(simp only[vb,lb];omega)|(simp only[vb,lb,hlt,hl];and_intros<;>first|omega|(simp<;>omega))|(simp[vb,hlt,hl]<;>omega))|((with_reducible show aP _);first|exact True.intro|((try dsimp only[go_sem]);first|(simp[vb,hlt,hl]<;>omega)|(simp only[vb,and_true,true_implies];(repeat' (first|(with_reducible assumption)|(with_reducible apply And.intro)|intro _|((fail_if_success (with_reducible show(_:Int)≤_));assumption)))<;>first|omega|rfl|(simp only[ab,hlt,hl];done)|(simp[Nat.mul_one,hlt,hl]<;>omega)|(simp_all;done))))|exact(rfl:some _=_)|((fail_if_success refine aZ ?_);refine bJ ?_;(repeat1' dsimp only[yx,sd,se,sf,sh,si,sj,sk,sn,so,sq,aC,go_sem]);first|refine ba ?_ ?_ rfl ?_|apply bb|apply bf|(refine bg (fun hc=>?_) fun hc=>?_<;>first|(cases hc;done)|(exfalso;first|(simp at hc<;>omega)|(simp[hlt,hl]at hc;done))|(try simp only[bn]at hc;try contradiction))|skip))
  rw[decide_eq_true hP]
 refine aj (C:=ctx) (Fn.of Hx rfl) rfl ?_;unfold yx;repeat' (first|((with_reducible first|show aI _|show aP _);simp[vb,hl]<;>omega)|exact(rfl:some _=_)|((fail_if_success refine aZ ?_);refine bJ ?_;(repeat1' dsimp only[yx,sd,se,sf,sh,si,sj,sk,sn,so,sq,aC,go_sem]);first|refine ba ?_ ?_ rfl ?_|apply bb|apply bf|(refine bg (fun hc=>?_) fun hc=>?_<;>first|(cases hc;done)|(exfalso;simp[hl]at hc<;>omega)|(try simp only[bn]at hc;try contradiction))|skip))
 rw[decide_eq_false fun h=>hl (by rw[h])]
theorem Bg (a b:List (List Int)) (ha:a.length≤1000000000) (hb:b.length≤1000000000) (wa:∀x∈a,x.length≤1000000000) (wb:∀x∈b,x.length≤1000000000):ah ctx 305 [ai a,ai b,.val (.func (.func 306) #[] #[])] (.bool (decide (a=b))):=by
 have f1:=rP a;have f2:=rP b;by_cases hl:a.length=b.length
 ·refine aj (C:=ctx) (Fn.of Hv rfl) rfl ?_;unfold wU;repeat' (first|((with_reducible first|show aI _|show aP _);simp[vb,hl]<;>omega)|exact(rfl:some _=_)|((fail_if_success refine aZ ?_);refine bJ ?_;(repeat1' dsimp only[wU,ai,go_sem]);first|refine ba ?_ ?_ rfl ?_|apply bb|apply bf|(refine bg (fun hc=>?_) fun hc=>?_<;>first|(cases hc;done)|(exfalso;simp[hl]at hc<;>omega)|(try simp only[bn]at hc;try contradiction))|skip))
  refine de a.length (fun k=>a.take k=b.take k) (fun k=>[(1,.pv (ai b)),(2,.pv (.val (.func (.func 306) #[] #[]))),(15,.pv (ai a)),(16,.pv (.int .i64 a.length)),(17,.pv (.int .i64 k))]) (fun _=>[]) (by simp) (by (repeat' (first|exact trivial|refine And.intro (by first|rfl|(simp[get,Nat.beq]<;>omega)|(dsimp only[get];congr 1<;>first|rfl|omega|(simp<;>omega))) ?_))) ⟨[],rfl⟩ (fun _=>⟨Nat.zero_le _,rfl,rfl⟩) fun k hk hP=>?_
  by_cases hlt:k<a.length
  ·have hlt2:k<b.length:=by omega
   have e1:=qd a k hlt;have e2:=qd b k hlt2;have h1:=bB a k [] hlt;have h2:=bB b k [] hlt2;have hne:a.getD k []≠b.getD k []→a≠b:=fun h e=>h (by rw[e])
   have hx:=rV (a.getD k []) (b.getD k []) (wa _ (bX hlt)) (wb _ (bX hlt2));generalize a.getD k []=x at *;generalize b.getD k []=y at *;unfold aa at hx;by_cases hxy:x=y
   ·rw[decide_eq_true hxy]at hx;repeat' (first|((with_reducible show aI _);first|exact True.intro|(simp only[vb,lb];omega)|(simp only[vb,lb,e1,e2,f1,f2,hlt,hlt2,hl,hx,aa];and_intros<;>first|omega|(simp<;>omega))|(simp[vb,e1,e2,f1,f2,hlt,hlt2,hl,hx,aa]<;>omega))|((with_reducible show aP _);first|exact True.intro|((try dsimp only[go_sem]);first|(simp[vb,e1,e2,f1,f2,hlt,hlt2,hl,hx,aa]<;>omega)|(simp only[vb,and_true,true_implies];(repeat' (first|(with_reducible assumption)|(with_reducible apply And.intro)|intro _|((fail_if_success (with_reducible show(_:Int)≤_));assumption)))<;>first|omega|rfl|(simp only[ab,e1,e2,f1,f2,hlt,hlt2,hl,hx,aa];done)|(simp[Nat.mul_one,e1,e2,f1,f2,hlt,hlt2,hl,hx,aa]<;>omega)|(simp_all;done))))|exact(rfl:some _=_)|((fail_if_success refine aZ ?_);refine cu [ξ 21 (aa x),ξ 25 (aa y),ξ 29 (.bool true)] ?_;(repeat1' dsimp only[wU,ai,aa,go_sem]);first|refine ba ?_ ?_ rfl ?_|apply bb|apply bf|(refine bg (fun hc=>?_) fun hc=>?_<;>first|(cases hc;done)|(exfalso;first|(simp at hc<;>omega)|(simp[e1,e2,f1,f2,hlt,hlt2,hl,hx,aa]at hc;done))|(try simp only[bn]at hc;try contradiction))|skip))
    exact⟨hlt,by rw[h1,h2,hP,hxy],by (repeat' (first|exact trivial|refine And.intro (by first|rfl|(simp[get,Nat.beq]<;>omega)|(dsimp only[get];congr 1<;>first|rfl|omega|(simp<;>omega))) ?_)),_,rfl⟩
   rw[decide_eq_false hxy]at hx;rw[decide_eq_false (hne hxy)];repeat' (first|((with_reducible show aI _);first|exact True.intro|(simp only[vb,lb];omega)|(simp only[vb,lb,e1,e2,f1,f2,hlt,hlt2,hl,hx,aa];and_intros<;>first|omega|(simp<;>omega))|(simp[vb,e1,e2,f1,f2,hlt,hlt2,hl,hx,aa]<;>omega))|((with_reducible show aP _);first|exact True.intro|((try dsimp only[go_sem]);first|(simp[vb,e1,e2,f1,f2,hlt,hlt2,hl,hx,aa]<;>omega)|(simp only[vb,and_true,true_implies];(repeat' (first|(with_reducible assumption)|(with_reducible apply And.intro)|intro _|((fail_if_success (with_reducible show(_:Int)≤_));assumption)))<;>first|omega|rfl|(simp only[ab,e1,e2,f1,f2,hlt,hlt2,hl,hx,aa];done)|(simp[Nat.mul_one,e1,e2,f1,f2,hlt,hlt2,hl,hx,aa]<;>omega)|(simp_all;done))))|exact(rfl:some _=_)|((fail_if_success refine aZ ?_);refine cu [ξ 21 (aa x),ξ 25 (aa y),ξ 29 (.bool false)] ?_;(repeat1' dsimp only[wU,ai,aa,go_sem]);first|refine ba ?_ ?_ rfl ?_|apply bb|apply bf|(refine bg (fun hc=>?_) fun hc=>?_<;>first|(cases hc;done)|(exfalso;first|(simp at hc<;>omega)|(simp[e1,e2,f1,f2,hlt,hlt2,hl,hx,aa]at hc;done))|(try simp only[bn]at hc;try contradiction))|skip))
  obtain rfl:k=a.length:=by omega
  rw[List.take_length,hl,List.take_length]at hP;repeat' (first|((with_reducible show aI _);first|exact True.intro|(simp only[vb,lb];omega)|(simp only[vb,lb,hlt,hl];and_intros<;>first|omega|(simp<;>omega))|(simp[vb,hlt,hl]<;>omega))|((with_reducible show aP _);first|exact True.intro|((try dsimp only[go_sem]);first|(simp[vb,hlt,hl]<;>omega)|(simp only[vb,and_true,true_implies];(repeat' (first|(with_reducible assumption)|(with_reducible apply And.intro)|intro _|((fail_if_success (with_reducible show(_:Int)≤_));assumption)))<;>first|omega|rfl|(simp only[ab,hlt,hl];done)|(simp[Nat.mul_one,hlt,hl]<;>omega)|(simp_all;done))))|exact(rfl:some _=_)|((fail_if_success refine aZ ?_);refine bJ ?_;(repeat1' dsimp only[wU,ai,go_sem]);first|refine ba ?_ ?_ rfl ?_|apply bb|apply bf|(refine bg (fun hc=>?_) fun hc=>?_<;>first|(cases hc;done)|(exfalso;first|(simp at hc<;>omega)|(simp[hlt,hl]at hc;done))|(try simp only[bn]at hc;try contradiction))|skip))
  rw[decide_eq_true hP]
 refine aj (C:=ctx) (Fn.of Hv rfl) rfl ?_;unfold wU;repeat' (first|((with_reducible first|show aI _|show aP _);simp[vb,hl]<;>omega)|exact(rfl:some _=_)|((fail_if_success refine aZ ?_);refine bJ ?_;(repeat1' dsimp only[wU,ai,go_sem]);first|refine ba ?_ ?_ rfl ?_|apply bb|apply bf|(refine bg (fun hc=>?_) fun hc=>?_<;>first|(cases hc;done)|(exfalso;simp[hl]at hc<;>omega)|(try simp only[bn]at hc;try contradiction))|skip))
 rw[decide_eq_false fun h=>hl (by rw[h])]
theorem Bh (a b:Ev) (ha:a.past.length≤1000000000) (hb:b.past.length≤1000000000):ah ctx 303 [.agg (ar a),.agg (ar b)] (.bool (decide (a=b))):=by
 have hx:=rV a.past b.past ha hb;unfold aa at hx;obtain⟨a1,a2,a3,al,a5,a6,⟨g1,g2,g3,g4⟩,a7,a8,a9⟩:=a;obtain⟨b1,b2,b3,bl,b5,b6,⟨i1,i2,i3,i4⟩,b7,b8,b9⟩:=b;simp only at hx;obtain⟨q,hq⟩:∃q,q=decide (al=bl):=⟨_,rfl⟩
 rw[←hq]at hx;refine aj (C:=ctx) (Fn.of MG rfl) rfl ?_;unfold JT;repeat' (first|((with_reducible first|show aI _|show aP _);simp[vb,hx]<;>omega)|exact(rfl:some _=_)|((fail_if_success refine aZ ?_);refine lA [(306,fun _=>some (.bool q))] ?_;(repeat1' dsimp only[JT,Df,Dg,ar,aa,go_sem]);first|refine ba ?_ ?_ rfl ?_|apply bb|apply bf|(refine bg (fun hc=>?_) fun hc=>?_<;>first|(cases hc;done)|(exfalso;simp[hx]at hc<;>omega)|(try simp only[bn]at hc;try contradiction))|skip))
 refine congrArg (fun b=>some (PV.bool b)) ?_;rw[Bool.eq_iff_iff];simp only[ca,hq,Bool.and_true,Bool.and_eq_true,decide_eq_true_eq,beq_iff_eq,Ev.mk.injEq,Nd.mk.injEq];constructor
 ·rintro⟨⟨⟨⟨⟨⟨⟨⟨⟨h1,h2⟩,h3⟩,h4⟩,h5⟩,h6⟩,h7⟩,h8⟩,h9⟩,h10⟩;exact⟨h2,h3,h4,h1,h5,h6,h7,h8,h9,h10⟩
 rintro⟨h2,h3,h4,h1,h5,h6,h7,h8,h9,h10⟩;exact⟨⟨⟨⟨⟨⟨⟨⟨⟨h1,h2⟩,h3⟩,h4⟩,h5⟩,h6⟩,h7⟩,h8⟩,h9⟩,h10⟩
end
section
open Tr
def uW:List bx:=[
 ⟨(some 2),.box 71 (.t 0) 28,none⟩,
 ⟨(some 3),.box 71 (.t 1) 28,none⟩,
 ⟨(some 4),.mv (.c (.bool false)),none⟩]
def yy:List bx:=[
 ⟨(some 8),.fieldAddr (.t 2) 6,none⟩,
 ⟨(some 9),.load (.t 8) 6 true,none⟩,
 ⟨(some 10),.fieldAddr (.t 3) 6,none⟩,
 ⟨(some 11),.load (.t 10) 6 true,none⟩,
 ⟨(some 5),.alloc 61 [(.int .i64 0),(.int .i64 0),(.int .i64 0),(.int .i64 0),(.int .i64 0),.nilsl],none⟩,
 ⟨(some 6),.alloc 61 [(.int .i64 0),(.int .i64 0),(.int .i64 0),(.int .i64 0),(.int .i64 0),.nilsl],none⟩,
 ⟨none,.store (.t 5) (.t 9) 6,none⟩,
 ⟨none,.store (.t 6) (.t 11) 6,none⟩]
def yz:List bx:=[
 ⟨(some 12),.fieldAddr (.t 5) 0,none⟩,
 ⟨(some 13),.load (.t 12) 1 false,none⟩,
 ⟨(some 14),.fieldAddr (.t 6) 0,none⟩,
 ⟨(some 15),.load (.t 14) 1 false,none⟩,
 ⟨(some 16),.bin .eql (.t 13) (.t 15),none⟩,
 ⟨(some 17),.mv (.t 16),none⟩,
 ⟨(some 18),.fieldAddr (.t 5) 1,some (17,true)⟩,
 ⟨(some 19),.load (.t 18) 1 false,some (17,true)⟩,
 ⟨(some 20),.fieldAddr (.t 6) 1,some (17,true)⟩,
 ⟨(some 21),.load (.t 20) 1 false,some (17,true)⟩,
 ⟨(some 22),.bin .eql (.t 19) (.t 21),some (17,true)⟩,
 ⟨(some 23),.pick (.t 17) (.t 22) (.c (.bool false)),none⟩,
 ⟨(some 24),.mv (.t 23),none⟩,
 ⟨(some 25),.fieldAddr (.t 5) 2,some (24,true)⟩,
 ⟨(some 26),.load (.t 25) 1 false,some (24,true)⟩,
 ⟨(some 27),.fieldAddr (.t 6) 2,some (24,true)⟩,
 ⟨(some 28),.load (.t 27) 1 false,some (24,true)⟩,
 ⟨(some 29),.bin .eql (.t 26) (.t 28),some (24,true)⟩,
 ⟨(some 30),.pick (.t 24) (.t 29) (.c (.bool false)),none⟩,
 ⟨(some 31),.mv (.t 30),none⟩,
 ⟨(some 32),.fieldAddr (.t 5) 3,some (31,true)⟩,
 ⟨(some 33),.load (.t 32) 2 true,some (31,true)⟩,
 ⟨(some 34),.fieldAddr (.t 6) 3,some (31,true)⟩,
 ⟨(some 35),.load (.t 34) 2 true,some (31,true)⟩,
 ⟨(some 36),.eqA false [(0,0),(1,0)] (.t 33) (.t 35),some (31,true)⟩,
 ⟨(some 37),.pick (.t 31) (.t 36) (.c (.bool false)),none⟩,
 ⟨(some 38),.mv (.t 37),none⟩,
 ⟨(some 39),.fieldAddr (.t 5) 5,some (38,true)⟩,
 ⟨(some 40),.load (.t 39) 1 false,some (38,true)⟩,
 ⟨(some 41),.fieldAddr (.t 6) 5,some (38,true)⟩,
 ⟨(some 42),.load (.t 41) 1 false,some (38,true)⟩,
 ⟨(some 43),.call 302 [(.t 40),(.t 42)],some (38,true)⟩,
 ⟨(some 44),.pick (.t 38) (.t 43) (.c (.bool false)),none⟩,
 ⟨(some 7),.mv (.t 44),none⟩]
def yA:List bx:=[
 ⟨(some 45),.mv (.t 7),none⟩,
 ⟨(some 46),.mv (.t 45),none⟩,
 ⟨(some 47),.fieldAddr (.t 2) 0,some (46,true)⟩,
 ⟨(some 48),.load (.t 47) 1 false,some (46,true)⟩,
 ⟨(some 49),.fieldAddr (.t 3) 0,some (46,true)⟩,
 ⟨(some 50),.load (.t 49) 1 false,some (46,true)⟩,
 ⟨(some 51),.bin .eql (.t 48) (.t 50),some (46,true)⟩,
 ⟨(some 52),.pick (.t 46) (.t 51) (.c (.bool false)),none⟩,
 ⟨(some 53),.mv (.t 52),none⟩,
 ⟨(some 54),.fieldAddr (.t 2) 1,some (53,true)⟩,
 ⟨(some 55),.load (.t 54) 1 false,some (53,true)⟩,
 ⟨(some 56),.fieldAddr (.t 3) 1,some (53,true)⟩,
 ⟨(some 57),.load (.t 56) 1 false,some (53,true)⟩,
 ⟨(some 58),.bin .eql (.t 55) (.t 57),some (53,true)⟩,
 ⟨(some 59),.pick (.t 53) (.t 58) (.c (.bool false)),none⟩,
 ⟨(some 60),.mv (.t 59),none⟩,
 ⟨(some 61),.fieldAddr (.t 2) 2,some (60,true)⟩,
 ⟨(some 62),.load (.t 61) 1 false,some (60,true)⟩,
 ⟨(some 63),.fieldAddr (.t 3) 2,some (60,true)⟩,
 ⟨(some 64),.load (.t 63) 1 false,some (60,true)⟩,
 ⟨(some 65),.bin .eql (.t 62) (.t 64),some (60,true)⟩,
 ⟨(some 66),.pick (.t 60) (.t 65) (.c (.bool false)),none⟩,
 ⟨(some 67),.mv (.t 66),none⟩,
 ⟨(some 68),.fieldAddr (.t 2) 3,some (67,true)⟩,
 ⟨(some 69),.load (.t 68) 1 false,some (67,true)⟩,
 ⟨(some 70),.fieldAddr (.t 3) 3,some (67,true)⟩,
 ⟨(some 71),.load (.t 70) 1 false,some (67,true)⟩,
 ⟨(some 72),.bin .eql (.t 69) (.t 71),some (67,true)⟩,
 ⟨(some 73),.pick (.t 67) (.t 72) (.c (.bool false)),none⟩,
 ⟨(some 74),.mv (.t 73),none⟩,
 ⟨(some 75),.fieldAddr (.t 2) 4,some (74,true)⟩,
 ⟨(some 76),.load (.t 75) 1 false,some (74,true)⟩,
 ⟨(some 77),.fieldAddr (.t 3) 4,some (74,true)⟩,
 ⟨(some 78),.load (.t 77) 1 false,some (74,true)⟩,
 ⟨(some 79),.bin .eql (.t 76) (.t 78),some (74,true)⟩,
 ⟨(some 80),.pick (.t 74) (.t 79) (.c (.bool false)),none⟩,
 ⟨(some 81),.mv (.t 80),none⟩,
 ⟨(some 82),.fieldAddr (.t 2) 5,some (81,true)⟩,
 ⟨(some 83),.load (.t 82) 1 false,some (81,true)⟩,
 ⟨(some 84),.fieldAddr (.t 3) 5,some (81,true)⟩,
 ⟨(some 85),.load (.t 84) 1 false,some (81,true)⟩,
 ⟨(some 86),.bin .eql (.t 83) (.t 85),some (81,true)⟩,
 ⟨(some 87),.pick (.t 81) (.t 86) (.c (.bool false)),none⟩,
 ⟨(some 88),.mv (.t 87),none⟩,
 ⟨(some 89),.fieldAddr (.t 2) 12,some (88,true)⟩,
 ⟨(some 90),.load (.t 89) 13 true,some (88,true)⟩,
 ⟨(some 91),.fieldAddr (.t 3) 12,some (88,true)⟩,
 ⟨(some 92),.load (.t 91) 13 true,some (88,true)⟩,
 ⟨(some 93),.call 303 [(.t 90),(.t 92)],some (88,true)⟩,
 ⟨(some 94),.pick (.t 88) (.t 93) (.c (.bool false)),none⟩,
 ⟨(some 95),.mv (.t 94),none⟩,
 ⟨(some 96),.fieldAddr (.t 2) 25,some (95,true)⟩,
 ⟨(some 97),.load (.t 96) 1 false,some (95,true)⟩,
 ⟨(some 98),.fieldAddr (.t 3) 25,some (95,true)⟩,
 ⟨(some 99),.load (.t 98) 1 false,some (95,true)⟩,
 ⟨(some 100),.call 304 [(.t 97),(.t 99)],some (95,true)⟩,
 ⟨(some 101),.pick (.t 95) (.t 100) (.c (.bool false)),none⟩,
 ⟨(some 102),.mv (.t 101),none⟩,
 ⟨(some 103),.fieldAddr (.t 2) 26,some (102,true)⟩,
 ⟨(some 104),.load (.t 103) 1 false,some (102,true)⟩,
 ⟨(some 105),.fieldAddr (.t 3) 26,some (102,true)⟩,
 ⟨(some 106),.load (.t 105) 1 false,some (102,true)⟩,
 ⟨(some 107),.call 305 [(.t 104),(.t 106),(.c (.val (.func (.func 306) #[] #[])))],some (102,true)⟩,
 ⟨(some 108),.pick (.t 102) (.t 107) (.c (.bool false)),none⟩,
 ⟨(some 109),.mv (.t 108),none⟩,
 ⟨(some 110),.fieldAddr (.t 2) 27,some (109,true)⟩,
 ⟨(some 111),.load (.t 110) 1 false,some (109,true)⟩,
 ⟨(some 112),.fieldAddr (.t 3) 27,some (109,true)⟩,
 ⟨(some 113),.load (.t 112) 1 false,some (109,true)⟩,
 ⟨(some 114),.call 306 [(.t 111),(.t 113)],some (109,true)⟩,
 ⟨(some 115),.pick (.t 109) (.t 114) (.c (.bool false)),none⟩,
 ⟨(some 4),.mv (.t 115),none⟩]
def FA:af:=(.seq (.region false uW) (.seq (.regionF yy [(1,4),(3,4),(1,5),(3,5),(4,5),(3,6)]) (.seq (.region false yz) (.seq (.region false yA) .ret))))
theorem MH:aD Tryz.prog 206 (fun _=>false)=some (FA,[.t 4],116,true):=by kernel_rfl
structure wV (x:En):Prop where
 past:x.ev.past.length≤1000000000
 needs:x.out.needs.length≤1000000000
 qs:x.qs.length≤1000000000
 vals:x.vals.length≤1000000000
 val:∀v∈x.vals,v.length≤1000000000
 clk:x.clk.length≤1000000000
theorem FB (a b:En) (ha:wV a) (hb:wV b):ah ctx 206 [bU a,bU b] (.bool (decide (a=b))):=by
 have x1:=Dh a.out.needs b.out.needs ha.needs hb.needs;have x2:=Bh a.ev b.ev ha.past hb.past;have x3:=Di a.qs b.qs ha.qs hb.qs;have x4:=Bg a.vals b.vals ha.vals hb.vals ha.val hb.val;have x5:=rV a.clk b.clk ha.clk hb.clk
 have ee:decide (a=b)=(decide (a.out.ser=b.out.ser)&&decide (a.out.kind=b.out.kind)&&decide (a.out.num=b.out.num)&&(decide (a.out.rk=b.out.rk)&&decide (a.out.ri=b.out.ri))&&decide (a.out.needs=b.out.needs)&&decide (a.tick=b.tick)&&decide (a.kind=b.kind)&&decide (a.rep=b.rep)&&decide (a.ses=b.ses)&&decide (a.act=b.act)&&decide (a.ser=b.ser)&&decide (a.ev=b.ev)&&decide (a.qs=b.qs)&&decide (a.vals=b.vals)&&decide (a.clk=b.clk)):=by
  obtain⟨a1,a2,a3,a4,a5,a6,⟨o1,o2,o3,o4,o5,o6⟩,a8,a9,a10,a11⟩:=a;obtain⟨b1,b2,b3,b4,b5,b6,⟨p1,p2,p3,p4,p5,p6⟩,b8,b9,b10,b11⟩:=b;rw[Bool.eq_iff_iff];simp only[Bool.and_eq_true,decide_eq_true_eq,En.mk.injEq,Oc.mk.injEq];constructor
  ·rintro⟨h1,h2,h3,h4,h5,h6,⟨h7,h8,h9,h10,h11,h12⟩,h13,h14,h15,h16⟩;exact⟨⟨⟨⟨⟨⟨⟨⟨⟨⟨⟨⟨⟨⟨h7,h8⟩,h9⟩,h10,h11⟩,h12⟩,h1⟩,h2⟩,h3⟩,h4⟩,h5⟩,h6⟩,h13⟩,h14⟩,h15⟩,h16⟩
  rintro⟨⟨⟨⟨⟨⟨⟨⟨⟨⟨⟨⟨⟨⟨h7,h8⟩,h9⟩,h10,h11⟩,h12⟩,h1⟩,h2⟩,h3⟩,h4⟩,h5⟩,h6⟩,h13⟩,h14⟩,h15⟩,h16⟩;exact⟨h1,h2,h3,h4,h5,h6,⟨h7,h8,h9,h10,h11,h12⟩,h13,h14,h15,h16⟩
 rw[ee];clear ee;obtain⟨a1,a2,a3,a4,a5,a6,⟨o1,o2,o3,o4,o5,o6⟩,⟨c1,c2,c3,cl,c5,c6,⟨g1,g2,g3,g4⟩,c7,c8,c9⟩,a9,a10,a11⟩:=a;obtain⟨b1,b2,b3,b4,b5,b6,⟨p1,p2,p3,p4,p5,p6⟩,⟨d1,d2,d3,dl,d5,d6,⟨i1,i2,i3,i4⟩,d7,d8,d9⟩,b9,b10,b11⟩:=b;unfold ar at x2;simp only at x1 x2 x3 x4 x5 ⊢;generalize decide (o6=p6)=q1 at *;generalize decide ((⟨c1,c2,c3,cl,c5,c6,⟨g1,g2,g3,g4⟩,c7,c8,c9⟩:Ev)=⟨d1,d2,d3,dl,d5,d6,⟨i1,i2,i3,i4⟩,d7,d8,d9⟩)=q2 at *;generalize decide (a9=b9)=q3 at *;generalize decide (a10=b10)=q4 at *;generalize decide (a11=b11)=q5 at *;clear ha hb;unfold aG at x1;unfold aC at x3;unfold ai at x4
 unfold aa at x2 x5;refine aj (C:=ctx) (Fn.of MH rfl) rfl ?_;unfold FA;refine bJ ?_;dsimp only[uW,bU,aJ,br,ar,aG,aC,ai,aa,go_sem];try dsimp only[bU,aJ,br,ar,aG,aC,ai,aa,go_sem]
 refine⟨(by simp[vb]<;>omega),(by simp[vb]<;>omega),?_⟩;refine HW 4 [] [] rfl ?_ ?_
 ·dsimp only[aJ,br,ar,aG,aC,ai,aa,rn,sg,go_sem];refine⟨(by first|exact True.intro|(simp only[vb,lb];omega)|(simp[vb]<;>omega)),(by first|exact True.intro|((try dsimp only[go_sem]);first|(simp[vb]<;>omega)|(simp only[vb,and_true,true_implies];(repeat' (first|(with_reducible assumption)|(with_reducible apply And.intro)|intro _|((fail_if_success (with_reducible show(_:Int)≤_));assumption)))<;>first|omega|rfl|(simp only[ab];done)|(simp[Nat.mul_one]<;>omega)|(simp_all;done)))),rfl,?_⟩;repeat' (first|((with_reducible first|show aI _|show aP _);simp[vb,x1,x2,x3,x4,x5]<;>omega)|exact(rfl:some _=_)|((fail_if_success refine aZ ?_);refine lA [(302,fun _=>some (.bool q1)),(303,fun _=>some (.bool q2)),(304,fun _=>some (.bool q3)),(305,fun _=>some (.bool q4)),(306,fun _=>some (.bool q5))] ?_;(repeat1' dsimp only[FA,uW,yy,yz,yA,aJ,br,ar,aG,aC,ai,aa,go_sem]);first|refine ba ?_ ?_ rfl ?_|apply bb|apply bf|(refine bg (fun hc=>?_) fun hc=>?_<;>first|(cases hc;done)|(exfalso;simp[x1,x2,x3,x4,x5]at hc<;>omega)|(try simp only[bn]at hc;try contradiction))|skip))
  simp only[ca,Bool.and_true];rfl
 dsimp only[aJ,br,ar,aG,aC,ai,aa,lC,rp,sg,go_sem];refine⟨(by first|exact True.intro|(simp only[vb,lb];omega)|(simp[vb]<;>omega)),(by first|exact True.intro|((try dsimp only[go_sem]);first|(simp[vb]<;>omega)|(simp only[vb,and_true,true_implies];(repeat' (first|(with_reducible assumption)|(with_reducible apply And.intro)|intro _|((fail_if_success (with_reducible show(_:Int)≤_));assumption)))<;>first|omega|rfl|(simp only[ab];done)|(simp[Nat.mul_one]<;>omega)|(simp_all;done)))),rfl,?_⟩;repeat' (first|((with_reducible first|show aI _|show aP _);simp[vb,x1,x2,x3,x4,x5]<;>omega)|exact(rfl:some _=_)|((fail_if_success refine aZ ?_);refine lA [(302,fun _=>some (.bool q1)),(303,fun _=>some (.bool q2)),(304,fun _=>some (.bool q3)),(305,fun _=>some (.bool q4)),(306,fun _=>some (.bool q5))] ?_;(repeat1' dsimp only[FA,uW,yy,yz,yA,aJ,br,ar,aG,aC,ai,aa,go_sem]);first|refine ba ?_ ?_ rfl ?_|apply bb|apply bf|(refine bg (fun hc=>?_) fun hc=>?_<;>first|(cases hc;done)|(exfalso;simp[x1,x2,x3,x4,x5]at hc<;>omega)|(try simp only[bn]at hc;try contradiction))|skip))
 simp only[ca,Bool.and_true];rfl
end
section
open Tr
def JU:af:=(⟨_,by conv=>(lhs;reduce;try simp only[bD,Int.cast_ofNat_Int,Int.reduceNegSucc,UInt8.reduceOfNat])⟩:{x // codeOf Tryz.prog 270 (fun _=>false)=some x}).1
theorem MI:aD Tryz.prog 270 (fun _=>false)=some (JU,[.t 6],15,true):=by kernel_rfl
def JV:af:=(⟨_,by conv=>(lhs;reduce;try simp only[bD,Int.cast_ofNat_Int,Int.reduceNegSucc,UInt8.reduceOfNat])⟩:{x // codeOf Tryz.prog 348 (fun _=>false)=some x}).1
theorem MJ:aD Tryz.prog 348 (fun _=>false)=some (JV,[.t 3],26,true):=by kernel_rfl
def MK:af:=(⟨_,by conv=>(lhs;reduce;try simp only[bD,Int.cast_ofNat_Int,Int.reduceNegSucc,UInt8.reduceOfNat])⟩:{x // codeOf Tryz.prog 349 (fun _=>false)=some x}).1
theorem ML:aD Tryz.prog 349 (fun _=>false)=some (MK,[.t 3],57,true):=by kernel_rfl
def JW:af:=(⟨_,by conv=>(lhs;reduce;try simp only[bD,Int.cast_ofNat_Int,Int.reduceNegSucc,UInt8.reduceOfNat])⟩:{x // codeOf Tryz.prog 350 (fun _=>false)=some x}).1
theorem MM:aD Tryz.prog 350 (fun _=>false)=some (JW,[.t 3],18,true):=by kernel_rfl
def JX:af:=(⟨_,by conv=>(lhs;reduce;try simp only[bD,Int.cast_ofNat_Int,Int.reduceNegSucc,UInt8.reduceOfNat])⟩:{x // codeOf Tryz.prog 271 (fun _=>false)=some x}).1
theorem MN:aD Tryz.prog 271 (fun _=>false)=some (JX,[.t 2],8,true):=by kernel_rfl
def Dj:List bx:=[
 ⟨(some 2),.box 67 (.t 0) 13,none⟩,
 ⟨(some 3),.box 67 (.t 1) 13,none⟩,
 ⟨(some 4),.mv (.c (.bool false)),none⟩]
def Dk:List bx:=[
 ⟨(some 5),.fieldAddr (.t 2) 0,none⟩,
 ⟨(some 6),.load (.t 5) 1 false,none⟩,
 ⟨(some 7),.fieldAddr (.t 3) 0,none⟩,
 ⟨(some 8),.load (.t 7) 1 false,none⟩,
 ⟨(some 9),.bin .eql (.t 6) (.t 8),none⟩,
 ⟨(some 10),.mv (.t 9),none⟩,
 ⟨(some 11),.fieldAddr (.t 2) 1,some (10,true)⟩,
 ⟨(some 12),.load (.t 11) 1 false,some (10,true)⟩,
 ⟨(some 13),.fieldAddr (.t 3) 1,some (10,true)⟩,
 ⟨(some 14),.load (.t 13) 1 false,some (10,true)⟩,
 ⟨(some 15),.bin .eql (.t 12) (.t 14),some (10,true)⟩,
 ⟨(some 16),.pick (.t 10) (.t 15) (.c (.bool false)),none⟩,
 ⟨(some 17),.mv (.t 16),none⟩,
 ⟨(some 18),.fieldAddr (.t 2) 2,some (17,true)⟩,
 ⟨(some 19),.load (.t 18) 1 false,some (17,true)⟩,
 ⟨(some 20),.fieldAddr (.t 3) 2,some (17,true)⟩,
 ⟨(some 21),.load (.t 20) 1 false,some (17,true)⟩,
 ⟨(some 22),.bin .eql (.t 19) (.t 21),some (17,true)⟩,
 ⟨(some 23),.pick (.t 17) (.t 22) (.c (.bool false)),none⟩,
 ⟨(some 24),.mv (.t 23),none⟩,
 ⟨(some 25),.fieldAddr (.t 2) 3,some (24,true)⟩,
 ⟨(some 26),.load (.t 25) 1 false,some (24,true)⟩,
 ⟨(some 27),.fieldAddr (.t 3) 3,some (24,true)⟩,
 ⟨(some 28),.load (.t 27) 1 false,some (24,true)⟩,
 ⟨(some 29),.call 306 [(.t 26),(.t 28)],some (24,true)⟩,
 ⟨(some 30),.pick (.t 24) (.t 29) (.c (.bool false)),none⟩,
 ⟨(some 31),.mv (.t 30),none⟩,
 ⟨(some 32),.fieldAddr (.t 2) 4,some (31,true)⟩,
 ⟨(some 33),.load (.t 32) 1 false,some (31,true)⟩,
 ⟨(some 34),.fieldAddr (.t 3) 4,some (31,true)⟩,
 ⟨(some 35),.load (.t 34) 1 false,some (31,true)⟩,
 ⟨(some 36),.bin .eql (.t 33) (.t 35),some (31,true)⟩,
 ⟨(some 37),.pick (.t 31) (.t 36) (.c (.bool false)),none⟩,
 ⟨(some 38),.mv (.t 37),none⟩,
 ⟨(some 39),.fieldAddr (.t 2) 5,some (38,true)⟩,
 ⟨(some 40),.load (.t 39) 1 false,some (38,true)⟩,
 ⟨(some 41),.fieldAddr (.t 3) 5,some (38,true)⟩,
 ⟨(some 42),.load (.t 41) 1 false,some (38,true)⟩,
 ⟨(some 43),.bin .eql (.t 40) (.t 42),some (38,true)⟩,
 ⟨(some 44),.pick (.t 38) (.t 43) (.c (.bool false)),none⟩,
 ⟨(some 45),.mv (.t 44),none⟩,
 ⟨(some 46),.fieldAddr (.t 2) 6,some (45,true)⟩,
 ⟨(some 47),.load (.t 46) 4 true,some (45,true)⟩,
 ⟨(some 48),.fieldAddr (.t 3) 6,some (45,true)⟩,
 ⟨(some 49),.load (.t 48) 4 true,some (45,true)⟩,
 ⟨(some 50),.eqA false [(0,0),(1,0),(2,0),(3,0)] (.t 47) (.t 49),some (45,true)⟩,
 ⟨(some 51),.pick (.t 45) (.t 50) (.c (.bool false)),none⟩,
 ⟨(some 52),.mv (.t 51),none⟩,
 ⟨(some 53),.fieldAddr (.t 2) 10,some (52,true)⟩,
 ⟨(some 54),.load (.t 53) 1 false,some (52,true)⟩,
 ⟨(some 55),.fieldAddr (.t 3) 10,some (52,true)⟩,
 ⟨(some 56),.load (.t 55) 1 false,some (52,true)⟩,
 ⟨(some 57),.bin .eql (.t 54) (.t 56),some (52,true)⟩,
 ⟨(some 58),.pick (.t 52) (.t 57) (.c (.bool false)),none⟩,
 ⟨(some 59),.mv (.t 58),none⟩,
 ⟨(some 60),.fieldAddr (.t 2) 11,some (59,true)⟩,
 ⟨(some 61),.load (.t 60) 1 false,some (59,true)⟩,
 ⟨(some 62),.fieldAddr (.t 3) 11,some (59,true)⟩,
 ⟨(some 63),.load (.t 62) 1 false,some (59,true)⟩,
 ⟨(some 64),.bin .eql (.t 61) (.t 63),some (59,true)⟩,
 ⟨(some 65),.pick (.t 59) (.t 64) (.c (.bool false)),none⟩,
 ⟨(some 66),.mv (.t 65),none⟩,
 ⟨(some 67),.fieldAddr (.t 2) 12,some (66,true)⟩,
 ⟨(some 68),.load (.t 67) 1 false,some (66,true)⟩,
 ⟨(some 69),.fieldAddr (.t 3) 12,some (66,true)⟩,
 ⟨(some 70),.load (.t 69) 1 false,some (66,true)⟩,
 ⟨(some 71),.bin .eql (.t 68) (.t 70),some (66,true)⟩,
 ⟨(some 72),.pick (.t 66) (.t 71) (.c (.bool false)),none⟩,
 ⟨(some 4),.mv (.t 72),none⟩]
def JY:af:=(.seq (.region false Dj) (.seq (.region false Dk) .ret))
theorem MO:aD Tryz.prog 272 (fun _=>false)=some (JY,[.t 4],73,true):=by kernel_rfl
theorem kV (x a b:Int):ah ctx 270 [.int .i64 x,.int .i64 a,.int .i64 b] (.bool (eR x a b)):=by
 refine aj (C:=ctx) (Fn.of MI rfl) rfl ?_;unfold JU;repeat' (first|((with_reducible first|show aI _|show aP _);simp[vb]<;>omega)|exact(rfl:some _=_)|((fail_if_success refine aZ ?_);refine bJ ?_;(repeat1' dsimp only[JU,go_sem]);first|refine ba ?_ ?_ rfl ?_|apply bb|apply bf|(refine bg (fun hc=>?_) fun hc=>?_<;>first|(cases hc;done)|(exfalso;simp at hc<;>omega)|(try simp only[bn]at hc;try contradiction))|skip))
 refine congrArg (fun b=>some (PV.bool b)) ?_;simp only[ca,eR,ge_iff_le]
def fC (e:Ev):List PV:=[.int .i64 e.rep,.int .i64 e.num,.int .i64 e.time,.nilsl,.int .i64 e.kind,.int .i64 e.act,.int .i64 e.give.k,.int .i64 e.give.i,.int .i64 e.give.e,.int .i64 e.give.a,.int .i64 e.tgt,.int .i64 e.place,.int .i64 e.ser]
def gY (e:Ev):dI:=⟨(fC e).map .pv,0,13,67,false⟩
theorem Bi:ah ctx 306 [.nilsl,.nilsl] (.bool true):=by
 refine aj (C:=ctx) (Fn.of Dc rfl) rfl ?_;unfold te;repeat' (first|((with_reducible first|show aI _|show aP _);simp[vb]<;>omega)|exact(rfl:some _=_)|((fail_if_success refine aZ ?_);refine bJ ?_;(repeat1' dsimp only[te,go_sem]);first|refine ba ?_ ?_ rfl ?_|apply bb|apply bf|(refine bg (fun hc=>?_) fun hc=>?_<;>first|(cases hc;done)|(exfalso;simp at hc<;>omega)|(try simp only[bn]at hc;try contradiction))|skip))
 refine de 0 (fun _=>True) (fun k=>[(0,.pv .nilsl),(1,.pv .nilsl),(12,.pv (.int .i64 0)),(13,.pv (.int .i64 k))]) (fun _=>[]) trivial (by (repeat' (first|exact trivial|refine And.intro (by first|rfl|(simp[get,Nat.beq]<;>omega)|(dsimp only[get];congr 1<;>first|rfl|omega|(simp<;>omega))) ?_))) ⟨[],rfl⟩ (fun _=>⟨Nat.zero_le _,rfl,rfl⟩) fun k hk hP=>?_
 obtain rfl:k=0:=by omega
 repeat' (first|((with_reducible first|show aI _|show aP _);simp[vb]<;>omega)|exact(rfl:some _=_)|((fail_if_success refine aZ ?_);refine bJ ?_;(repeat1' dsimp only[te,go_sem]);first|refine ba ?_ ?_ rfl ?_|apply bb|apply bf|(refine bg (fun hc=>?_) fun hc=>?_<;>first|(cases hc;done)|(exfalso;simp at hc<;>omega)|(try simp only[bn]at hc;try contradiction))|skip))
theorem pf (a b:Ev) (ha:a.past=[]) (hb:b.past=[]):ah ctx 272 [.agg (fC a),.agg (fC b)] (.bool (decide (a=b))):=by
 have hx:=Bi;obtain⟨a1,a2,a3,al,a5,a6,⟨g1,g2,g3,g4⟩,a7,a8,a9⟩:=a;obtain⟨b1,b2,b3,bl,b5,b6,⟨i1,i2,i3,i4⟩,b7,b8,b9⟩:=b;simp only at ha hb;subst ha;subst hb;refine aj (C:=ctx) (Fn.of MO rfl) rfl ?_;unfold JY;repeat' (first|((with_reducible first|show aI _|show aP _);simp[vb,hx]<;>omega)|exact(rfl:some _=_)|((fail_if_success refine aZ ?_);refine lA [(306,fun _=>some (.bool true))] ?_;(repeat1' dsimp only[JY,Dj,Dk,fC,go_sem]);first|refine ba ?_ ?_ rfl ?_|apply bb|apply bf|(refine bg (fun hc=>?_) fun hc=>?_<;>first|(cases hc;done)|(exfalso;simp[hx]at hc<;>omega)|(try simp only[bn]at hc;try contradiction))|skip))
 refine congrArg (fun b=>some (PV.bool b)) ?_;rw[Bool.eq_iff_iff];simp only[ca,Bool.and_true,Bool.and_eq_true,decide_eq_true_eq,beq_iff_eq,Ev.mk.injEq,Nd.mk.injEq,and_assoc,true_and]
def fh (e:Ev):dI:=⟨(ar e).map .pv,0,13,67,false⟩
def bw (n:Nat):dI:=⟨[.pv (.int .i64 0),.fn 348 [.ptr n 0 0],.pv (.int .i64 1),.fn 349 [.ptr n 0 0],.pv (.int .i64 2),.fn 350 [.ptr n 0 0]],0,0,0,false⟩
theorem Dl (e:Ev):aA ctx 271 [.pv (.agg (ar e))] [fh e] (.map 2 0) [fh e,fh e,bw 1]:=by
 refine aH (C:=ctx) (Fn.of MN rfl) rfl (by simp) rfl rfl ?_;unfold JX;repeat' (first|((with_reducible first|show aI _|show aP _);simp[vb]<;>omega)|exact(rfl:some _=_)|((fail_if_success refine aZ ?_);refine bJ ?_;(repeat1' dsimp only[JX,fh,ar,bw,go_sem]);first|refine ba ?_ ?_ rfl ?_|apply bb|apply bf|(refine bg (fun hc=>?_) fun hc=>?_<;>first|(cases hc;done)|(exfalso;simp at hc<;>omega)|(try simp only[bn]at hc;try contradiction))|skip))
 ·exact⟨by decide,by decide,by decide,by decide,by decide,by decide,by decide,by decide,by decide,by decide,by decide,by decide,trivial⟩
 exact⟨⟨trivial,rfl⟩,[],rfl⟩
theorem Dm (e x:Ev):aA ctx 348 [.ptr 3 0 0,.ptr 1 0 0] [fh e,fh e,bw 1,gY x] (.pv (.bool (eR e.act 0 255&&eR e.place 0 1024&&eR e.ser 1 1048576))) [fh e,fh e,bw 1,gY {x with act:=0,place:=0,ser:=0}]:=by
 have hb:=kV;refine aH (C:=ctx) (Fn.of MJ rfl) rfl (by simp) rfl rfl ?_;unfold JV;repeat' (first|((with_reducible first|show aI _|show aP _);simp[vb,hb]<;>omega)|exact(rfl:some _=_)|((fail_if_success refine aZ ?_);refine lA [(270,fun l=>match l with|[.int .i64 x,.int .i64 a,.int .i64 b]=>some (.bool (eR x a b))|_=>none)] ?_;(repeat1' dsimp only[JV,fh,ar,bw,gY,fC,go_sem]);first|refine ba ?_ ?_ rfl ?_|apply bb|apply bf|(refine bg (fun hc=>?_) fun hc=>?_<;>first|(cases hc;done)|(exfalso;simp[hb]at hc<;>omega)|(try simp only[bn]at hc;try contradiction))|skip))
 simp only[ca,Bool.and_true,Bool.and_assoc];exact⟨⟨trivial,trivial⟩,[],rfl⟩
theorem Dn (e x:Ev):aA ctx 350 [.ptr 3 0 0,.ptr 1 0 0] [fh e,fh e,bw 1,gY x] (.pv (.bool (eR e.place 1 1024&&eR e.ser 1 1048576))) [fh e,fh e,bw 1,gY {x with place:=0,ser:=0}]:=by
 have hb:=kV;refine aH (C:=ctx) (Fn.of MM rfl) rfl (by simp) rfl rfl ?_;unfold JW;repeat' (first|((with_reducible first|show aI _|show aP _);simp[vb,hb]<;>omega)|exact(rfl:some _=_)|((fail_if_success refine aZ ?_);refine lA [(270,fun l=>match l with|[.int .i64 x,.int .i64 a,.int .i64 b]=>some (.bool (eR x a b))|_=>none)] ?_;(repeat1' dsimp only[JW,fh,ar,bw,gY,fC,go_sem]);first|refine ba ?_ ?_ rfl ?_|apply bb|apply bf|(refine bg (fun hc=>?_) fun hc=>?_<;>first|(cases hc;done)|(exfalso;simp[hb]at hc<;>omega)|(try simp only[bn]at hc;try contradiction))|skip))
 simp only[ca,Bool.and_true,Bool.and_assoc];exact⟨⟨trivial,trivial⟩,[],rfl⟩
theorem Dp (e x:Ev) (he:e.past.length≤1000000000):aA ctx 349 [.ptr 3 0 0,.ptr 1 0 0] [fh e,fh e,bw 1,gY x] (.pv (.bool (eR e.give.k 0 1&&eR e.give.e 0 (if e.give.k=1 then 5 else 0)&&eR e.give.i 0 1023&&eR e.give.a 1 1000000&&eR e.tgt 0 ((e.past.length:Int)-1)&&decide (e.tgt≠e.rep)))) [fh e,fh e,bw 1,gY {x with give:=zn,tgt:=0},⟨(cX e.give).map .pv,0,4,65,false⟩]:=by
 have hb:=kV;refine aH (C:=ctx) (Fn.of ML rfl) rfl (by simp) rfl rfl ?_;unfold MK;by_cases hk:e.give.k=1
 ·iterate 14 first
   |refine⟨fun _=>?_,fun h=>by simp at h<;>omega⟩
   |refine⟨by simp[vb,hb,hk]<;>omega,by simp[vb,hb,hk]<;>omega,?_⟩
   |(refine bJ ?_;iterate 2 (try dsimp only[fh,ar,bw,gY,fC,cX,zn,go_sem]))
  refine lA [(270,fun l=>match l with|[.int .i64 x,.int .i64 a,.int .i64 b]=>some (.bool (eR x a b))|_=>none)] ?_;dsimp only[fh,ar,bw,gY,fC,cX,zn,go_sem];try dsimp only[fh,ar,bw,gY,fC,cX,zn,go_sem]
  refine⟨(by simp[vb,hb,hk]<;>omega),?_,?_⟩
  ·iterate 6 (try dsimp only[ar,bw,gY,fC,cX,zn,go_sem])
   simp[vb,hb];exact fun h1 h2 h3 h4=>⟨⟨by omega,by omega⟩,⟨⟨h1,h2⟩,h3⟩,h4⟩
  refine bJ ?_;dsimp only[go_sem];refine⟨⟨trivial,congrArg (fun b=>AV.pv (PV.bool b)) ?_⟩,[],rfl⟩;rw[Bool.eq_iff_iff];simp[hk,ca,and_assoc]
 iterate 13 first
  |refine⟨fun h=>by simp at h<;>omega,fun _=>?_⟩
  |refine⟨by simp[vb,hb,hk]<;>omega,by simp[vb,hb,hk]<;>omega,?_⟩
  |(refine lA [(270,fun l=>match l with|[.int .i64 x,.int .i64 a,.int .i64 b]=>some (.bool (eR x a b))|_=>none)] ?_;iterate 2 (try dsimp only[fh,ar,bw,gY,fC,cX,zn,go_sem]))
 refine lA [(270,fun l=>match l with|[.int .i64 x,.int .i64 a,.int .i64 b]=>some (.bool (eR x a b))|_=>none)] ?_;dsimp only[fh,ar,bw,gY,fC,cX,zn,go_sem];try dsimp only[fh,ar,bw,gY,fC,cX,zn,go_sem]
 refine⟨(by simp[vb,hb,hk]<;>omega),?_,?_⟩
 ·iterate 6 (try dsimp only[ar,bw,gY,fC,cX,zn,go_sem])
  simp[vb,hb];exact fun h1 h2 h3 h4=>⟨⟨by omega,by omega⟩,⟨⟨h1,h2⟩,h3⟩,h4⟩
 refine bJ ?_;dsimp only[go_sem];refine⟨⟨trivial,congrArg (fun b=>AV.pv (PV.bool b)) ?_⟩,[],rfl⟩;rw[Bool.eq_iff_iff];simp[hk,ca,and_assoc]
def sr:List bx:=[
 ⟨(some 1),.box 67 (.t 0) 13,none⟩,
 ⟨(some 2),.mv (.c (.bool false)),none⟩]
def uX:List bx:=[
 ⟨(some 6),.fieldAddr (.t 1) 3,none⟩,
 ⟨(some 7),.load (.t 6) 1 false,none⟩,
 ⟨(some 8),.call 209 [(.t 7)],none⟩,
 ⟨(some 9),.un .not (.t 8),none⟩,
 ⟨(some 10),.mv (.t 9),none⟩,
 ⟨(some 11),.fieldAddr (.t 1) 0,some (10,false)⟩,
 ⟨(some 12),.load (.t 11) 1 false,some (10,false)⟩,
 ⟨(some 13),.fieldAddr (.t 1) 3,some (10,false)⟩,
 ⟨(some 14),.load (.t 13) 1 false,some (10,false)⟩,
 ⟨(some 15),.len (.t 14),some (10,false)⟩,
 ⟨(some 16),.bin .sub (.t 15) (.c (.int .i64 1)),some (10,false)⟩,
 ⟨(some 17),.call 270 [(.t 12),(.c (.int .i64 0)),(.t 16)],some (10,false)⟩,
 ⟨(some 18),.un .not (.t 17),some (10,false)⟩,
 ⟨(some 19),.pick (.t 10) (.c (.bool true)) (.t 18),none⟩,
 ⟨(some 20),.mv (.t 19),none⟩,
 ⟨(some 21),.fieldAddr (.t 1) 1,some (20,false)⟩,
 ⟨(some 22),.load (.t 21) 1 false,some (20,false)⟩,
 ⟨(some 23),.fieldAddr (.t 1) 3,some (20,false)⟩,
 ⟨(some 24),.load (.t 23) 1 false,some (20,false)⟩,
 ⟨(some 25),.fieldAddr (.t 1) 0,some (20,false)⟩,
 ⟨(some 26),.load (.t 25) 1 false,some (20,false)⟩,
 ⟨(some 27),.indexSl (.t 24) (.t 26) 1,some (20,false)⟩,
 ⟨(some 28),.load (.t 27) 1 false,some (20,false)⟩,
 ⟨(some 29),.bin .add (.t 28) (.c (.int .i64 1)),some (20,false)⟩,
 ⟨(some 30),.bin .neq (.t 22) (.t 29),some (20,false)⟩,
 ⟨(some 31),.pick (.t 20) (.c (.bool true)) (.t 30),none⟩,
 ⟨(some 32),.mv (.t 31),none⟩,
 ⟨(some 33),.fieldAddr (.t 1) 1,some (32,false)⟩,
 ⟨(some 34),.load (.t 33) 1 false,some (32,false)⟩,
 ⟨(some 35),.bin .gtr (.t 34) (.c (.int .i64 1024)),some (32,false)⟩,
 ⟨(some 36),.pick (.t 32) (.c (.bool true)) (.t 35),none⟩,
 ⟨(some 37),.mv (.t 36),none⟩,
 ⟨(some 38),.fieldAddr (.t 1) 2,some (37,false)⟩,
 ⟨(some 39),.load (.t 38) 1 false,some (37,false)⟩,
 ⟨(some 40),.call 270 [(.t 39),(.c (.int .i64 1)),(.c (.int .i64 1073741824))],some (37,false)⟩,
 ⟨(some 41),.un .not (.t 40),some (37,false)⟩,
 ⟨(some 42),.pick (.t 37) (.c (.bool true)) (.t 41),none⟩]
def su:List bx:=[
 ⟨(some 2),.mv (.c (.bool false)),none⟩]
def ph:List bx:=[
 ⟨(some 44),.load (.t 1) 13 true,none⟩,
 ⟨(some 45),.callB 271 [(.t 44)],none⟩,
 ⟨(some 46),.fieldAddr (.t 1) 4,none⟩,
 ⟨(some 47),.load (.t 46) 1 false,none⟩,
 ⟨(some 48),.mapGet true (.int .i64) (.val .nilFunc) (.t 45) (.t 47),none⟩,
 ⟨(some 43),.mv (.t 48),none⟩,
 ⟨(some 49),.extract (.t 43) 0,none⟩,
 ⟨(some 50),.extract (.t 43) 1,none⟩,
 ⟨(some 3),.mv (.t 49),none⟩,
 ⟨(some 4),.mv (.t 50),none⟩]
def pj:List bx:=[
 ⟨(some 51),.mv (.t 4),none⟩,
 ⟨(some 52),.un .not (.t 51),none⟩]
def yB:List bx:=[
 ⟨(some 2),.mv (.c (.bool false)),none⟩]
def sw:List bx:=[
 ⟨(some 53),.fieldAddr (.t 1) 5,none⟩,
 ⟨(some 54),.load (.t 53) 1 false,none⟩,
 ⟨(some 55),.fieldAddr (.t 1) 6,none⟩,
 ⟨(some 56),.load (.t 55) 4 true,none⟩,
 ⟨(some 57),.fieldAddr (.t 1) 10,none⟩,
 ⟨(some 58),.load (.t 57) 1 false,none⟩,
 ⟨(some 59),.fieldAddr (.t 1) 11,none⟩,
 ⟨(some 60),.load (.t 59) 1 false,none⟩,
 ⟨(some 61),.fieldAddr (.t 1) 12,none⟩,
 ⟨(some 62),.load (.t 61) 1 false,none⟩,
 ⟨(some 63),.build [(.int .i64 0),(.int .i64 0),(.int .i64 0),.nilsl,(.int .i64 0),(.int .i64 0),(.int .i64 0),(.int .i64 0),(.int .i64 0),(.int .i64 0),(.int .i64 0),(.int .i64 0),(.int .i64 0)] [(5,1,(.t 54)),(6,4,(.t 56)),(10,1,(.t 58)),(11,1,(.t 60)),(12,1,(.t 62))],none⟩,
 ⟨(some 5),.alloc 67 [(.int .i64 0),(.int .i64 0),(.int .i64 0),.nilsl,(.int .i64 0),(.int .i64 0),(.int .i64 0),(.int .i64 0),(.int .i64 0),(.int .i64 0),(.int .i64 0),(.int .i64 0),(.int .i64 0)],none⟩,
 ⟨none,.store (.t 5) (.t 63) 13,none⟩]
def sx:List bx:=[
 ⟨(some 64),.mv (.t 3),none⟩,
 ⟨(some 65),.callv (.t 64) [(.t 5)],none⟩,
 ⟨(some 66),.mv (.t 65),none⟩,
 ⟨(some 67),.load (.t 5) 13 true,some (66,true)⟩,
 ⟨(some 68),.build [(.int .i64 0),(.int .i64 0),(.int .i64 0),.nilsl,(.int .i64 0),(.int .i64 0),(.int .i64 0),(.int .i64 0),(.int .i64 0),(.int .i64 0),(.int .i64 0),(.int .i64 0),(.int .i64 0)] [],some (66,true)⟩,
 ⟨(some 69),.call 272 [(.t 67),(.t 68)],some (66,true)⟩,
 ⟨(some 70),.pick (.t 66) (.t 69) (.c (.bool false)),none⟩,
 ⟨(some 2),.mv (.t 70),none⟩]
def Dq:af:=(.seq (.region false sr) (.seq (.seq (.region true uX) (.cond (.t 42) (.seq (.region false su) .ret) .skip)) (.seq (.regionF ph [(1,3)]) (.seq (.seq (.region false pj) (.cond (.t 52) (.seq (.region false yB) .ret) .skip)) (.seq (.region false sw) (.seq (.region false sx) .ret))))))
theorem Dr:aD Tryz.prog 159 (fun d=>Nat.beq d 45)=some (Dq,[.t 2],71,true):=by kernel_rfl
theorem uY {C:Ctx} {own:Nat→Bool} {n m:Nat} {x:af} {R:Exit→AF→AM→Prop} {f:AF} {μ μ':AM} (hm:μ=μ') (h:Aw C own n m x R f μ'):Aw C own n m x R f μ:=hm▸h
theorem JZ (e:Ev) (h:e.kind=0):jW e=(eR e.act 0 255&&eR e.place 0 1024&&eR e.ser 1 1048576&&decide ({ze with give:=e.give,tgt:=e.tgt}=ze)):=by
 obtain⟨a1,a2,a3,al,a5,a6,⟨g1,g2,g3,g4⟩,a7,a8,a9⟩:=e;simp only at h;subst h;rw[Bool.eq_iff_iff];simp[jW,ze,zn];constructor
 ·rintro⟨⟨⟨⟨h1,h2⟩,h3⟩,h4⟩,h5⟩;exact⟨⟨⟨h3,h4⟩,h5⟩,h1,h2⟩
 rintro⟨⟨⟨h3,h4⟩,h5⟩,h1,h2⟩;exact⟨⟨⟨⟨h1,h2⟩,h3⟩,h4⟩,h5⟩
theorem J0 (e:Ev) (h:e.kind=1):jW e=((eR e.give.k 0 1&&eR e.give.e 0 (if e.give.k=1 then 5 else 0)&&eR e.give.i 0 1023&&eR e.give.a 1 1000000&&eR e.tgt 0 ((e.past.length:Int)-1)&&decide (e.tgt≠e.rep))&&decide ({ze with act:=e.act,place:=e.place,ser:=e.ser}=ze)):=by
 obtain⟨a1,a2,a3,al,a5,a6,⟨g1,g2,g3,g4⟩,a7,a8,a9⟩:=e;simp only at h;subst h;rw[Bool.eq_iff_iff];simp[jW,ze,zn];constructor
 ·rintro⟨⟨⟨⟨⟨⟨⟨⟨h1,h2⟩,h3⟩,h4⟩,h5⟩,h6⟩,h7⟩,h8⟩,h9⟩;exact⟨⟨⟨⟨⟨⟨h4,h5⟩,h6⟩,h7⟩,h8⟩,h9⟩,h1,h2,h3⟩
 rintro⟨⟨⟨⟨⟨⟨h4,h5⟩,h6⟩,h7⟩,h8⟩,h9⟩,h1,h2,h3⟩;exact⟨⟨⟨⟨⟨⟨⟨⟨h1,h2⟩,h3⟩,h4⟩,h5⟩,h6⟩,h7⟩,h8⟩,h9⟩
theorem J1 (e:Ev) (h:e.kind=2):jW e=(eR e.place 1 1024&&eR e.ser 1 1048576&&decide ({ze with act:=e.act,give:=e.give,tgt:=e.tgt}=ze)):=by
 obtain⟨a1,a2,a3,al,a5,a6,⟨g1,g2,g3,g4⟩,a7,a8,a9⟩:=e;simp only at h;subst h;rw[Bool.eq_iff_iff];simp[jW,ze,zn];constructor
 ·rintro⟨⟨⟨⟨h1,h2⟩,h3⟩,h4⟩,h5⟩;exact⟨⟨h4,h5⟩,h3,h1,h2⟩
 rintro⟨⟨h4,h5⟩,h3,h1,h2⟩;exact⟨⟨⟨⟨h1,h2⟩,h3⟩,h4⟩,h5⟩
theorem J2 (e:Ev) (h1:e.kind≠0) (h2:e.kind≠1) (h3:e.kind≠2):jW e=false:=by
 unfold jW;rw[if_neg h1,if_neg h2,if_neg h3]
theorem tP (e:Ev) (he:e.past.length≤1000000000):ah ctx 159 [.agg (ar e)] (.bool (fS e)):=by
 have hb:=kV;have hv:=zN e.past he;have hf:=Dl e;have f1:=aU e.past;have hq2:eP e.past=true→∀k<e.past.length,0≤e.past.getD k 0∧e.past.getD k 0≤1024:=by
  intro h k hk;simp only[eP,Bool.and_eq_true]at h;have:=List.all_eq_true.mp h.1.1 _ (bX (d:=0) hk);simpa [o8]using this
 have hfo:fS e=(eP e.past&&eR e.rep 0 ((e.past.length:Int)-1)&&decide (e.num=e.past.getD e.rep.toNat 0+1)&&decide (e.num≤1024)&&eR e.time 1 1073741824&&jW e):=rfl;unfold aa at hv;by_cases hc:eP e.past=true∧eR e.rep 0 ((e.past.length:Int)-1)=true
 ·obtain⟨hq,hr⟩:=hc;rw[hq]at hv;have hr':=hr;simp only[eR,Bool.and_eq_true,decide_eq_true_eq]at hr';obtain⟨r,hr0⟩:∃r:Nat,e.rep=r:=⟨e.rep.toNat,by omega⟩
  have e1:=ints_at e.past r (by omega);have hx:=hq2 hq r (by omega);rw[hq,hr,hr0,Int.toNat_natCast,Bool.true_and,Bool.true_and]at hfo;rw[hr0]at hr;clear hq2;generalize e.past.getD r 0=x at *;refine aj (C:=ctx) (Fn.of Dr rfl) rfl ?_;unfold Dq;refine bJ ?_;dsimp only[sr,ar,aa,go_sem];try dsimp only[ar,aa,go_sem]
  refine⟨(by simp[vb]<;>omega),(by simp[vb]<;>omega),?_⟩;rw[hr0];refine cK ?_;refine cK ?_;refine lT (T:=[(209,fun _=>some (.bool true)),(270,fun l=>match l with|[.int .i64 x,.int .i64 a,.int .i64 b]=>some (.bool (eR x a b))|_=>none)]) (H:=[ξ 28 (.int .i64 x)]) ?_;dsimp only[Dq,sr,uX,su,ph,pj,yB,sw,sx,ar,aa,go_sem];iterate 2 (try dsimp only[ar,aa,go_sem])
  refine⟨?_,?_,?_⟩
  ·simp[vb]
  ·simp[vb,hb,hv,e1,hr0,f1];exact⟨fun h=>⟨by omega,h⟩,fun h=>⟨by omega,h,by simpa using e1⟩,fun h=>⟨by omega,h⟩,by omega,by omega⟩
  refine bJ ?_;dsimp only[go_sem];refine⟨fun hc=>?_,fun hc=>?_⟩
  ·refine bJ ?_;dsimp only[su,go_sem];try dsimp only[go_sem]
   refine⟨(by simp[vb]<;>omega),(by simp[vb]<;>omega),?_⟩;refine bJ ?_;dsimp only[go_sem];refine⟨trivial,congrArg (fun b=>some (PV.bool b)) ?_⟩;rw[hfo];by_cases g1:e.num=x+1<;>by_cases g2:e.num≤1024<;>cases g3:eR e.time 1 1073741824<;>simp_all<;>omega
  refine bJ ?_;dsimp only[go_sem];have hg:fS e=jW e:=by
   rw[hfo];by_cases g1:e.num=x+1<;>by_cases g2:e.num≤1024<;>cases g3:eR e.time 1 1073741824<;>simp_all<;>omega
  rw[hg];clear hc hg hfo;refine dy [(1,.ptr 0 0 0)] (by (repeat' (first|exact trivial|refine And.intro (by first|rfl|(simp[get,Nat.beq]<;>omega)|(dsimp only[get];congr 1<;>first|rfl|omega|(simp<;>omega))) ?_))) ?_;by_cases hk:e.kind=0
  ·rw[JZ e hk];have hm:=Dm e {ze with act:=e.act,give:=e.give,tgt:=e.tgt,place:=e.place,ser:=e.ser};have hqe:=pf (({ze with give:=e.give,tgt:=e.tgt}:Ev)) ze rfl rfl;refine uY (show _=[fh e] by rw[fh,ar,hr0];rfl) ?_;refine cu [(45,{val:=some (.map 2 0),new:=[fh e,bw 1]}),ξ 47 (.int .i64 0)] ?_;dsimp only[ph,fh,ar,bw,aa,dn,gJ,bN,bY,bj,bP,Int.reduceBEq,Bool.cond_true,Bool.cond_false,Bool.true_or,Bool.false_or,Bool.or_true,go_sem]
   try dsimp only[fh,ar,bw,aa,dn,gJ,bN,bY,bj,bP,Int.reduceBEq,Bool.cond_true,Bool.cond_false,Bool.true_or,Bool.false_or,Bool.or_true,go_sem]
   refine⟨(by simp[vb,hk]<;>omega),?_,(by first|rfl|trivial),?_⟩
   ·iterate 3 (try dsimp only[fh,ar,bw,aa,dn,gJ,bN,bY,bj,bP,Int.reduceBEq,Bool.cond_true,Bool.cond_false,Bool.true_or,Bool.false_or,Bool.or_true,go_sem])
    simp[vb,hk];simp only[fh,ar,bw,aa,hk,List.map]at hf;exact hf
   iterate 7 first
    |refine⟨fun h=>by simp at h<;>omega,fun _=>?_⟩
    |refine⟨by simp[vb]<;>omega,by simp[vb]<;>omega,?_⟩
    |(refine bJ ?_;iterate 2 (try dsimp only[pj,sw,fh,ar,bw,aa,cX,zn,ze,aG,go_sem]))
   refine dS [(272,fun _=>some (.bool (decide (({ze with give:=e.give,tgt:=e.tgt}:Ev)=ze))))] [(65,{val:=some (.pv (.bool (eR e.act 0 255&&eR e.place 0 1024&&eR e.ser 1 1048576))),mem:=some ([fh e,fh e,bw 1,gY (({ze with give:=e.give,tgt:=e.tgt}:Ev))])})] ?_;dsimp only[sx,fh,ar,bw,aa,cX,zn,ze,aG,gY,fC,go_sem];try dsimp only[fh,ar,bw,aa,cX,zn,ze,aG,gY,fC,go_sem]
   refine⟨(by simp[vb]<;>omega),?_,?_⟩
   ·exact⟨fun _ h=>h,fun h=>⟨trivial,⟨fun _=>h,fun _=>h,trivial⟩,hqe,trivial⟩,fun _=>⟨trivial,trivial,trivial⟩,fun _=>⟨⟨by omega,by omega,by omega,trivial⟩,trivial,trivial⟩,hm,trivial⟩
   refine bJ ?_;dsimp only[go_sem];refine⟨trivial,congrArg (fun b=>some (PV.bool b)) ?_⟩;simp only[ca]
  by_cases hk:e.kind=1
  ·rw[J0 e hk];have hm:=Dp e {ze with act:=e.act,give:=e.give,tgt:=e.tgt,place:=e.place,ser:=e.ser} he;have hqe:=pf (({ze with act:=e.act,place:=e.place,ser:=e.ser}:Ev)) ze rfl rfl;refine uY (show _=[fh e] by rw[fh,ar,hr0];rfl) ?_;refine cu [(45,{val:=some (.map 2 0),new:=[fh e,bw 1]}),ξ 47 (.int .i64 1)] ?_;dsimp only[ph,fh,ar,bw,aa,dn,gJ,bN,bY,bj,bP,Int.reduceBEq,Bool.cond_true,Bool.cond_false,Bool.true_or,Bool.false_or,Bool.or_true,go_sem]
   try dsimp only[fh,ar,bw,aa,dn,gJ,bN,bY,bj,bP,Int.reduceBEq,Bool.cond_true,Bool.cond_false,Bool.true_or,Bool.false_or,Bool.or_true,go_sem]
   refine⟨(by simp[vb,hk]<;>omega),?_,(by first|rfl|trivial),?_⟩
   ·iterate 3 (try dsimp only[fh,ar,bw,aa,dn,gJ,bN,bY,bj,bP,Int.reduceBEq,Bool.cond_true,Bool.cond_false,Bool.true_or,Bool.false_or,Bool.or_true,go_sem])
    simp[vb,hk];simp only[fh,ar,bw,aa,hk,List.map]at hf;exact hf
   iterate 7 first
    |refine⟨fun h=>by simp at h<;>omega,fun _=>?_⟩
    |refine⟨by simp[vb]<;>omega,by simp[vb]<;>omega,?_⟩
    |(refine bJ ?_;iterate 2 (try dsimp only[pj,sw,fh,ar,bw,aa,cX,zn,ze,aG,go_sem]))
   refine dS [(272,fun _=>some (.bool (decide (({ze with act:=e.act,place:=e.place,ser:=e.ser}:Ev)=ze))))] [(65,{val:=some (.pv (.bool (eR e.give.k 0 1&&eR e.give.e 0 (if e.give.k=1 then 5 else 0)&&eR e.give.i 0 1023&&eR e.give.a 1 1000000&&eR e.tgt 0 ((e.past.length:Int)-1)&&decide (e.tgt≠e.rep)))),mem:=some ([fh e,fh e,bw 1,gY (({ze with act:=e.act,place:=e.place,ser:=e.ser}:Ev))]++[⟨(cX e.give).map .pv,0,4,65,false⟩])})] ?_;dsimp only[sx,fh,ar,bw,aa,cX,zn,ze,aG,gY,fC,go_sem];try dsimp only[fh,ar,bw,aa,cX,zn,ze,aG,gY,fC,go_sem]
   refine⟨(by simp[vb]<;>omega),?_,?_⟩
   ·exact⟨fun _ h=>h,fun h=>⟨trivial,⟨fun _=>h,fun _=>h,trivial⟩,hqe,trivial⟩,fun _=>⟨trivial,trivial,trivial⟩,fun _=>⟨⟨by omega,by omega,by omega,trivial⟩,trivial,trivial⟩,hm,trivial⟩
   refine bJ ?_;dsimp only[go_sem];refine⟨trivial,congrArg (fun b=>some (PV.bool b)) ?_⟩;simp only[ca]
  by_cases hk:e.kind=2
  ·rw[J1 e hk];have hm:=Dn e {ze with act:=e.act,give:=e.give,tgt:=e.tgt,place:=e.place,ser:=e.ser};have hqe:=pf (({ze with act:=e.act,give:=e.give,tgt:=e.tgt}:Ev)) ze rfl rfl;refine uY (show _=[fh e] by rw[fh,ar,hr0];rfl) ?_;refine cu [(45,{val:=some (.map 2 0),new:=[fh e,bw 1]}),ξ 47 (.int .i64 2)] ?_;dsimp only[ph,fh,ar,bw,aa,dn,gJ,bN,bY,bj,bP,Int.reduceBEq,Bool.cond_true,Bool.cond_false,Bool.true_or,Bool.false_or,Bool.or_true,go_sem]
   try dsimp only[fh,ar,bw,aa,dn,gJ,bN,bY,bj,bP,Int.reduceBEq,Bool.cond_true,Bool.cond_false,Bool.true_or,Bool.false_or,Bool.or_true,go_sem]
   refine⟨(by simp[vb,hk]<;>omega),?_,(by first|rfl|trivial),?_⟩
   ·iterate 3 (try dsimp only[fh,ar,bw,aa,dn,gJ,bN,bY,bj,bP,Int.reduceBEq,Bool.cond_true,Bool.cond_false,Bool.true_or,Bool.false_or,Bool.or_true,go_sem])
    simp[vb,hk];simp only[fh,ar,bw,aa,hk,List.map]at hf;exact hf
   iterate 7 first
    |refine⟨fun h=>by simp at h<;>omega,fun _=>?_⟩
    |refine⟨by simp[vb]<;>omega,by simp[vb]<;>omega,?_⟩
    |(refine bJ ?_;iterate 2 (try dsimp only[pj,sw,fh,ar,bw,aa,cX,zn,ze,aG,go_sem]))
   refine dS [(272,fun _=>some (.bool (decide (({ze with act:=e.act,give:=e.give,tgt:=e.tgt}:Ev)=ze))))] [(65,{val:=some (.pv (.bool (eR e.place 1 1024&&eR e.ser 1 1048576))),mem:=some ([fh e,fh e,bw 1,gY (({ze with act:=e.act,give:=e.give,tgt:=e.tgt}:Ev))])})] ?_;dsimp only[sx,fh,ar,bw,aa,cX,zn,ze,aG,gY,fC,go_sem];try dsimp only[fh,ar,bw,aa,cX,zn,ze,aG,gY,fC,go_sem]
   refine⟨(by simp[vb]<;>omega),?_,?_⟩
   ·exact⟨fun _ h=>h,fun h=>⟨trivial,⟨fun _=>h,fun _=>h,trivial⟩,hqe,trivial⟩,fun _=>⟨trivial,trivial,trivial⟩,fun _=>⟨⟨by omega,by omega,by omega,trivial⟩,trivial,trivial⟩,hm,trivial⟩
   refine bJ ?_;dsimp only[go_sem];refine⟨trivial,congrArg (fun b=>some (PV.bool b)) ?_⟩;simp only[ca]
  rename_i hk0 hk1;rw[J2 e hk0 hk1 hk];refine uY (show _=[fh e] by rw[fh,ar,hr0];rfl) ?_;refine cu [(45,{val:=some (.map 2 0),new:=[fh e,bw 1]}),ξ 48 (.tup [.val .nilFunc,.bool false])] ?_;dsimp only[ph,fh,ar,bw,aa,dn,gJ,bj,go_sem];try dsimp only[fh,ar,bw,aa,dn,gJ,bj,go_sem]
  refine⟨(by simp[vb,hk]<;>omega),?_,(by first|rfl|trivial),?_⟩
  ·iterate 3 (try dsimp only[fh,ar,bw,aa,dn,gJ,bj,go_sem])
   have b0:(e.kind==0)=false:=by simpa using hk0
   have b1:(e.kind==1)=false:=by simpa using hk1
   have b2:(e.kind==2)=false:=by simpa using hk
   simp[vb,bN,bY,bP];simp only[fh,ar,bw,aa,List.map]at hf;refine⟨?_,hf⟩;rw[b0,b1,b2];rfl
  iterate 7 first
   |refine⟨fun _=>?_,fun h=>by simp at h<;>omega⟩
   |refine⟨by simp[vb]<;>omega,by simp[vb]<;>omega,?_⟩
   |(refine bJ ?_;iterate 2 (try dsimp only[pj,yB,go_sem]))
  exact⟨trivial,rfl⟩
 by_cases hq:eP e.past=true
 ·have hr:eR e.rep 0 ((e.past.length:Int)-1)=false:=by
   cases h:eR e.rep 0 ((e.past.length:Int)-1) with
   |false=>rfl
   |true=>exact absurd ⟨hq,h⟩ hc
  rw[hq]at hv;have hbr:=hb e.rep 0 ((e.past.length:Int)-1);rw[hr]at hbr;refine aj (C:=ctx) (Fn.of Dr rfl) rfl ?_;unfold Dq;refine bJ ?_;dsimp only[sr,ar,aa,go_sem];try dsimp only[ar,aa,go_sem]
  refine⟨(by simp[vb]<;>omega),(by simp[vb]<;>omega),?_⟩;refine cK ?_;refine dS [(209,fun _=>some (.bool true)),(270,fun l=>match l with|[.int .i64 x,.int .i64 a,.int .i64 b]=>some (.bool (eR x a b))|_=>none)] [ξ 28 (.int .i64 0)] ?_;dsimp only[uX,ar,aa,go_sem];try dsimp only[ar,aa,go_sem]
  refine⟨(by simp[vb,hb,hv,f1,hbr,hr]<;>omega),(by simp[vb,hb,hv,f1,hbr,hr]<;>omega),?_⟩;refine bJ ?_;dsimp only[go_sem];refine⟨fun hc=>?_,fun hc=>?_⟩;rotate_left
  ·exfalso;simp[hr]at hc
  refine bJ ?_;dsimp only[su,go_sem];try dsimp only[go_sem]
  refine⟨(by simp[vb]<;>omega),(by simp[vb]<;>omega),?_⟩;refine bJ ?_;dsimp only[go_sem];refine⟨trivial,congrArg (fun b=>some (PV.bool b)) ?_⟩;rw[hfo];simp[hr]
 have hq:eP e.past=false:=by simpa using hq
 rw[hq]at hv;refine aj (C:=ctx) (Fn.of Dr rfl) rfl ?_;unfold Dq;refine bJ ?_;dsimp only[sr,ar,aa,go_sem];try dsimp only[ar,aa,go_sem]
 refine⟨(by simp[vb]<;>omega),(by simp[vb]<;>omega),?_⟩;refine cK ?_;refine dS [(209,fun _=>some (.bool false)),(270,fun l=>match l with|[.int .i64 x,.int .i64 a,.int .i64 b]=>some (.bool (eR x a b))|_=>none)] [ξ 28 (.int .i64 0)] ?_;dsimp only[uX,ar,aa,go_sem];try dsimp only[ar,aa,go_sem]
 refine⟨(by simp[vb,hb,hv,f1,hq]<;>omega),(by simp[vb,hb,hv,f1,hq]<;>omega),?_⟩;refine bJ ?_;dsimp only[go_sem];refine⟨fun hc=>?_,fun hc=>?_⟩;rotate_left
 ·exfalso;simp[hq]at hc
 refine bJ ?_;dsimp only[su,go_sem];try dsimp only[go_sem]
 refine⟨(by simp[vb]<;>omega),(by simp[vb]<;>omega),?_⟩;refine bJ ?_;dsimp only[go_sem];refine⟨trivial,congrArg (fun b=>some (PV.bool b)) ?_⟩;rw[hfo];simp[hq]
end
section
open Tr
def KH:af:=(⟨_,by conv=>(lhs;reduce;try simp only[bD,Int.cast_ofNat_Int,Int.reduceNegSucc,UInt8.reduceOfNat])⟩:{x // codeOf Tryz.prog 41 (fun _=>false)=some x}).1
theorem MP:aD Tryz.prog 41 (fun _=>false)=some (KH,[.t 2],28,true):=by kernel_rfl
theorem mB (l:List En):(l.flatMap aJ).length=l.length*28:=bW aR l
theorem Ds (l:List En) (k:Nat) (hk:k≤l.length):((l.flatMap aJ).drop (0*28)).take (k*28)=(l.take k).flatMap aJ:=by
 rw[Nat.zero_mul,List.drop_zero];conv=>lhs;rw[←List.take_append_drop k l,List.flatMap_append]
 rw[List.take_append_of_le_length (by rw[mB,List.length_take];omega),List.take_of_length_le (by rw[mB,List.length_take];omega)]
def Em (reps ticks:Int) (s l:PV):dI:=⟨[.pv (.int .i64 reps),.pv (.int .i64 ticks),.pv s,.pv l],0,4,38,false⟩
def NZ (h:Hi):Nat→PV
 |0=>.sl h.l.length (h.l.flatMap aJ)
 |k+1=>.sl k ((h.l.take k).flatMap aJ)
def tf (h:Hi) (k:Nat):Bool:=decide (k<4096)&&fT h k
theorem yC (h:Hi) (hd:pB h=true):bS h=(List.range h.l.length).all (tf h):=by
 unfold bS;rw[hd,Bool.true_and,Bool.eq_iff_iff];simp only[Bool.and_eq_true,decide_eq_true_eq,List.all_eq_true,List.mem_range,tf];constructor
 ·rintro⟨h1,h2⟩ k hk;exact⟨by omega,h2 k hk⟩
 intro hh;refine⟨?_,fun k hk=>(hh k hk).2⟩;apply Classical.byContradiction;intro hn;have:=(hh (h.l.length-1) (by omega)).1;omega
theorem yD (h:Hi) (hs:h.state.length≤1000000000) (hl:h.l.length≤1000000000) (hf:∀k<h.l.length,ah ctx 106 [eA {h with l:=h.l.take k},bU (h.l.getD k zx)] (.bool (tf h k))):ah ctx 41 [eA h] (.bool (bS h)):=by
 have hh:=Fz h hs;have f1:=mB h.l;cases hd:pB h with
 |false =>
  rw[hd]at hh;unfold eA gy aa bp at hh;rw[show bS h=false by unfold bS;rw[hd];rfl];refine aj (C:=ctx) (Fn.of MP rfl) rfl ?_;unfold KH;repeat' (first|((with_reducible first|show aI _|show aP _);simp[vb,hh,f1]<;>omega)|exact(rfl:some _=_)|((fail_if_success refine aZ ?_);refine lA [(105,fun _=>some (.bool false))] ?_;(repeat1' dsimp only[KH,eA,gy,aa,bp,go_sem]);first|refine ba ?_ ?_ rfl ?_|apply bb|apply bf|(refine bg (fun hc=>?_) fun hc=>?_<;>first|(cases hc;done)|(exfalso;simp[hh,f1]at hc<;>omega)|(try simp only[bn]at hc;try contradiction))|skip))
 |true =>
  rw[hd]at hh;unfold eA gy aa bp at hh;rw[yC h hd];refine aj (C:=ctx) (Fn.of MP rfl) rfl ?_;unfold KH;repeat' (first|((with_reducible first|show aI _|show aP _);simp[vb,hh,f1]<;>omega)|exact(rfl:some _=_)|((fail_if_success refine aZ ?_);refine lA [(105,fun _=>some (.bool true))] ?_;(repeat1' dsimp only[KH,eA,gy,aa,bp,go_sem]);first|refine ba ?_ ?_ rfl ?_|apply bb|apply bf|(refine bg (fun hc=>?_) fun hc=>?_<;>first|(cases hc;done)|(exfalso;simp[hh,f1]at hc<;>omega)|(try simp only[bn]at hc;try contradiction))|skip))
  refine de h.l.length (fun k=>∀j<k,tf h j=true) (fun k=>[(1,.ptr 0 0 0),(3,.ptr 1 0 0),(11,.pv (.sl h.l.length (h.l.flatMap aJ))),(12,.pv (.int .i64 h.l.length)),(13,.pv (.int .i64 k))]) (fun k=>[Em h.reps h.ticks (.sl h.state.length (h.state.map (.int .i64))) (.sl h.l.length (h.l.flatMap aJ)),Em h.reps h.ticks (.sl h.state.length (h.state.map (.int .i64))) (NZ h k)]) (fun j hj=>by omega) (by (repeat' (first|exact trivial|refine And.intro (by first|rfl|(simp[get,Nat.beq]<;>omega)|(dsimp only[get];congr 1<;>first|rfl|omega|(simp<;>omega))) ?_))) ⟨[],rfl⟩ (fun k=>⟨Nat.zero_le _,rfl,by cases k<;>rfl⟩) fun k hk hP=>?_
  by_cases hlt:k<h.l.length
  ·have e1:=dV aR h.l k zx hlt;have e2:=Ds h.l k hk;have hfk:=hf k hlt;have hno:tf h k=false→(List.range h.l.length).all (tf h)=false:=fun hb=>by
    cases hc:(List.range h.l.length).all (tf h) with
    |false=>rfl
    |true=>rw[List.all_eq_true.mp hc k (List.mem_range.mpr hlt)]at hb;cases hb
   unfold eA gy aa bp bU at hfk;simp only[List.length_take,show min k h.l.length=k by omega]at hfk;generalize hb:tf h k=b at *;generalize h.l.getD k zx=x at *;generalize hcp:NZ h k=cp at *;have hnx:NZ h (k+1)= .sl k ((h.l.take k).flatMap aJ):=rfl;generalize NZ h (k+1)=cp' at *;simp only[aJ,br,ar,aG,aC,ai,aa,List.cons_append,List.nil_append]at hfk;generalize h.l.flatMap aJ=L at *;generalize (h.l.take k).flatMap aJ=L2 at *;rw[Nat.zero_mul,List.drop_zero]at e2;iterate 5 first
    |refine⟨fun _=>?_,fun h=>by simp at h<;>omega⟩
    |refine⟨by simp[vb,hlt]<;>omega,by simp[vb,hlt]<;>omega,?_⟩
    |(refine bJ ?_;iterate 2 (try dsimp only[Em,go_sem]))
   refine cu [ξ 17 (.agg (aJ x))] ?_;dsimp only[Em,aJ,br,ar,aG,aC,ai,aa,go_sem];try dsimp only[Em,aJ,br,ar,aG,aC,ai,aa,go_sem]
   refine⟨(by simp[vb,f1,hlt,hl,e1,aJ,br,ar,aG,aC,ai,aa]<;>omega),(by simp[vb,f1,hlt,hl,e1,aJ,br,ar,aG,aC,ai,aa]<;>omega),?_⟩;refine cu [ξ 21 (.sl k L2)] ?_;dsimp only[Em,aJ,br,ar,aG,aC,ai,aa,go_sem];try dsimp only[Em,aJ,br,ar,aG,aC,ai,aa,go_sem]
   refine⟨(by simp[vb,f1,hlt,hl,e2]<;>omega),(by simp[vb,f1,hlt,hl,e2]<;>omega),?_⟩;refine lA [(106,fun _=>some (.bool b))] ?_;dsimp only[Em,aJ,br,ar,aG,aC,ai,aa,go_sem];try dsimp only[Em,aJ,br,ar,aG,aC,ai,aa,go_sem]
   refine⟨(by simp[vb,hfk]<;>omega),(by simp[vb,hfk]<;>omega),?_⟩;refine bJ ?_;dsimp only[go_sem];refine⟨fun hc=>?_,fun hc=>?_⟩
   ·refine bJ ?_;dsimp only[go_sem];try dsimp only[go_sem]
    refine⟨(by simp[vb]<;>omega),(by simp[vb]<;>omega),?_⟩;refine bJ ?_;dsimp only[go_sem];refine⟨trivial,congrArg (fun b=>some (PV.bool b)) ?_⟩;rw[hno (by simpa using hc)]
   refine bJ ?_;dsimp only[go_sem];refine bJ ?_;dsimp only[go_sem];try dsimp only[go_sem]
   refine⟨(by simp[vb,hl,hlt]<;>omega),(by simp[vb,hl,hlt]<;>omega),?_⟩;refine⟨hlt,fun j hj=>?_,by (repeat' (first|exact trivial|refine And.intro (by first|rfl|(simp[get,Nat.beq]<;>omega)|(dsimp only[get];congr 1<;>first|rfl|omega|(simp<;>omega))) ?_)),?_⟩
   ·by_cases hjk:j=k
    ·subst hjk;rw[hb];simpa using hc
    exact hP j (by omega)
   rw[hnx];exact⟨_,rfl⟩
  obtain rfl:k=h.l.length:=by omega
  repeat' (first|((with_reducible show aI _);first|exact True.intro|(simp only[vb,lb];omega)|(simp only[vb,lb,hlt];and_intros<;>first|omega|(simp<;>omega))|(simp[vb,hlt]<;>omega))|((with_reducible show aP _);first|exact True.intro|((try dsimp only[go_sem]);first|(simp[vb,hlt]<;>omega)|(simp only[vb,and_true,true_implies];(repeat' (first|(with_reducible assumption)|(with_reducible apply And.intro)|intro _|((fail_if_success (with_reducible show(_:Int)≤_));assumption)))<;>first|omega|rfl|(simp only[ab,hlt];done)|(simp[Nat.mul_one,hlt]<;>omega)|(simp_all;done))))|exact(rfl:some _=_)|((fail_if_success refine aZ ?_);refine bJ ?_;(repeat1' dsimp only[KH,Em,go_sem]);first|refine ba ?_ ?_ rfl ?_|apply bb|apply bf|(refine bg (fun hc=>?_) fun hc=>?_<;>first|(cases hc;done)|(exfalso;first|(simp at hc<;>omega)|(simp[hlt]at hc;done))|(try simp only[bn]at hc;try contradiction))|skip))
  refine congrArg (fun b=>some (PV.bool b)) ?_;exact(List.all_eq_true.mpr fun j hj=>hP j (List.mem_range.mp hj)).symm
end
section
open Tr
def uZ:List bx:=[
 ⟨(some 2),.box 38 (.t 0) 4,none⟩,
 ⟨(some 3),.box 71 (.t 1) 28,none⟩,
 ⟨(some 4),.mv (.c (.bool false)),none⟩]
def u4:List bx:=[
 ⟨(some 7),.fieldAddr (.t 2) 3,none⟩,
 ⟨(some 8),.load (.t 7) 1 false,none⟩,
 ⟨(some 9),.len (.t 8),none⟩,
 ⟨(some 5),.mv (.t 9),none⟩]
def yE:List bx:=[
 ⟨(some 10),.mv (.t 5),none⟩,
 ⟨(some 11),.bin .geq (.t 10) (.c (.int .i64 4096)),none⟩,
 ⟨(some 12),.mv (.t 11),none⟩,
 ⟨(some 13),.fieldAddr (.t 3) 1,some (12,false)⟩,
 ⟨(some 14),.load (.t 13) 1 false,some (12,false)⟩,
 ⟨(some 15),.call 205 [(.t 14)],some (12,false)⟩,
 ⟨(some 16),.un .not (.t 15),some (12,false)⟩,
 ⟨(some 17),.pick (.t 12) (.c (.bool true)) (.t 16),none⟩,
 ⟨(some 18),.mv (.t 17),none⟩,
 ⟨(some 19),.fieldAddr (.t 3) 0,some (18,false)⟩,
 ⟨(some 20),.load (.t 19) 1 false,some (18,false)⟩,
 ⟨(some 21),.bin .lss (.t 20) (.c (.int .i64 0)),some (18,false)⟩,
 ⟨(some 22),.pick (.t 18) (.c (.bool true)) (.t 21),none⟩,
 ⟨(some 23),.mv (.t 22),none⟩,
 ⟨(some 24),.fieldAddr (.t 3) 0,some (23,false)⟩,
 ⟨(some 25),.load (.t 24) 1 false,some (23,false)⟩,
 ⟨(some 26),.fieldAddr (.t 2) 1,some (23,false)⟩,
 ⟨(some 27),.load (.t 26) 1 false,some (23,false)⟩,
 ⟨(some 28),.bin .geq (.t 25) (.t 27),some (23,false)⟩,
 ⟨(some 29),.pick (.t 23) (.c (.bool true)) (.t 28),none⟩,
 ⟨(some 30),.mv (.t 29),none⟩,
 ⟨(some 31),.mv (.t 5),some (30,false)⟩,
 ⟨(some 32),.bin .gtr (.t 31) (.c (.int .i64 0)),some (30,false)⟩,
 ⟨(some 33),.mv (.t 32),some (30,false)⟩,
 ⟨(some 34),.fieldAddr (.t 2) 3,some (33,true)⟩,
 ⟨(some 35),.load (.t 34) 1 false,some (33,true)⟩,
 ⟨(some 36),.mv (.t 5),some (33,true)⟩,
 ⟨(some 37),.bin .sub (.t 36) (.c (.int .i64 1)),some (33,true)⟩,
 ⟨(some 38),.indexSl (.t 35) (.t 37) 28,some (33,true)⟩,
 ⟨(some 39),.fieldAddr (.t 38) 0,some (33,true)⟩,
 ⟨(some 40),.load (.t 39) 1 false,some (33,true)⟩,
 ⟨(some 41),.fieldAddr (.t 3) 0,some (33,true)⟩,
 ⟨(some 42),.load (.t 41) 1 false,some (33,true)⟩,
 ⟨(some 43),.bin .gtr (.t 40) (.t 42),some (33,true)⟩,
 ⟨(some 44),.pick (.t 33) (.t 43) (.c (.bool false)),some (30,false)⟩,
 ⟨(some 45),.pick (.t 30) (.c (.bool true)) (.t 44),none⟩,
 ⟨(some 46),.mv (.t 45),none⟩,
 ⟨(some 47),.fieldAddr (.t 3) 2,some (46,false)⟩,
 ⟨(some 48),.load (.t 47) 1 false,some (46,false)⟩,
 ⟨(some 49),.bin .lss (.t 48) (.c (.int .i64 0)),some (46,false)⟩,
 ⟨(some 50),.pick (.t 46) (.c (.bool true)) (.t 49),none⟩,
 ⟨(some 51),.mv (.t 50),none⟩,
 ⟨(some 52),.fieldAddr (.t 3) 2,some (51,false)⟩,
 ⟨(some 53),.load (.t 52) 1 false,some (51,false)⟩,
 ⟨(some 54),.fieldAddr (.t 2) 0,some (51,false)⟩,
 ⟨(some 55),.load (.t 54) 1 false,some (51,false)⟩,
 ⟨(some 56),.bin .geq (.t 53) (.t 55),some (51,false)⟩,
 ⟨(some 57),.pick (.t 51) (.c (.bool true)) (.t 56),none⟩]
def u5:List bx:=[
 ⟨(some 4),.mv (.c (.bool false)),none⟩]
def yF:List bx:=[
 ⟨(some 58),.load (.t 3) 28 true,none⟩,
 ⟨(some 59),.load (.t 3) 28 true,none⟩,
 ⟨(some 60),.call 207 [(.t 59)],none⟩,
 ⟨(some 61),.call 206 [(.t 58),(.t 60)],none⟩,
 ⟨(some 62),.un .not (.t 61),none⟩,
 ⟨(some 63),.mv (.t 62),none⟩,
 ⟨(some 64),.load (.t 3) 28 true,some (63,false)⟩,
 ⟨(some 65),.call 208 [(.t 64)],some (63,false)⟩,
 ⟨(some 66),.call 204 [(.t 65)],some (63,false)⟩,
 ⟨(some 67),.un .not (.t 66),some (63,false)⟩,
 ⟨(some 68),.pick (.t 63) (.c (.bool true)) (.t 67),none⟩]
def u6:List bx:=[
 ⟨(some 4),.mv (.c (.bool false)),none⟩]
def u7:List bx:=[
 ⟨(some 69),.fieldAddr (.t 3) 1,none⟩,
 ⟨(some 70),.load (.t 69) 1 false,none⟩,
 ⟨(some 71),.bin .eql (.t 70) (.c (.int .i64 3)),none⟩,
 ⟨(some 72),.mv (.t 71),none⟩,
 ⟨(some 73),.fieldAddr (.t 3) 1,some (72,false)⟩,
 ⟨(some 74),.load (.t 73) 1 false,some (72,false)⟩,
 ⟨(some 75),.bin .eql (.t 74) (.c (.int .i64 6)),some (72,false)⟩,
 ⟨(some 76),.pick (.t 72) (.c (.bool true)) (.t 75),none⟩,
 ⟨(some 6),.mv (.t 76),none⟩]
def u9:List bx:=[
 ⟨(some 78),.fieldAddr (.t 3) 1,none⟩,
 ⟨(some 79),.load (.t 78) 1 false,none⟩,
 ⟨(some 80),.bin .eql (.t 79) (.c (.int .i64 2)),none⟩,
 ⟨(some 81),.mv (.t 80),none⟩,
 ⟨(some 82),.fieldAddr (.t 3) 12,some (81,true)⟩,
 ⟨(some 83),.load (.t 82) 13 true,some (81,true)⟩,
 ⟨(some 84),.call 159 [(.t 83)],some (81,true)⟩,
 ⟨(some 85),.un .not (.t 84),some (81,true)⟩,
 ⟨(some 86),.mv (.t 85),some (81,true)⟩,
 ⟨(some 87),.fieldAddr (.t 3) 12,some (86,false)⟩,
 ⟨(some 88),.fieldAddr (.t 87) 3,some (86,false)⟩,
 ⟨(some 89),.load (.t 88) 1 false,some (86,false)⟩,
 ⟨(some 90),.len (.t 89),some (86,false)⟩,
 ⟨(some 91),.fieldAddr (.t 2) 0,some (86,false)⟩,
 ⟨(some 92),.load (.t 91) 1 false,some (86,false)⟩,
 ⟨(some 93),.bin .neq (.t 90) (.t 92),some (86,false)⟩,
 ⟨(some 94),.pick (.t 86) (.c (.bool true)) (.t 93),some (81,true)⟩,
 ⟨(some 95),.pick (.t 81) (.t 94) (.c (.bool false)),none⟩,
 ⟨(some 77),.mv (.t 95),none⟩]
def va:List bx:=[
 ⟨(some 4),.mv (.c (.bool false)),none⟩]
def vd:List bx:=[
 ⟨(some 97),.mv (.t 6),none⟩,
 ⟨(some 98),.mv (.t 97),none⟩,
 ⟨(some 99),.fieldAddr (.t 3) 27,some (98,true)⟩,
 ⟨(some 100),.load (.t 99) 1 false,some (98,true)⟩,
 ⟨(some 101),.call 209 [(.t 100)],some (98,true)⟩,
 ⟨(some 102),.un .not (.t 101),some (98,true)⟩,
 ⟨(some 103),.mv (.t 102),some (98,true)⟩,
 ⟨(some 104),.fieldAddr (.t 3) 27,some (103,false)⟩,
 ⟨(some 105),.load (.t 104) 1 false,some (103,false)⟩,
 ⟨(some 106),.len (.t 105),some (103,false)⟩,
 ⟨(some 107),.fieldAddr (.t 2) 0,some (103,false)⟩,
 ⟨(some 108),.load (.t 107) 1 false,some (103,false)⟩,
 ⟨(some 109),.bin .neq (.t 106) (.t 108),some (103,false)⟩,
 ⟨(some 110),.pick (.t 103) (.c (.bool true)) (.t 109),some (98,true)⟩,
 ⟨(some 111),.pick (.t 98) (.t 110) (.c (.bool false)),none⟩,
 ⟨(some 96),.mv (.t 111),none⟩]
def qj:List bx:=[
 ⟨(some 4),.mv (.c (.bool false)),none⟩]
def qk:List bx:=[
 ⟨(some 112),.fieldAddr (.t 3) 1,none⟩,
 ⟨(some 113),.load (.t 112) 1 false,none⟩,
 ⟨(some 114),.bin .neq (.t 113) (.c (.int .i64 3)),none⟩,
 ⟨(some 115),.mv (.t 114),none⟩,
 ⟨(some 116),.fieldAddr (.t 3) 26,some (115,false)⟩,
 ⟨(some 117),.load (.t 116) 1 false,some (115,false)⟩,
 ⟨(some 118),.len (.t 117),some (115,false)⟩,
 ⟨(some 119),.fieldAddr (.t 3) 25,some (115,false)⟩,
 ⟨(some 120),.load (.t 119) 1 false,some (115,false)⟩,
 ⟨(some 121),.len (.t 120),some (115,false)⟩,
 ⟨(some 122),.bin .eql (.t 118) (.t 121),some (115,false)⟩,
 ⟨(some 123),.pick (.t 115) (.c (.bool true)) (.t 122),none⟩,
 ⟨(some 4),.mv (.t 123),none⟩]
def FC:af:=(.seq (.region false uZ) (.seq (.region false u4) (.seq (.seq (.region true yE) (.cond (.t 57) (.seq (.region false u5) .ret) .skip)) (.seq (.seq (.region true yF) (.cond (.t 68) (.seq (.region false u6) .ret) .skip)) (.seq (.region false u7) (.seq (.block 0 (.seq (.region false u9) (.cond (.t 77) (.seq (.region false va) .ret) (.seq (.region false vd) (.cond (.t 96) (.seq (.region false qj) .ret) .skip))))) (.seq (.region false qk) .ret)))))))
theorem MQ:aD Tryz.prog 106 (fun _=>false)=some (FC,[.t 4],124,true):=by kernel_rfl
def wW (g:Hi) (x:En):Bool:=decide (g.l.length<4096)&&(decide (0≤x.kind)&&decide (x.kind≤9))&&decide (0≤x.tick)&&decide (x.tick<g.ticks)&&(decide (g.l.length=0)||decide ((g.l.getD (g.l.length-1) zx).tick≤x.tick))&&decide (0≤x.rep)&&decide (x.rep<g.reps)
theorem yG (g:Hi) (x:En) (hl:g.l.length≤1000000000) (hx:wV x) (ho:wV (bK x)) (hfl:(bz x).length≤1000000000) (hn:0≤x.kind→x.kind≤9→ah ctx 207 [bU x] (bU (bK x))) (hfd:0≤x.kind→x.kind≤9→ah ctx 208 [bU x] (aa (bz x))) (b:Bool) (hb:b=(wW g x&&decide (x=bK x)&&(bz x).all lD&&jX g.reps x)):ah ctx 106 [eA g,bU x] (.bool b):=by
 have f1:=mB g.l;have hk:=De x.kind;obtain⟨tl,htl⟩:∃tl,tl=(g.l.getD (g.l.length-1) zx).tick:=⟨_,rfl⟩
 have e1:0<g.l.length→(g.l.flatMap aJ)[(g.l.length-1)*28+0]?.getD default= .int .i64 tl:=fun h=>by
  rw[db aR g.l (g.l.length-1) zx 0 (by omega) (by omega),htl];rfl
 generalize hL:g.l.flatMap aJ=L at *;refine aj (C:=ctx) (Fn.of MQ rfl) rfl ?_;unfold FC;refine bJ ?_;dsimp only[uZ,eA,gy,aa,bp,bU,aJ,br,ar,aG,aC,ai,go_sem];try dsimp only[eA,gy,aa,bp,bU,aJ,br,ar,aG,aC,ai,go_sem]
 refine⟨(by simp[vb]<;>omega),(by simp[vb]<;>omega),?_⟩;refine bJ ?_;dsimp only[u4,eA,gy,aa,bp,bU,aJ,br,ar,aG,aC,ai,go_sem];try dsimp only[eA,gy,aa,bp,bU,aJ,br,ar,aG,aC,ai,go_sem]
 refine⟨(by simp[vb]<;>omega),(by simp[vb]<;>omega),?_⟩;rw[hL];refine cK ?_;refine cK ?_;refine lT (T:=[(205,fun _=>some (.bool (decide (0≤x.kind)&&decide (x.kind≤9))))]) (H:=[ξ 40 (.int .i64 tl)]) ?_;dsimp only[FC,uZ,u4,yE,u5,yF,u6,u7,u9,va,vd,qj,qk,aa,go_sem];iterate 2 (try dsimp only[aa,go_sem])
 refine⟨trivial,?_,?_⟩
 ·have hnl:g.l=[]↔g.l.length=0:=List.length_eq_zero_iff.symm;simp[vb,hk];simp only[hnl];and_intros;all_goals first
   |omega
   |(intros;and_intros<;>first|omega|(simpa using e1 (by omega)))
 refine bJ ?_;dsimp only[go_sem];refine⟨fun hc=>?_,fun hc=>?_⟩
 ·refine bJ ?_;dsimp only[u5,go_sem];try dsimp only[go_sem]
  refine⟨(by simp[vb]<;>omega),(by simp[vb]<;>omega),?_⟩;refine bJ ?_;dsimp only[go_sem];refine⟨trivial,congrArg (fun b=>some (PV.bool b)) ?_⟩;have hp:wW g x=false:=by
   unfold wW;rw[←htl];rw[Bool.eq_false_iff];intro h;simp only[Bool.and_eq_true,Bool.or_eq_true,decide_eq_true_eq]at h;obtain⟨⟨⟨⟨⟨⟨h1,h2,h3⟩,h4⟩,h5⟩,h6⟩,h7⟩,h8⟩:=h;simp[cond_eq_ite]at hc;omega
  rw[hb,hp];rfl
 refine bJ ?_;dsimp only[go_sem];have hp:wW g x=true:=by
  unfold wW;rw[←htl];simp only[Bool.and_eq_true,Bool.or_eq_true,decide_eq_true_eq];simp[cond_eq_ite]at hc;omega
 have hk09:0≤x.kind∧x.kind≤9:=by
  unfold wW at hp;simp only[Bool.and_eq_true,Bool.or_eq_true,decide_eq_true_eq]at hp;exact hp.1.1.1.1.1.2
 replace hn:=hn hk09.1 hk09.2;replace hfd:=hfd hk09.1 hk09.2;rw[hp,Bool.true_and]at hb;clear hc hp hk09;have hsm:=FB x (bK x) hx ho;have hrg:=tO (bz x) hfl;generalize decide (x=bK x)=s at *;generalize (bz x).all lD=r at *;refine dy [(2,.ptr 0 0 0),(3,.ptr 1 0 0)] (by (repeat' (first|exact trivial|refine And.intro (by first|rfl|(simp[get,Nat.beq]<;>omega)|(dsimp only[get];congr 1<;>first|rfl|omega|(simp<;>omega))) ?_))) ?_;refine cK ?_;refine cK ?_
 refine lT (T:=[(207,fun _=>some (.agg (aJ (bK x)))),(206,fun _=>some (.bool s)),(208,fun _=>some (.sl (bz x).length ((bz x).map (.int .i64)))),(204,fun _=>some (.bool r))]) (H:=[]) ?_;dsimp only[FC,uZ,u4,yE,u5,yF,u6,u7,u9,va,vd,qj,qk,aa,go_sem];iterate 2 (try dsimp only[aa,go_sem])
 refine⟨by simp[vb],?_,?_⟩
 ·repeat' (first|exact trivial|exact hn|exact hsm|exact hfd|exact hrg|apply And.intro|intro _|omega|(simp_all;done))
 refine bJ ?_;dsimp only[go_sem];refine⟨fun hc=>?_,fun hc=>?_⟩
 ·refine bJ ?_;dsimp only[u6,go_sem];try dsimp only[go_sem]
  refine⟨(by simp[vb]<;>omega),(by simp[vb]<;>omega),?_⟩;refine bJ ?_;dsimp only[go_sem];refine⟨trivial,congrArg (fun b=>some (PV.bool b)) ?_⟩;rw[hb];cases s<;>cases r<;>simp_all
 refine bJ ?_;dsimp only[go_sem];have hsr:s=true∧r=true:=by cases s<;>cases r<;>simp_all
 obtain⟨rfl,rfl⟩:=hsr;clear hc hsm hrg hn hfd;rw[Bool.true_and,Bool.true_and]at hb;have hfo:=tP x.ev hx.past;have hvc:=zN x.clk hx.clk;refine dy [(2,.ptr 0 0 0),(3,.ptr 1 0 0)] (by (repeat' (first|exact trivial|refine And.intro (by first|rfl|(simp[get,Nat.beq]<;>omega)|(dsimp only[get];congr 1<;>first|rfl|omega|(simp<;>omega))) ?_))) ?_;generalize hF:fS x.ev=F at *;generalize hC:eP x.clk=K at *
 have hb:b=(if x.kind=2 then F&&decide ((x.ev.past.length:Int)=g.reps) else if x.kind=3 then K&&decide ((x.clk.length:Int)=g.reps)&&decide (x.vals.length=x.qs.length) else if x.kind=6 then K&&decide ((x.clk.length:Int)=g.reps) else true):=by rw[hb,jX,hF,hC]
 refine bJ ?_;dsimp only[u7,aa,go_sem];try dsimp only[aa,go_sem]
 refine⟨(by simp[vb]<;>omega),(by simp[vb]<;>omega),?_⟩;refine lA [(159,fun _=>some (.bool F))] ?_;dsimp only[u9,aa,go_sem];try dsimp only[aa,go_sem]
 refine⟨(by simp[vb]<;>omega),?_,?_⟩
 ·repeat' (first|exact trivial|exact hfo|exact hvc|apply And.intro|intro _|omega|(simp_all;done))
 refine bJ ?_;dsimp only[go_sem];refine⟨fun hc=>?_,fun hc=>?_⟩
 ·refine bJ ?_;dsimp only[va,go_sem];try dsimp only[go_sem]
  refine⟨(by simp[vb]<;>omega),(by simp[vb]<;>omega),?_⟩;refine bJ ?_;dsimp only[go_sem];refine⟨trivial,congrArg (fun b=>some (PV.bool b)) ?_⟩;clear hfo hvc hF hC hx ho hfl f1 e1 hk htl hL;rw[hb];clear hb;by_cases k2:x.kind=2<;>by_cases k3:x.kind=3<;>by_cases k6:x.kind=6<;>cases F<;>cases K<;>simp_all
 refine lA [(209,fun _=>some (.bool K))] ?_;dsimp only[vd,aa,go_sem];try dsimp only[aa,go_sem]
 refine⟨(by simp[vb]<;>omega),?_,?_⟩
 ·repeat' (first|exact trivial|exact hfo|exact hvc|apply And.intro|intro _|omega|(simp_all;done))
 refine bJ ?_;dsimp only[go_sem];refine⟨fun hc=>?_,fun hc=>?_⟩
 ·refine bJ ?_;dsimp only[qj,go_sem];try dsimp only[go_sem]
  refine⟨(by simp[vb]<;>omega),(by simp[vb]<;>omega),?_⟩;refine bJ ?_;dsimp only[go_sem];refine⟨trivial,congrArg (fun b=>some (PV.bool b)) ?_⟩;clear hfo hvc hF hC hx ho hfl f1 e1 hk htl hL;rw[hb];clear hb;by_cases k2:x.kind=2<;>by_cases k3:x.kind=3<;>by_cases k6:x.kind=6<;>cases F<;>cases K<;>simp_all
 iterate 4 first
  |refine⟨by simp[vb]<;>omega,by simp[vb]<;>omega,?_⟩
  |(refine bJ ?_;iterate 2 (try dsimp only[qk,go_sem]))
 refine⟨trivial,congrArg (fun b=>some (PV.bool b)) ?_⟩;clear hfo hvc hF hC hx ho hfl f1 e1 hk htl hL;rw[hb];clear hb;by_cases k2:x.kind=2<;>by_cases k3:x.kind=3<;>by_cases k6:x.kind=6<;>cases F<;>cases K<;>simp_all;all_goals (rw[Bool.eq_iff_iff];simp only[beq_iff_eq,decide_eq_true_eq];omega)
end
section
open Tr
def kW:List bx:=[
 ⟨(some 1),.box 67 (.t 0) 13,none⟩,
 ⟨(some 2),.mv (.c (.bool false)),none⟩]
def kX:List bx:=[
 ⟨(some 6),.fieldAddr (.t 1) 3,none⟩,
 ⟨(some 7),.load (.t 6) 1 false,none⟩,
 ⟨(some 8),.call 217 [(.t 7)],none⟩,
 ⟨(some 9),.un .not (.t 8),none⟩,
 ⟨(some 10),.mv (.t 9),none⟩,
 ⟨(some 11),.fieldAddr (.t 1) 0,some (10,false)⟩,
 ⟨(some 12),.load (.t 11) 1 false,some (10,false)⟩,
 ⟨(some 13),.bin .lss (.t 12) (.c (.int .i64 0)),some (10,false)⟩,
 ⟨(some 14),.pick (.t 10) (.c (.bool true)) (.t 13),none⟩,
 ⟨(some 15),.mv (.t 14),none⟩,
 ⟨(some 16),.fieldAddr (.t 1) 0,some (15,false)⟩,
 ⟨(some 17),.load (.t 16) 1 false,some (15,false)⟩,
 ⟨(some 18),.fieldAddr (.t 1) 3,some (15,false)⟩,
 ⟨(some 19),.load (.t 18) 1 false,some (15,false)⟩,
 ⟨(some 20),.len (.t 19),some (15,false)⟩,
 ⟨(some 21),.bin .geq (.t 17) (.t 20),some (15,false)⟩,
 ⟨(some 22),.pick (.t 15) (.c (.bool true)) (.t 21),none⟩,
 ⟨(some 23),.mv (.t 22),none⟩,
 ⟨(some 24),.fieldAddr (.t 1) 1,some (23,false)⟩,
 ⟨(some 25),.load (.t 24) 1 false,some (23,false)⟩,
 ⟨(some 26),.fieldAddr (.t 1) 3,some (23,false)⟩,
 ⟨(some 27),.load (.t 26) 1 false,some (23,false)⟩,
 ⟨(some 28),.fieldAddr (.t 1) 0,some (23,false)⟩,
 ⟨(some 29),.load (.t 28) 1 false,some (23,false)⟩,
 ⟨(some 30),.indexSl (.t 27) (.t 29) 1,some (23,false)⟩,
 ⟨(some 31),.load (.t 30) 1 false,some (23,false)⟩,
 ⟨(some 32),.bin .add (.t 31) (.c (.int .i64 1)),some (23,false)⟩,
 ⟨(some 33),.bin .neq (.t 25) (.t 32),some (23,false)⟩,
 ⟨(some 34),.pick (.t 23) (.c (.bool true)) (.t 33),none⟩,
 ⟨(some 35),.mv (.t 34),none⟩,
 ⟨(some 36),.fieldAddr (.t 1) 1,some (35,false)⟩,
 ⟨(some 37),.load (.t 36) 1 false,some (35,false)⟩,
 ⟨(some 38),.bin .gtr (.t 37) (.c (.int .i64 1024)),some (35,false)⟩,
 ⟨(some 39),.pick (.t 35) (.c (.bool true)) (.t 38),none⟩,
 ⟨(some 40),.mv (.t 39),none⟩,
 ⟨(some 41),.fieldAddr (.t 1) 2,some (40,false)⟩,
 ⟨(some 42),.load (.t 41) 1 false,some (40,false)⟩,
 ⟨(some 43),.bin .lss (.t 42) (.c (.int .i64 1)),some (40,false)⟩,
 ⟨(some 44),.pick (.t 40) (.c (.bool true)) (.t 43),none⟩,
 ⟨(some 45),.mv (.t 44),none⟩,
 ⟨(some 46),.fieldAddr (.t 1) 2,some (45,false)⟩,
 ⟨(some 47),.load (.t 46) 1 false,some (45,false)⟩,
 ⟨(some 48),.bin .gtr (.t 47) (.c (.int .i64 1073741824)),some (45,false)⟩,
 ⟨(some 49),.pick (.t 45) (.c (.bool true)) (.t 48),none⟩]
def kY:List bx:=[
 ⟨(some 2),.mv (.c (.bool false)),none⟩]
def kZ:List bx:=[
 ⟨(some 50),.fieldAddr (.t 1) 6,none⟩,
 ⟨(some 51),.load (.t 50) 4 true,none⟩,
 ⟨(some 52),.build [(.int .i64 0),(.int .i64 0),(.int .i64 0),(.int .i64 0)] [],none⟩,
 ⟨(some 53),.eqA true [(0,0),(1,0),(2,0),(3,0)] (.t 51) (.t 52),none⟩,
 ⟨(some 54),.mv (.t 53),none⟩,
 ⟨(some 55),.fieldAddr (.t 1) 10,some (54,false)⟩,
 ⟨(some 56),.load (.t 55) 1 false,some (54,false)⟩,
 ⟨(some 57),.bin .neq (.t 56) (.c (.int .i64 0)),some (54,false)⟩,
 ⟨(some 58),.pick (.t 54) (.c (.bool true)) (.t 57),none⟩,
 ⟨(some 3),.mv (.t 58),none⟩]
def la:List bx:=[
 ⟨(some 59),.fieldAddr (.t 1) 11,none⟩,
 ⟨(some 60),.load (.t 59) 1 false,none⟩,
 ⟨(some 61),.bin .geq (.t 60) (.c (.int .i64 0)),none⟩,
 ⟨(some 62),.mv (.t 61),none⟩,
 ⟨(some 63),.fieldAddr (.t 1) 11,some (62,true)⟩,
 ⟨(some 64),.load (.t 63) 1 false,some (62,true)⟩,
 ⟨(some 65),.bin .leq (.t 64) (.c (.int .i64 1024)),some (62,true)⟩,
 ⟨(some 66),.pick (.t 62) (.t 65) (.c (.bool false)),none⟩,
 ⟨(some 67),.mv (.t 66),none⟩,
 ⟨(some 68),.fieldAddr (.t 1) 12,some (67,true)⟩,
 ⟨(some 69),.load (.t 68) 1 false,some (67,true)⟩,
 ⟨(some 70),.bin .geq (.t 69) (.c (.int .i64 1)),some (67,true)⟩,
 ⟨(some 71),.pick (.t 67) (.t 70) (.c (.bool false)),none⟩,
 ⟨(some 72),.mv (.t 71),none⟩,
 ⟨(some 73),.fieldAddr (.t 1) 12,some (72,true)⟩,
 ⟨(some 74),.load (.t 73) 1 false,some (72,true)⟩,
 ⟨(some 75),.bin .leq (.t 74) (.c (.int .i64 1048576)),some (72,true)⟩,
 ⟨(some 76),.pick (.t 72) (.t 75) (.c (.bool false)),none⟩,
 ⟨(some 4),.mv (.t 76),none⟩]
def ld:List bx:=[
 ⟨(some 77),.fieldAddr (.t 1) 4,none⟩,
 ⟨(some 78),.load (.t 77) 1 false,none⟩]
def lf:List bx:=[
 ⟨(some 80),.bin .eql (.t 78) (.c (.int .i64 0)),none⟩,
 ⟨(some 79),.mv (.t 80),none⟩]
def lg:List bx:=[
 ⟨(some 81),.mv (.t 3),none⟩,
 ⟨(some 82),.un .not (.t 81),none⟩,
 ⟨(some 83),.mv (.t 82),none⟩,
 ⟨(some 84),.mv (.t 4),some (83,true)⟩,
 ⟨(some 85),.pick (.t 83) (.t 84) (.c (.bool false)),none⟩,
 ⟨(some 86),.mv (.t 85),none⟩,
 ⟨(some 87),.fieldAddr (.t 1) 5,some (86,true)⟩,
 ⟨(some 88),.load (.t 87) 1 false,some (86,true)⟩,
 ⟨(some 89),.bin .geq (.t 88) (.c (.int .i64 0)),some (86,true)⟩,
 ⟨(some 90),.pick (.t 86) (.t 89) (.c (.bool false)),none⟩,
 ⟨(some 91),.mv (.t 90),none⟩,
 ⟨(some 92),.fieldAddr (.t 1) 5,some (91,true)⟩,
 ⟨(some 93),.load (.t 92) 1 false,some (91,true)⟩,
 ⟨(some 94),.bin .lss (.t 93) (.c (.int .i64 256)),some (91,true)⟩,
 ⟨(some 95),.pick (.t 91) (.t 94) (.c (.bool false)),none⟩,
 ⟨(some 2),.mv (.t 95),none⟩]
def lh:List bx:=[
 ⟨(some 97),.bin .eql (.t 78) (.c (.int .i64 2)),none⟩,
 ⟨(some 96),.mv (.t 97),none⟩]
def lj:List bx:=[
 ⟨(some 98),.mv (.t 3),none⟩,
 ⟨(some 99),.un .not (.t 98),none⟩,
 ⟨(some 100),.mv (.t 99),none⟩,
 ⟨(some 101),.mv (.t 4),some (100,true)⟩,
 ⟨(some 102),.pick (.t 100) (.t 101) (.c (.bool false)),none⟩,
 ⟨(some 103),.mv (.t 102),none⟩,
 ⟨(some 104),.fieldAddr (.t 1) 11,some (103,true)⟩,
 ⟨(some 105),.load (.t 104) 1 false,some (103,true)⟩,
 ⟨(some 106),.bin .geq (.t 105) (.c (.int .i64 1)),some (103,true)⟩,
 ⟨(some 107),.pick (.t 103) (.t 106) (.c (.bool false)),none⟩,
 ⟨(some 108),.mv (.t 107),none⟩,
 ⟨(some 109),.fieldAddr (.t 1) 5,some (108,true)⟩,
 ⟨(some 110),.load (.t 109) 1 false,some (108,true)⟩,
 ⟨(some 111),.bin .eql (.t 110) (.c (.int .i64 0)),some (108,true)⟩,
 ⟨(some 112),.pick (.t 108) (.t 111) (.c (.bool false)),none⟩,
 ⟨(some 2),.mv (.t 112),none⟩]
def ix:List bx:=[
 ⟨(some 114),.bin .eql (.t 78) (.c (.int .i64 1)),none⟩,
 ⟨(some 113),.mv (.t 114),none⟩]
def iy:List bx:=[
 ⟨(some 115),.fieldAddr (.t 1) 5,none⟩,
 ⟨(some 116),.load (.t 115) 1 false,none⟩,
 ⟨(some 117),.bin .neq (.t 116) (.c (.int .i64 0)),none⟩,
 ⟨(some 118),.mv (.t 117),none⟩,
 ⟨(some 119),.fieldAddr (.t 1) 11,some (118,false)⟩,
 ⟨(some 120),.load (.t 119) 1 false,some (118,false)⟩,
 ⟨(some 121),.bin .neq (.t 120) (.c (.int .i64 0)),some (118,false)⟩,
 ⟨(some 122),.pick (.t 118) (.c (.bool true)) (.t 121),none⟩,
 ⟨(some 123),.mv (.t 122),none⟩,
 ⟨(some 124),.fieldAddr (.t 1) 12,some (123,false)⟩,
 ⟨(some 125),.load (.t 124) 1 false,some (123,false)⟩,
 ⟨(some 126),.bin .neq (.t 125) (.c (.int .i64 0)),some (123,false)⟩,
 ⟨(some 127),.pick (.t 123) (.c (.bool true)) (.t 126),none⟩,
 ⟨(some 128),.mv (.t 127),none⟩,
 ⟨(some 129),.fieldAddr (.t 1) 6,some (128,false)⟩,
 ⟨(some 130),.fieldAddr (.t 129) 3,some (128,false)⟩,
 ⟨(some 131),.load (.t 130) 1 false,some (128,false)⟩,
 ⟨(some 132),.bin .lss (.t 131) (.c (.int .i64 1)),some (128,false)⟩,
 ⟨(some 133),.pick (.t 128) (.c (.bool true)) (.t 132),none⟩,
 ⟨(some 134),.mv (.t 133),none⟩,
 ⟨(some 135),.fieldAddr (.t 1) 6,some (134,false)⟩,
 ⟨(some 136),.fieldAddr (.t 135) 3,some (134,false)⟩,
 ⟨(some 137),.load (.t 136) 1 false,some (134,false)⟩,
 ⟨(some 138),.bin .gtr (.t 137) (.c (.int .i64 1000000)),some (134,false)⟩,
 ⟨(some 139),.pick (.t 134) (.c (.bool true)) (.t 138),none⟩,
 ⟨(some 140),.mv (.t 139),none⟩,
 ⟨(some 141),.fieldAddr (.t 1) 10,some (140,false)⟩,
 ⟨(some 142),.load (.t 141) 1 false,some (140,false)⟩,
 ⟨(some 143),.bin .lss (.t 142) (.c (.int .i64 0)),some (140,false)⟩,
 ⟨(some 144),.pick (.t 140) (.c (.bool true)) (.t 143),none⟩,
 ⟨(some 145),.mv (.t 144),none⟩,
 ⟨(some 146),.fieldAddr (.t 1) 10,some (145,false)⟩,
 ⟨(some 147),.load (.t 146) 1 false,some (145,false)⟩,
 ⟨(some 148),.fieldAddr (.t 1) 3,some (145,false)⟩,
 ⟨(some 149),.load (.t 148) 1 false,some (145,false)⟩,
 ⟨(some 150),.len (.t 149),some (145,false)⟩,
 ⟨(some 151),.bin .geq (.t 147) (.t 150),some (145,false)⟩,
 ⟨(some 152),.pick (.t 145) (.c (.bool true)) (.t 151),none⟩,
 ⟨(some 153),.mv (.t 152),none⟩,
 ⟨(some 154),.fieldAddr (.t 1) 10,some (153,false)⟩,
 ⟨(some 155),.load (.t 154) 1 false,some (153,false)⟩,
 ⟨(some 156),.fieldAddr (.t 1) 0,some (153,false)⟩,
 ⟨(some 157),.load (.t 156) 1 false,some (153,false)⟩,
 ⟨(some 158),.bin .eql (.t 155) (.t 157),some (153,false)⟩,
 ⟨(some 159),.pick (.t 153) (.c (.bool true)) (.t 158),none⟩]
def iz:List bx:=[
 ⟨(some 2),.mv (.c (.bool false)),none⟩]
def iA:List bx:=[
 ⟨(some 160),.fieldAddr (.t 1) 6,none⟩,
 ⟨(some 161),.fieldAddr (.t 160) 0,none⟩,
 ⟨(some 162),.load (.t 161) 3 true,none⟩,
 ⟨(some 5),.alloc 63 [(.int .i64 0),(.int .i64 0),(.int .i64 0)],none⟩,
 ⟨none,.store (.t 5) (.t 162) 3,none⟩]
def iB:List bx:=[
 ⟨(some 163),.fieldAddr (.t 5) 1,none⟩,
 ⟨(some 164),.load (.t 163) 1 false,none⟩,
 ⟨(some 165),.bin .lss (.t 164) (.c (.int .i64 0)),none⟩,
 ⟨(some 166),.mv (.t 165),none⟩,
 ⟨(some 167),.fieldAddr (.t 5) 1,some (166,false)⟩,
 ⟨(some 168),.load (.t 167) 1 false,some (166,false)⟩,
 ⟨(some 169),.bin .geq (.t 168) (.c (.int .i64 1024)),some (166,false)⟩,
 ⟨(some 170),.pick (.t 166) (.c (.bool true)) (.t 169),none⟩]
def iC:List bx:=[
 ⟨(some 2),.mv (.c (.bool false)),none⟩]
def iD:List bx:=[
 ⟨(some 171),.fieldAddr (.t 5) 0,none⟩,
 ⟨(some 172),.load (.t 171) 1 false,none⟩,
 ⟨(some 173),.bin .eql (.t 172) (.c (.int .i64 0)),none⟩,
 ⟨(some 174),.mv (.t 173),none⟩,
 ⟨(some 175),.fieldAddr (.t 5) 2,some (174,true)⟩,
 ⟨(some 176),.load (.t 175) 1 false,some (174,true)⟩,
 ⟨(some 177),.bin .eql (.t 176) (.c (.int .i64 0)),some (174,true)⟩,
 ⟨(some 178),.pick (.t 174) (.t 177) (.c (.bool false)),none⟩,
 ⟨(some 179),.mv (.t 178),none⟩,
 ⟨(some 180),.fieldAddr (.t 5) 0,some (179,false)⟩,
 ⟨(some 181),.load (.t 180) 1 false,some (179,false)⟩,
 ⟨(some 182),.bin .eql (.t 181) (.c (.int .i64 1)),some (179,false)⟩,
 ⟨(some 183),.mv (.t 182),some (179,false)⟩,
 ⟨(some 184),.fieldAddr (.t 5) 2,some (183,true)⟩,
 ⟨(some 185),.load (.t 184) 1 false,some (183,true)⟩,
 ⟨(some 186),.bin .geq (.t 185) (.c (.int .i64 0)),some (183,true)⟩,
 ⟨(some 187),.pick (.t 183) (.t 186) (.c (.bool false)),some (179,false)⟩,
 ⟨(some 188),.mv (.t 187),some (179,false)⟩,
 ⟨(some 189),.fieldAddr (.t 5) 2,some (188,true)⟩,
 ⟨(some 190),.load (.t 189) 1 false,some (188,true)⟩,
 ⟨(some 191),.bin .lss (.t 190) (.c (.int .i64 6)),some (188,true)⟩,
 ⟨(some 192),.pick (.t 188) (.t 191) (.c (.bool false)),some (179,false)⟩,
 ⟨(some 193),.pick (.t 179) (.c (.bool true)) (.t 192),none⟩,
 ⟨(some 2),.mv (.t 193),none⟩]
def iE:List bx:=[
 ⟨(some 2),.mv (.c (.bool false)),none⟩]
def sy:af:=(.seq (.region false kW) (.seq (.seq (.region true kX) (.cond (.t 49) (.seq (.region false kY) .ret) .skip)) (.seq (.region false kZ) (.seq (.region false la) (.seq (.seq (.region false ld) (.block 0 (.seq (.region false lf) (.cond (.t 79) (.seq (.region false lg) .ret) (.seq (.region false lh) (.cond (.t 96) (.seq (.region false lj) .ret) (.seq (.region false ix) (.cond (.t 113) (.seq (.seq (.region false iy) (.cond (.t 159) (.seq (.region false iz) .ret) .skip)) (.seq (.region false iA) (.seq (.seq (.region false iB) (.cond (.t 170) (.seq (.region false iC) .ret) .skip)) (.seq (.region false iD) .ret)))) .skip)))))))) (.seq (.region false iE) .ret))))))
theorem Hy:aD Tryz.prog 116 (fun _=>false)=some (sy,[.t 2],194,true):=by kernel_rfl
theorem mC {a b:Bool} (h:a=false):false=(a&&b):=by rw[h];rfl
theorem J3 {a b:Bool} (h:a=true):(a&&b)=b:=by rw[h];rfl
theorem J4 {l:List Int} (h:eP l=true) (k:Nat) (hk:k<l.length):0≤l.getD k 0∧l.getD k 0≤1024:=by
 simp only[eP,Bool.and_eq_true]at h;have:=List.all_eq_true.mp h.1.1 _ (bX (d:=0) hk);simpa only[o8,Bool.and_eq_true,decide_eq_true_eq]using this
theorem wX (e:Ev) (hl:e.past.length≤1000000000):ah ctx 116 [.agg (ar e)] (.bool (fS e)):=by
 have hx:=wP e.past hl;have f1:=aU e.past;have e1:0≤e.rep→e.rep<e.past.length→(e.past.map (PV.int .i64))[e.rep.toNat]?.getD default= .int .i64 (e.past.getD e.rep.toNat 0):=fun h1 h2=>ints_at e.past e.rep.toNat (by omega)
 have e3:eP e.past=true→0≤e.rep→e.rep<e.past.length→0≤e.past.getD e.rep.toNat 0∧e.past.getD e.rep.toNat 0≤1024:=fun h h1 h2=>J4 h _ (by omega)
 unfold aa at hx;have hg:fS e=(eP e.past&&((eR e.rep 0 ((e.past.length:Int)-1)&&decide (e.num=e.past.getD e.rep.toNat 0+1)&&decide (e.num≤1024)&&eR e.time 1 1073741824)&&jW e)):=by simp only[fS,Bool.and_assoc]
 rw[hg];clear hg;generalize eP e.past=q at *;obtain⟨rep,num,time,past,kind,act,⟨gk,gi,ge,ga⟩,tgt,place,ser⟩:=e;simp only at *;have e2:rep<0∨(past.length:Int)≤rep∨(past.map (PV.int .i64))[rep.toNat]?.getD default= .int .i64 (past.getD rep.toNat 0):=by
  by_cases h1:rep<0
  ·exact .inl h1
  by_cases h2:(past.length:Int)≤rep
  ·exact .inr (.inl h2)
  exact .inr (.inr (e1 (by omega) (by omega)))
 clear e1;generalize past.getD rep.toNat 0=pr at *;cases q with
 |false =>
  refine aj (C:=ctx) (Fn.of Hy rfl) rfl ?_;unfold sy;repeat' (first|((with_reducible show aI _);first|exact True.intro|(simp only[vb,lb];omega)|(simp only[vb,lb,hx,f1];and_intros<;>first|omega|(simp<;>omega))|(simp[vb,hx,f1]<;>omega))|((with_reducible show aP _);first|exact True.intro|((try dsimp only[go_sem]);first|(simp[vb,hx,f1]<;>omega)|(simp only[vb,and_true,true_implies];(repeat' (first|(with_reducible assumption)|(with_reducible apply And.intro)|intro _|((fail_if_success (with_reducible show(_:Int)≤_));assumption)))<;>first|omega|rfl|(simp only[ab,hx,f1];done)|(simp[Nat.mul_one,hx,f1]<;>omega)|(simp_all;done))))|exact(rfl:some _=_)|((fail_if_success refine aZ ?_);refine dS [(217,fun _=>some (.bool false))] [ξ 31 (.int .i64 pr)] ?_;(repeat1' dsimp only[sy,kW,kX,kY,kZ,la,ld,lf,lg,lh,lj,ix,iy,iz,iA,iB,iC,iD,iE,aa,ar,go_sem]);first|refine ba ?_ ?_ rfl ?_|apply bb|apply bf|(refine bg (fun hc=>?_) fun hc=>?_<;>first|(cases hc;done)|(exfalso;first|(simp at hc<;>omega)|(simp[hx,f1]at hc;done))|(try simp only[bn]at hc;try contradiction))|skip))
 |true =>
  simp only[Bool.true_and];refine aj (C:=ctx) (Fn.of Hy rfl) rfl ?_;unfold sy;by_cases c0:rep<0
  ·repeat' (first|((with_reducible show aI _);first|exact True.intro|(simp only[vb,lb];omega)|(simp only[vb,lb,hx,f1,e2,c0];and_intros<;>first|omega|(simp<;>omega))|(simp[vb,hx,f1,e2,c0]<;>omega))|((with_reducible show aP _);first|exact True.intro|((try dsimp only[go_sem]);first|(simp[vb,hx,f1,e2,c0]<;>omega)|(simp only[vb,and_true,true_implies];(repeat' (first|(with_reducible assumption)|(with_reducible apply And.intro)|intro _|((fail_if_success (with_reducible show(_:Int)≤_));assumption)))<;>first|omega|rfl|(simp only[ab,hx,f1,e2,c0];done)|(simp[Nat.mul_one,hx,f1,e2,c0]<;>omega)|(simp_all;done))))|exact(rfl:some _=_)|((fail_if_success refine aZ ?_);refine dS [(217,fun _=>some (.bool true))] [ξ 13 (.bool true),ξ 31 (.int .i64 pr)] ?_;(repeat1' dsimp only[sy,kW,kX,kY,kZ,la,ld,lf,lg,lh,lj,ix,iy,iz,iA,iB,iC,iD,iE,aa,ar,go_sem]);first|refine ba ?_ ?_ rfl ?_|apply bb|apply bf|(refine bg (fun hc=>?_) fun hc=>?_<;>first|(cases hc;done)|(exfalso;first|(simp at hc<;>omega)|(simp[hx,f1,e2,c0]at hc;done))|(try simp only[bn]at hc;try contradiction))|skip))
   exact congrArg (fun b=>some (PV.bool b)) (mC (by simp[eR];omega))
  by_cases c1:(past.length:Int)≤rep
  ·repeat' (first|((with_reducible show aI _);first|exact True.intro|(simp only[vb,lb];omega)|(simp only[vb,lb,hx,f1,e2,c0,c1];and_intros<;>first|omega|(simp<;>omega))|(simp[vb,hx,f1,e2,c0,c1]<;>omega))|((with_reducible show aP _);first|exact True.intro|((try dsimp only[go_sem]);first|(simp[vb,hx,f1,e2,c0,c1]<;>omega)|(simp only[vb,and_true,true_implies];(repeat' (first|(with_reducible assumption)|(with_reducible apply And.intro)|intro _|((fail_if_success (with_reducible show(_:Int)≤_));assumption)))<;>first|omega|rfl|(simp only[ab,hx,f1,e2,c0,c1];done)|(simp[Nat.mul_one,hx,f1,e2,c0,c1]<;>omega)|(simp_all;done))))|exact(rfl:some _=_)|((fail_if_success refine aZ ?_);refine dS [(217,fun _=>some (.bool true))] [ξ 13 (.bool false),ξ 21 (.bool true),ξ 31 (.int .i64 pr)] ?_;(repeat1' dsimp only[sy,kW,kX,kY,kZ,la,ld,lf,lg,lh,lj,ix,iy,iz,iA,iB,iC,iD,iE,aa,ar,go_sem]);first|refine ba ?_ ?_ rfl ?_|apply bb|apply bf|(refine bg (fun hc=>?_) fun hc=>?_<;>first|(cases hc;done)|(exfalso;first|(simp at hc<;>omega)|(simp[hx,f1,e2,c0,c1]at hc;done))|(try simp only[bn]at hc;try contradiction))|skip))
   exact congrArg (fun b=>some (PV.bool b)) (mC (by simp[eR];omega))
  have e2:=(e2.resolve_left c0).resolve_left c1;have e3:=e3 rfl (by omega) (by omega);by_cases c2:¬num=pr+1
  ·repeat' (first|((with_reducible show aI _);first|exact True.intro|(simp only[vb,lb];omega)|(simp only[vb,lb,hx,f1,e2,c0,c1,c2];and_intros<;>first|omega|(simp<;>omega))|(simp[vb,hx,f1,e2,c0,c1,c2]<;>omega))|((with_reducible show aP _);first|exact True.intro|((try dsimp only[go_sem]);first|(simp[vb,hx,f1,e2,c0,c1,c2]<;>omega)|(simp only[vb,and_true,true_implies];(repeat' (first|(with_reducible assumption)|(with_reducible apply And.intro)|intro _|((fail_if_success (with_reducible show(_:Int)≤_));assumption)))<;>first|omega|rfl|(simp only[ab,hx,f1,e2,c0,c1,c2];done)|(simp[Nat.mul_one,hx,f1,e2,c0,c1,c2]<;>omega)|(simp_all;done))))|exact(rfl:some _=_)|((fail_if_success refine aZ ?_);refine dS [(217,fun _=>some (.bool true))] [ξ 13 (.bool false),ξ 21 (.bool false),ξ 33 (.bool true),ξ 31 (.int .i64 pr)] ?_;(repeat1' dsimp only[sy,kW,kX,kY,kZ,la,ld,lf,lg,lh,lj,ix,iy,iz,iA,iB,iC,iD,iE,aa,ar,go_sem]);first|refine ba ?_ ?_ rfl ?_|apply bb|apply bf|(refine bg (fun hc=>?_) fun hc=>?_<;>first|(cases hc;done)|(exfalso;first|(simp at hc<;>omega)|(simp[hx,f1,e2,c0,c1,c2]at hc;done))|(try simp only[bn]at hc;try contradiction))|skip))
   exact congrArg (fun b=>some (PV.bool b)) (mC (by simp[eR];omega))
  by_cases c3:1024<num
  ·repeat' (first|((with_reducible show aI _);first|exact True.intro|(simp only[vb,lb];omega)|(simp only[vb,lb,hx,f1,e2,c0,c1,c2,c3];and_intros<;>first|omega|(simp<;>omega))|(simp[vb,hx,f1,e2,c0,c1,c2,c3]<;>omega))|((with_reducible show aP _);first|exact True.intro|((try dsimp only[go_sem]);first|(simp[vb,hx,f1,e2,c0,c1,c2,c3]<;>omega)|(simp only[vb,and_true,true_implies];(repeat' (first|(with_reducible assumption)|(with_reducible apply And.intro)|intro _|((fail_if_success (with_reducible show(_:Int)≤_));assumption)))<;>first|omega|rfl|(simp only[ab,hx,f1,e2,c0,c1,c2,c3];done)|(simp[Nat.mul_one,hx,f1,e2,c0,c1,c2,c3]<;>omega)|(simp_all;done))))|exact(rfl:some _=_)|((fail_if_success refine aZ ?_);refine dS [(217,fun _=>some (.bool true))] [ξ 13 (.bool false),ξ 21 (.bool false),ξ 33 (.bool false),ξ 38 (.bool true),ξ 31 (.int .i64 pr)] ?_;(repeat1' dsimp only[sy,kW,kX,kY,kZ,la,ld,lf,lg,lh,lj,ix,iy,iz,iA,iB,iC,iD,iE,aa,ar,go_sem]);first|refine ba ?_ ?_ rfl ?_|apply bb|apply bf|(refine bg (fun hc=>?_) fun hc=>?_<;>first|(cases hc;done)|(exfalso;first|(simp at hc<;>omega)|(simp[hx,f1,e2,c0,c1,c2,c3]at hc;done))|(try simp only[bn]at hc;try contradiction))|skip))
   exact congrArg (fun b=>some (PV.bool b)) (mC (by simp[eR];omega))
  by_cases c4:time<1
  ·repeat' (first|((with_reducible show aI _);first|exact True.intro|(simp only[vb,lb];omega)|(simp only[vb,lb,hx,f1,e2,c0,c1,c2,c3,c4];and_intros<;>first|omega|(simp<;>omega))|(simp[vb,hx,f1,e2,c0,c1,c2,c3,c4]<;>omega))|((with_reducible show aP _);first|exact True.intro|((try dsimp only[go_sem]);first|(simp[vb,hx,f1,e2,c0,c1,c2,c3,c4]<;>omega)|(simp only[vb,and_true,true_implies];(repeat' (first|(with_reducible assumption)|(with_reducible apply And.intro)|intro _|((fail_if_success (with_reducible show(_:Int)≤_));assumption)))<;>first|omega|rfl|(simp only[ab,hx,f1,e2,c0,c1,c2,c3,c4];done)|(simp[Nat.mul_one,hx,f1,e2,c0,c1,c2,c3,c4]<;>omega)|(simp_all;done))))|exact(rfl:some _=_)|((fail_if_success refine aZ ?_);refine dS [(217,fun _=>some (.bool true))] [ξ 13 (.bool false),ξ 21 (.bool false),ξ 33 (.bool false),ξ 38 (.bool false),ξ 43 (.bool true),ξ 31 (.int .i64 pr)] ?_;(repeat1' dsimp only[sy,kW,kX,kY,kZ,la,ld,lf,lg,lh,lj,ix,iy,iz,iA,iB,iC,iD,iE,aa,ar,go_sem]);first|refine ba ?_ ?_ rfl ?_|apply bb|apply bf|(refine bg (fun hc=>?_) fun hc=>?_<;>first|(cases hc;done)|(exfalso;first|(simp at hc<;>omega)|(simp[hx,f1,e2,c0,c1,c2,c3,c4]at hc;done))|(try simp only[bn]at hc;try contradiction))|skip))
   exact congrArg (fun b=>some (PV.bool b)) (mC (by simp[eR];omega))
  by_cases c5:1073741824<time
  ·repeat' (first|((with_reducible show aI _);first|exact True.intro|(simp only[vb,lb];omega)|(simp only[vb,lb,hx,f1,e2,c0,c1,c2,c3,c4,c5];and_intros<;>first|omega|(simp<;>omega))|(simp[vb,hx,f1,e2,c0,c1,c2,c3,c4,c5]<;>omega))|((with_reducible show aP _);first|exact True.intro|((try dsimp only[go_sem]);first|(simp[vb,hx,f1,e2,c0,c1,c2,c3,c4,c5]<;>omega)|(simp only[vb,and_true,true_implies];(repeat' (first|(with_reducible assumption)|(with_reducible apply And.intro)|intro _|((fail_if_success (with_reducible show(_:Int)≤_));assumption)))<;>first|omega|rfl|(simp only[ab,hx,f1,e2,c0,c1,c2,c3,c4,c5];done)|(simp[Nat.mul_one,hx,f1,e2,c0,c1,c2,c3,c4,c5]<;>omega)|(simp_all;done))))|exact(rfl:some _=_)|((fail_if_success refine aZ ?_);refine dS [(217,fun _=>some (.bool true))] [ξ 13 (.bool false),ξ 21 (.bool false),ξ 33 (.bool false),ξ 38 (.bool false),ξ 43 (.bool false),ξ 48 (.bool true),ξ 31 (.int .i64 pr)] ?_;(repeat1' dsimp only[sy,kW,kX,kY,kZ,la,ld,lf,lg,lh,lj,ix,iy,iz,iA,iB,iC,iD,iE,aa,ar,go_sem]);first|refine ba ?_ ?_ rfl ?_|apply bb|apply bf|(refine bg (fun hc=>?_) fun hc=>?_<;>first|(cases hc;done)|(exfalso;first|(simp at hc<;>omega)|(simp[hx,f1,e2,c0,c1,c2,c3,c4,c5]at hc;done))|(try simp only[bn]at hc;try contradiction))|skip))
   exact congrArg (fun b=>some (PV.bool b)) (mC (by simp[eR];omega))
  rw[J3 (by simp[eR];omega)];repeat' (first|((with_reducible show aI _);first|exact True.intro|(simp only[vb,lb];omega)|(simp only[vb,lb,hx,f1,e2,c0,c1,c2,c3,c4,c5];and_intros<;>first|omega|(simp<;>omega))|(simp[vb,hx,f1,e2,c0,c1,c2,c3,c4,c5]<;>omega))|((with_reducible show aP _);first|exact True.intro|((try dsimp only[go_sem]);first|(simp[vb,hx,f1,e2,c0,c1,c2,c3,c4,c5]<;>omega)|(simp only[vb,and_true,true_implies];(repeat' (first|(with_reducible assumption)|(with_reducible apply And.intro)|intro _|((fail_if_success (with_reducible show(_:Int)≤_));assumption)))<;>first|omega|rfl|(simp only[ab,hx,f1,e2,c0,c1,c2,c3,c4,c5];done)|(simp[Nat.mul_one,hx,f1,e2,c0,c1,c2,c3,c4,c5]<;>omega)|(simp_all;done))))|exact(rfl:some _=_)|((fail_if_success refine aZ ?_);refine dS [(217,fun _=>some (.bool true))] [ξ 13 (.bool false),ξ 21 (.bool false),ξ 33 (.bool false),ξ 38 (.bool false),ξ 43 (.bool false),ξ 48 (.bool false),ξ 31 (.int .i64 pr)] ?_;(repeat1' dsimp only[sy,kW,kX,kY,kZ,la,ld,lf,lg,lh,lj,ix,iy,iz,iA,iB,iC,iD,iE,aa,ar,go_sem]);first|refine ba ?_ ?_ rfl ?_|apply bb|apply bf|(refine bg (fun hc=>?_) fun hc=>?_<;>first|(cases hc;done)|(exfalso;first|(simp at hc<;>omega)|(simp[hx,f1,e2,c0,c1,c2,c3,c4,c5]at hc;done))|(try simp only[bn]at hc;try contradiction))|skip))
  all_goals
   clear hx f1 e2;refine congrArg (fun b=>some (PV.bool b)) ?_;rw[Bool.eq_iff_iff];simp only[cond_eq_ite,Bool.not_eq_true',Bool.and_true,jW,eR,zn];simp[*];try omega
end
section
open Tr
def Dt:af:=(⟨_,by conv=>(lhs;reduce;try simp only[bD,Int.cast_ofNat_Int,Int.reduceNegSucc,UInt8.reduceOfNat])⟩:{x // codeOf Tryz.prog 47 (fun _=>false)=some x}).1
theorem Ou:aD Tryz.prog 47 (fun _=>false)=some (Dt,[.t 4],91,true):=by kernel_rfl
theorem pn {r t:Int} {x:En} (h:x.tick<0∨t≤x.tick∨x.rep<0∨r≤x.rep∨x.kind<0∨9<x.kind):dF r t x=false:=by
 cases he:dF r t x with
 |false=>rfl
 |true =>
  simp only[dF,Bool.and_eq_true,decide_eq_true_eq]at he;obtain⟨⟨⟨⟨⟨⟨⟨⟨h1,h2⟩,h3⟩,h4⟩,h5⟩,h6⟩,-⟩,-⟩,-⟩:=he;omega
theorem Ov {r t:Int} {x:En} (h:decide (bV x=bV (bK x))=false):dF r t x=false:=by
 cases he:dF r t x with
 |false=>rfl
 |true =>
  simp only[dF,Bool.and_eq_true,decide_eq_true_eq]at he;exact absurd (congrArg bV he.1.1.2) (of_decide_eq_false h)
theorem MR {r t:Int} {x:En} (hx:bV x=bV (bK x)) (hk:x.kind<4611686018427387904∧ -4611686018427387904≤x.kind) (h:(bV x).all lD=false):dF r t x=false:=by
 rw[Cx (rL hx) hk]at h;simp only[dF,h,Bool.and_false,Bool.false_and]
theorem MS {r t:Int} {x:En} (h:¬x.tick<0∧¬t≤x.tick∧¬x.rep<0∧¬r≤x.rep∧¬x.kind<0∧¬9<x.kind) (hx:bV x=bV (bK x)) (hi:(bV x).all lD=true):dF r t x=jX r x:=by
 rw[Cx (rL hx) (by omega)]at hi;obtain⟨h1,h2,h3,h4,h5,h6⟩:=h;simp only[dF,hi,←rL hx,Bool.and_true];rw[decide_eq_true (by omega:0≤x.tick),decide_eq_true (by omega:x.tick<t),decide_eq_true (by omega:0≤x.rep),decide_eq_true (by omega:x.rep<r),decide_eq_true (by omega:0≤x.kind),decide_eq_true (by omega:x.kind≤9)];simp
theorem Bj (x:En):(bV (bK x)).length≤(bV x).length:=by
 rw[mm,mm];unfold bK;(repeat' split)<;>simp[zx,zo,ze,gX]<;>omega
theorem yH (h:Hi) (x:En) (hw:zK x):ah ctx 47 [eA h,bU x] (.bool (dF h.reps h.ticks x)):=by
 have hw1:=zL hw;have hw2:=zL (wO hw);have hw3:=hw.past;have hw4:=hw.clk;have hA:=rU x hw;have hO:=Ba x;have hB:=rU (bK x) (wO hw);have hS:=AQ (bV x) (bV (bK x)) (by omega) (by have:=Bj x;omega);have hI:=pH (bV x) (by omega);have hL:=mm x;have hF:=wX x.ev (by omega);have hC:=C6 x.clk h.reps (by omega);have f1:=aU (bV x);have f2:=aU (bV (bK x));obtain⟨qs,hQ⟩:∃q,q=decide (bV x=bV (bK x)):=⟨_,rfl⟩
 obtain⟨qi,hJ⟩:∃q,q=(bV x).all lD:=⟨_,rfl⟩
 rw[←hQ]at hS;rw[←hJ]at hI;obtain⟨y,hy⟩:∃y,y=bK x:=⟨_,rfl⟩
 rw[←hy]at hO hB hS f2;obtain⟨qf,hqf⟩:∃q,q=fS x.ev:=⟨_,rfl⟩
 rw[←hqf]at hF;obtain⟨qc,hqc⟩:∃q,q=(eP x.clk&&decide ((x.clk.length:Int)=h.reps)):=⟨_,rfl⟩
 rw[←hqc]at hC;unfold bU aJ br ar aG aC ai aa at hA hB;unfold bU aJ br ar aG aC ai aa at hO;unfold aa at hS hI hC;unfold ar aa at hF;simp only[List.cons_append,List.nil_append]at hA hB hO;refine aj (C:=ctx) (Fn.of Ou rfl) rfl ?_;unfold Dt;by_cases c0:x.tick<0
 ·rw[pn (by omega)];repeat' (first|((with_reducible show aI _);first|exact True.intro|(simp only[vb,lb];omega)|(simp only[vb,lb,hA,hO,hB,hS,hI,f1,f2,c0];and_intros<;>first|omega|(simp<;>omega))|(simp[vb,hA,hO,hB,hS,hI,f1,f2,c0]<;>omega))|((with_reducible show aP _);first|exact True.intro|((try dsimp only[go_sem]);first|(simp[vb,hA,hO,hB,hS,hI,f1,f2,c0]<;>omega)|(simp only[vb,and_true,true_implies];(repeat' (first|(with_reducible assumption)|(with_reducible apply And.intro)|intro _|((fail_if_success (with_reducible show(_:Int)≤_));assumption)))<;>first|omega|rfl|(simp only[ab,hA,hO,hB,hS,hI,f1,f2,c0];done)|(simp[Nat.mul_one,hA,hO,hB,hS,hI,f1,f2,c0]<;>omega)|(simp_all;done))))|exact(rfl:some _=_)|((fail_if_success refine aZ ?_);refine cu [ξ 7 (.bool true),ξ 39 (aa (bV x)),ξ 41 (bU y),ξ 42 (aa (bV y)),ξ 43 (.bool qs),ξ 48 (aa (bV x)),ξ 49 (.bool qi)] ?_;(repeat1' dsimp only[Dt,aa,bU,aJ,br,ar,aG,aC,ai,eA,gy,bp,go_sem]);first|refine ba ?_ ?_ rfl ?_|apply bb|apply bf|(refine bg (fun hc=>?_) fun hc=>?_<;>first|(cases hc;done)|(exfalso;first|(simp at hc<;>omega)|(simp[hA,hO,hB,hS,hI,f1,f2,c0]at hc;done))|(try simp only[bn]at hc;try contradiction))|skip))
 by_cases c1:h.ticks≤x.tick
 ·rw[pn (by omega)];repeat' (first|((with_reducible show aI _);first|exact True.intro|(simp only[vb,lb];omega)|(simp only[vb,lb,hA,hO,hB,hS,hI,f1,f2,c0,c1];and_intros<;>first|omega|(simp<;>omega))|(simp[vb,hA,hO,hB,hS,hI,f1,f2,c0,c1]<;>omega))|((with_reducible show aP _);first|exact True.intro|((try dsimp only[go_sem]);first|(simp[vb,hA,hO,hB,hS,hI,f1,f2,c0,c1]<;>omega)|(simp only[vb,and_true,true_implies];(repeat' (first|(with_reducible assumption)|(with_reducible apply And.intro)|intro _|((fail_if_success (with_reducible show(_:Int)≤_));assumption)))<;>first|omega|rfl|(simp only[ab,hA,hO,hB,hS,hI,f1,f2,c0,c1];done)|(simp[Nat.mul_one,hA,hO,hB,hS,hI,f1,f2,c0,c1]<;>omega)|(simp_all;done))))|exact(rfl:some _=_)|((fail_if_success refine aZ ?_);refine cu [ξ 7 (.bool false),ξ 13 (.bool true),ξ 39 (aa (bV x)),ξ 41 (bU y),ξ 42 (aa (bV y)),ξ 43 (.bool qs),ξ 48 (aa (bV x)),ξ 49 (.bool qi)] ?_;(repeat1' dsimp only[Dt,aa,bU,aJ,br,ar,aG,aC,ai,eA,gy,bp,go_sem]);first|refine ba ?_ ?_ rfl ?_|apply bb|apply bf|(refine bg (fun hc=>?_) fun hc=>?_<;>first|(cases hc;done)|(exfalso;first|(simp at hc<;>omega)|(simp[hA,hO,hB,hS,hI,f1,f2,c0,c1]at hc;done))|(try simp only[bn]at hc;try contradiction))|skip))
 by_cases c2:x.rep<0
 ·rw[pn (by omega)];repeat' (first|((with_reducible show aI _);first|exact True.intro|(simp only[vb,lb];omega)|(simp only[vb,lb,hA,hO,hB,hS,hI,f1,f2,c0,c1,c2];and_intros<;>first|omega|(simp<;>omega))|(simp[vb,hA,hO,hB,hS,hI,f1,f2,c0,c1,c2]<;>omega))|((with_reducible show aP _);first|exact True.intro|((try dsimp only[go_sem]);first|(simp[vb,hA,hO,hB,hS,hI,f1,f2,c0,c1,c2]<;>omega)|(simp only[vb,and_true,true_implies];(repeat' (first|(with_reducible assumption)|(with_reducible apply And.intro)|intro _|((fail_if_success (with_reducible show(_:Int)≤_));assumption)))<;>first|omega|rfl|(simp only[ab,hA,hO,hB,hS,hI,f1,f2,c0,c1,c2];done)|(simp[Nat.mul_one,hA,hO,hB,hS,hI,f1,f2,c0,c1,c2]<;>omega)|(simp_all;done))))|exact(rfl:some _=_)|((fail_if_success refine aZ ?_);refine cu [ξ 7 (.bool false),ξ 13 (.bool false),ξ 18 (.bool true),ξ 39 (aa (bV x)),ξ 41 (bU y),ξ 42 (aa (bV y)),ξ 43 (.bool qs),ξ 48 (aa (bV x)),ξ 49 (.bool qi)] ?_;(repeat1' dsimp only[Dt,aa,bU,aJ,br,ar,aG,aC,ai,eA,gy,bp,go_sem]);first|refine ba ?_ ?_ rfl ?_|apply bb|apply bf|(refine bg (fun hc=>?_) fun hc=>?_<;>first|(cases hc;done)|(exfalso;first|(simp at hc<;>omega)|(simp[hA,hO,hB,hS,hI,f1,f2,c0,c1,c2]at hc;done))|(try simp only[bn]at hc;try contradiction))|skip))
 by_cases c3:h.reps≤x.rep
 ·rw[pn (by omega)];repeat' (first|((with_reducible show aI _);first|exact True.intro|(simp only[vb,lb];omega)|(simp only[vb,lb,hA,hO,hB,hS,hI,f1,f2,c0,c1,c2,c3];and_intros<;>first|omega|(simp<;>omega))|(simp[vb,hA,hO,hB,hS,hI,f1,f2,c0,c1,c2,c3]<;>omega))|((with_reducible show aP _);first|exact True.intro|((try dsimp only[go_sem]);first|(simp[vb,hA,hO,hB,hS,hI,f1,f2,c0,c1,c2,c3]<;>omega)|(simp only[vb,and_true,true_implies];(repeat' (first|(with_reducible assumption)|(with_reducible apply And.intro)|intro _|((fail_if_success (with_reducible show(_:Int)≤_));assumption)))<;>first|omega|rfl|(simp only[ab,hA,hO,hB,hS,hI,f1,f2,c0,c1,c2,c3];done)|(simp[Nat.mul_one,hA,hO,hB,hS,hI,f1,f2,c0,c1,c2,c3]<;>omega)|(simp_all;done))))|exact(rfl:some _=_)|((fail_if_success refine aZ ?_);refine cu [ξ 7 (.bool false),ξ 13 (.bool false),ξ 18 (.bool false),ξ 25 (.bool true),ξ 39 (aa (bV x)),ξ 41 (bU y),ξ 42 (aa (bV y)),ξ 43 (.bool qs),ξ 48 (aa (bV x)),ξ 49 (.bool qi)] ?_;(repeat1' dsimp only[Dt,aa,bU,aJ,br,ar,aG,aC,ai,eA,gy,bp,go_sem]);first|refine ba ?_ ?_ rfl ?_|apply bb|apply bf|(refine bg (fun hc=>?_) fun hc=>?_<;>first|(cases hc;done)|(exfalso;first|(simp at hc<;>omega)|(simp[hA,hO,hB,hS,hI,f1,f2,c0,c1,c2,c3]at hc;done))|(try simp only[bn]at hc;try contradiction))|skip))
 by_cases c4:x.kind<0
 ·rw[pn (by omega)];repeat' (first|((with_reducible show aI _);first|exact True.intro|(simp only[vb,lb];omega)|(simp only[vb,lb,hA,hO,hB,hS,hI,f1,f2,c0,c1,c2,c3,c4];and_intros<;>first|omega|(simp<;>omega))|(simp[vb,hA,hO,hB,hS,hI,f1,f2,c0,c1,c2,c3,c4]<;>omega))|((with_reducible show aP _);first|exact True.intro|((try dsimp only[go_sem]);first|(simp[vb,hA,hO,hB,hS,hI,f1,f2,c0,c1,c2,c3,c4]<;>omega)|(simp only[vb,and_true,true_implies];(repeat' (first|(with_reducible assumption)|(with_reducible apply And.intro)|intro _|((fail_if_success (with_reducible show(_:Int)≤_));assumption)))<;>first|omega|rfl|(simp only[ab,hA,hO,hB,hS,hI,f1,f2,c0,c1,c2,c3,c4];done)|(simp[Nat.mul_one,hA,hO,hB,hS,hI,f1,f2,c0,c1,c2,c3,c4]<;>omega)|(simp_all;done))))|exact(rfl:some _=_)|((fail_if_success refine aZ ?_);refine cu [ξ 7 (.bool false),ξ 13 (.bool false),ξ 18 (.bool false),ξ 25 (.bool false),ξ 30 (.bool true),ξ 39 (aa (bV x)),ξ 41 (bU y),ξ 42 (aa (bV y)),ξ 43 (.bool qs),ξ 48 (aa (bV x)),ξ 49 (.bool qi)] ?_;(repeat1' dsimp only[Dt,aa,bU,aJ,br,ar,aG,aC,ai,eA,gy,bp,go_sem]);first|refine ba ?_ ?_ rfl ?_|apply bb|apply bf|(refine bg (fun hc=>?_) fun hc=>?_<;>first|(cases hc;done)|(exfalso;first|(simp at hc<;>omega)|(simp[hA,hO,hB,hS,hI,f1,f2,c0,c1,c2,c3,c4]at hc;done))|(try simp only[bn]at hc;try contradiction))|skip))
 by_cases c5:9<x.kind
 ·rw[pn (by omega)];repeat' (first|((with_reducible show aI _);first|exact True.intro|(simp only[vb,lb];omega)|(simp only[vb,lb,hA,hO,hB,hS,hI,f1,f2,c0,c1,c2,c3,c4,c5];and_intros<;>first|omega|(simp<;>omega))|(simp[vb,hA,hO,hB,hS,hI,f1,f2,c0,c1,c2,c3,c4,c5]<;>omega))|((with_reducible show aP _);first|exact True.intro|((try dsimp only[go_sem]);first|(simp[vb,hA,hO,hB,hS,hI,f1,f2,c0,c1,c2,c3,c4,c5]<;>omega)|(simp only[vb,and_true,true_implies];(repeat' (first|(with_reducible assumption)|(with_reducible apply And.intro)|intro _|((fail_if_success (with_reducible show(_:Int)≤_));assumption)))<;>first|omega|rfl|(simp only[ab,hA,hO,hB,hS,hI,f1,f2,c0,c1,c2,c3,c4,c5];done)|(simp[Nat.mul_one,hA,hO,hB,hS,hI,f1,f2,c0,c1,c2,c3,c4,c5]<;>omega)|(simp_all;done))))|exact(rfl:some _=_)|((fail_if_success refine aZ ?_);refine cu [ξ 7 (.bool false),ξ 13 (.bool false),ξ 18 (.bool false),ξ 25 (.bool false),ξ 30 (.bool false),ξ 35 (.bool true),ξ 39 (aa (bV x)),ξ 41 (bU y),ξ 42 (aa (bV y)),ξ 43 (.bool qs),ξ 48 (aa (bV x)),ξ 49 (.bool qi)] ?_;(repeat1' dsimp only[Dt,aa,bU,aJ,br,ar,aG,aC,ai,eA,gy,bp,go_sem]);first|refine ba ?_ ?_ rfl ?_|apply bb|apply bf|(refine bg (fun hc=>?_) fun hc=>?_<;>first|(cases hc;done)|(exfalso;first|(simp at hc<;>omega)|(simp[hA,hO,hB,hS,hI,f1,f2,c0,c1,c2,c3,c4,c5]at hc;done))|(try simp only[bn]at hc;try contradiction))|skip))
 cases hqs:qs with
 |false =>
  rw[hqs]at hS hQ;rw[Ov hQ.symm];clear hI;repeat' (first|((with_reducible show aI _);first|exact True.intro|(simp only[vb,lb];omega)|(simp only[vb,lb,hA,hO,hB,hS,f1,f2,c0,c1,c2,c3,c4,c5];and_intros<;>first|omega|(simp<;>omega))|(simp[vb,hA,hO,hB,hS,f1,f2,c0,c1,c2,c3,c4,c5]<;>omega))|((with_reducible show aP _);first|exact True.intro|((try dsimp only[go_sem]);first|(simp[vb,hA,hO,hB,hS,f1,f2,c0,c1,c2,c3,c4,c5]<;>omega)|(simp only[vb,and_true,true_implies];(repeat' (first|(with_reducible assumption)|(with_reducible apply And.intro)|intro _|((fail_if_success (with_reducible show(_:Int)≤_));assumption)))<;>first|omega|rfl|(simp only[ab,hA,hO,hB,hS,f1,f2,c0,c1,c2,c3,c4,c5];done)|(simp[Nat.mul_one,hA,hO,hB,hS,f1,f2,c0,c1,c2,c3,c4,c5]<;>omega)|(simp_all;done))))|exact(rfl:some _=_)|((fail_if_success refine aZ ?_);refine cu [ξ 7 (.bool false),ξ 13 (.bool false),ξ 18 (.bool false),ξ 25 (.bool false),ξ 30 (.bool false),ξ 35 (.bool false),ξ 39 (aa (bV x)),ξ 41 (bU y),ξ 42 (aa (bV y)),ξ 43 (.bool false),ξ 48 (aa (bV x)),ξ 49 (.bool qi)] ?_;(repeat1' dsimp only[Dt,aa,bU,aJ,br,ar,aG,aC,ai,eA,gy,bp,go_sem]);first|refine ba ?_ ?_ rfl ?_|apply bb|apply bf|(refine bg (fun hc=>?_) fun hc=>?_<;>first|(cases hc;done)|(exfalso;first|(simp at hc<;>omega)|(simp[hA,hO,hB,hS,f1,f2,c0,c1,c2,c3,c4,c5]at hc;done))|(try simp only[bn]at hc;try contradiction))|skip))
 |true =>
 rw[hqs]at hS hQ;have hxy:=of_decide_eq_true hQ.symm;cases hqi:qi with
 |false =>
  rw[hqi]at hI hJ;rw[MR hxy (by omega) hJ.symm];repeat' (first|((with_reducible show aI _);first|exact True.intro|(simp only[vb,lb];omega)|(simp only[vb,lb,hA,hO,hB,hS,hI,f1,f2,c0,c1,c2,c3,c4,c5];and_intros<;>first|omega|(simp<;>omega))|(simp[vb,hA,hO,hB,hS,hI,f1,f2,c0,c1,c2,c3,c4,c5]<;>omega))|((with_reducible show aP _);first|exact True.intro|((try dsimp only[go_sem]);first|(simp[vb,hA,hO,hB,hS,hI,f1,f2,c0,c1,c2,c3,c4,c5]<;>omega)|(simp only[vb,and_true,true_implies];(repeat' (first|(with_reducible assumption)|(with_reducible apply And.intro)|intro _|((fail_if_success (with_reducible show(_:Int)≤_));assumption)))<;>first|omega|rfl|(simp only[ab,hA,hO,hB,hS,hI,f1,f2,c0,c1,c2,c3,c4,c5];done)|(simp[Nat.mul_one,hA,hO,hB,hS,hI,f1,f2,c0,c1,c2,c3,c4,c5]<;>omega)|(simp_all;done))))|exact(rfl:some _=_)|((fail_if_success refine aZ ?_);refine cu [ξ 7 (.bool false),ξ 13 (.bool false),ξ 18 (.bool false),ξ 25 (.bool false),ξ 30 (.bool false),ξ 35 (.bool false),ξ 39 (aa (bV x)),ξ 41 (bU y),ξ 42 (aa (bV y)),ξ 43 (.bool true),ξ 48 (aa (bV x)),ξ 49 (.bool false)] ?_;(repeat1' dsimp only[Dt,aa,bU,aJ,br,ar,aG,aC,ai,eA,gy,bp,go_sem]);first|refine ba ?_ ?_ rfl ?_|apply bb|apply bf|(refine bg (fun hc=>?_) fun hc=>?_<;>first|(cases hc;done)|(exfalso;first|(simp at hc<;>omega)|(simp[hA,hO,hB,hS,hI,f1,f2,c0,c1,c2,c3,c4,c5]at hc;done))|(try simp only[bn]at hc;try contradiction))|skip))
 |true =>
 rw[hqi]at hI hJ;rw[MS (by omega) hxy hJ.symm];repeat' (first|((with_reducible show aI _);first|exact True.intro|(simp only[vb,lb];omega)|(simp only[vb,lb,hA,hO,hB,hS,hI,hF,hC,f1,f2,c0,c1,c2,c3,c4,c5];and_intros<;>first|omega|(simp<;>omega))|(simp[vb,hA,hO,hB,hS,hI,hF,hC,f1,f2,c0,c1,c2,c3,c4,c5]<;>omega))|((with_reducible show aP _);first|exact True.intro|((try dsimp only[go_sem]);first|(simp[vb,hA,hO,hB,hS,hI,hF,hC,f1,f2,c0,c1,c2,c3,c4,c5]<;>omega)|(simp only[vb,and_true,true_implies];(repeat' (first|(with_reducible assumption)|(with_reducible apply And.intro)|intro _|((fail_if_success (with_reducible show(_:Int)≤_));assumption)))<;>first|omega|rfl|(simp only[ab,hA,hO,hB,hS,hI,hF,hC,f1,f2,c0,c1,c2,c3,c4,c5];done)|(simp[Nat.mul_one,hA,hO,hB,hS,hI,hF,hC,f1,f2,c0,c1,c2,c3,c4,c5]<;>omega)|(simp_all;done))))|exact(rfl:some _=_)|((fail_if_success refine aZ ?_);refine dS [(116,fun _=>some (.bool qf)),(117,fun _=>some (.bool qc))] [ξ 7 (.bool false),ξ 13 (.bool false),ξ 18 (.bool false),ξ 25 (.bool false),ξ 30 (.bool false),ξ 35 (.bool false),ξ 39 (aa (bV x)),ξ 41 (bU y),ξ 42 (aa (bV y)),ξ 43 (.bool true),ξ 48 (aa (bV x)),ξ 49 (.bool true)] ?_;(repeat1' dsimp only[Dt,aa,bU,aJ,br,ar,aG,aC,ai,eA,gy,bp,go_sem]);first|refine ba ?_ ?_ rfl ?_|apply bb|apply bf|(refine bg (fun hc=>?_) fun hc=>?_<;>first|(cases hc;done)|(exfalso;first|(simp at hc<;>omega)|(simp[hA,hO,hB,hS,hI,hF,hC,f1,f2,c0,c1,c2,c3,c4,c5]at hc;done))|(try simp only[bn]at hc;try contradiction))|skip))
 ·rename_i hk;rw[show jX h.reps x=(fS x.ev&&decide ((x.ev.past.length:Int)=h.reps)) by rw[jX,if_pos hc],←hqf,ca];rfl
 ·rename_i k2;rw[show jX h.reps x=((eP x.clk&&decide ((x.clk.length:Int)=h.reps))&&decide (x.vals.length=x.qs.length)) by rw[jX,if_neg k2,if_pos hc],←hqc,ca];refine congrArg (fun b=>some (PV.bool (qc&&b))) ?_;rw[Bool.eq_iff_iff];simp only[beq_iff_eq,decide_eq_true_eq];omega
 ·rename_i k3 k2;rw[show jX h.reps x=(eP x.clk&&decide ((x.clk.length:Int)=h.reps)) by rw[jX,if_neg k3,if_neg k2,if_pos hc],←hqc]
 rename_i k3 k2;rw[show jX h.reps x=true by rw[jX,if_neg k3,if_neg k2,if_neg hc]]
end
section
open Tr
def yI:af:=(⟨_,by conv=>(lhs;reduce;try simp only[bD,Int.cast_ofNat_Int,Int.reduceNegSucc,UInt8.reduceOfNat])⟩:{x // codeOf Tryz.prog 22 (fun _=>false)=some x}).1
theorem Ow:aD Tryz.prog 22 (fun _=>false)=some (yI,[.t 2],75,true):=by kernel_rfl
theorem nt {h:Hi} (c:h.reps<1∨5<h.reps∨h.ticks<0∨1048576<h.ticks∨(128:Int)<h.state.length∨h.state.all lD=false∨(4096:Int)<h.l.length):bS h=false:=by
 cases he:bS h with
 |false=>rfl
 |true =>
  simp only[bS,pB,Bool.and_eq_true,decide_eq_true_eq]at he;obtain⟨⟨⟨⟨⟨⟨⟨h1,h2⟩,h3⟩,h4⟩,h5⟩,h6⟩,h7⟩,-⟩:=he;rw[h6]at c;simp only[Bool.true_eq_false,false_or]at c;omega
theorem MT {h:Hi} (c:¬h.reps<1∧¬5<h.reps∧¬h.ticks<0∧¬1048576<h.ticks∧¬(128:Int)<h.state.length∧¬(4096:Int)<h.l.length) (hi:h.state.all lD=true):bS h=(List.range h.l.length).all (fT h):=by
 obtain⟨h1,h2,h3,h4,h5,h6⟩:=c;simp only[bS,pB,hi,Bool.and_true];rw[decide_eq_true (by omega:1≤h.reps),decide_eq_true (by omega:h.reps≤5),decide_eq_true (by omega:0≤h.ticks),decide_eq_true (by omega:h.ticks≤1048576),decide_eq_true (by omega:h.state.length≤128),decide_eq_true (by omega:h.l.length≤4096)];rfl
theorem FD (l:List En):(l.flatMap aJ).length=l.length*28:=bW aR l
theorem wY (l:List En) (k:Nat) (h:k<l.length):(l.flatMap aJ)[k*28]?.getD default= .int .i64 (l.getD k zx).tick:=by
 have:=db aR l k zx 0 h (by omega);rw[Nat.add_zero]at this;rw[this];rfl
theorem yJ (p:Nat→Bool) (k:Nat):(List.range (k+1)).all p=((List.range k).all p&&p k):=by
 rw[List.range_succ,List.all_append];simp
theorem Du {p:Nat→Bool} {n k:Nat} (hk:k<n) (h:p k=false):(List.range n).all p=false:=by
 cases hb:(List.range n).all p with
 |false=>rfl
 |true=>rw[List.all_eq_true.mp hb k (List.mem_range.mpr hk)]at h;cases h
theorem sA (h:Hi) (hw:∀x∈h.l,zK x) (hs:h.state.length≤1000000000) (hl:h.l.length≤1000000000):ah ctx 22 [eA h] (.bool (bS h)):=by
 have hI:=pH h.state (by omega);have f1:=aU h.state;have f2:=FD h.l;obtain⟨qi,hJ⟩:∃q,q=h.state.all lD:=⟨_,rfl⟩
 rw[←hJ]at hI;unfold aa at hI;refine aj (C:=ctx) (Fn.of Ow rfl) rfl ?_;unfold yI;by_cases c0:h.reps<1
 ·rw[nt (by omega)];repeat' (first|((with_reducible show aI _);first|exact True.intro|(simp only[vb,lb];omega)|(simp only[vb,lb,hI,f1,f2,c0];and_intros<;>first|omega|(simp<;>omega))|(simp[vb,hI,f1,f2,c0]<;>omega))|((with_reducible show aP _);first|exact True.intro|((try dsimp only[go_sem]);first|(simp[vb,hI,f1,f2,c0]<;>omega)|(simp only[vb,and_true,true_implies];(repeat' (first|(with_reducible assumption)|(with_reducible apply And.intro)|intro _|((fail_if_success (with_reducible show(_:Int)≤_));assumption)))<;>first|omega|rfl|(simp only[ab,hI,f1,f2,c0];done)|(simp[Nat.mul_one,hI,f1,f2,c0]<;>omega)|(simp_all;done))))|exact(rfl:some _=_)|((fail_if_success refine aZ ?_);refine dS [(46,fun _=>some (.bool qi))] [ξ 6 (.bool true)] ?_;(repeat1' dsimp only[yI,aa,eA,gy,bp,go_sem]);first|refine ba ?_ ?_ rfl ?_|apply bb|apply bf|(refine bg (fun hc=>?_) fun hc=>?_<;>first|(cases hc;done)|(exfalso;first|(simp at hc<;>omega)|(simp[hI,f1,f2,c0]at hc;done))|(try simp only[bn]at hc;try contradiction))|skip))
 by_cases c1:5<h.reps
 ·rw[nt (by omega)];repeat' (first|((with_reducible show aI _);first|exact True.intro|(simp only[vb,lb];omega)|(simp only[vb,lb,hI,f1,f2,c0,c1];and_intros<;>first|omega|(simp<;>omega))|(simp[vb,hI,f1,f2,c0,c1]<;>omega))|((with_reducible show aP _);first|exact True.intro|((try dsimp only[go_sem]);first|(simp[vb,hI,f1,f2,c0,c1]<;>omega)|(simp only[vb,and_true,true_implies];(repeat' (first|(with_reducible assumption)|(with_reducible apply And.intro)|intro _|((fail_if_success (with_reducible show(_:Int)≤_));assumption)))<;>first|omega|rfl|(simp only[ab,hI,f1,f2,c0,c1];done)|(simp[Nat.mul_one,hI,f1,f2,c0,c1]<;>omega)|(simp_all;done))))|exact(rfl:some _=_)|((fail_if_success refine aZ ?_);refine dS [(46,fun _=>some (.bool qi))] [ξ 6 (.bool false),ξ 10 (.bool true)] ?_;(repeat1' dsimp only[yI,aa,eA,gy,bp,go_sem]);first|refine ba ?_ ?_ rfl ?_|apply bb|apply bf|(refine bg (fun hc=>?_) fun hc=>?_<;>first|(cases hc;done)|(exfalso;first|(simp at hc<;>omega)|(simp[hI,f1,f2,c0,c1]at hc;done))|(try simp only[bn]at hc;try contradiction))|skip))
 by_cases c2:h.ticks<0
 ·rw[nt (by omega)];repeat' (first|((with_reducible show aI _);first|exact True.intro|(simp only[vb,lb];omega)|(simp only[vb,lb,hI,f1,f2,c0,c1,c2];and_intros<;>first|omega|(simp<;>omega))|(simp[vb,hI,f1,f2,c0,c1,c2]<;>omega))|((with_reducible show aP _);first|exact True.intro|((try dsimp only[go_sem]);first|(simp[vb,hI,f1,f2,c0,c1,c2]<;>omega)|(simp only[vb,and_true,true_implies];(repeat' (first|(with_reducible assumption)|(with_reducible apply And.intro)|intro _|((fail_if_success (with_reducible show(_:Int)≤_));assumption)))<;>first|omega|rfl|(simp only[ab,hI,f1,f2,c0,c1,c2];done)|(simp[Nat.mul_one,hI,f1,f2,c0,c1,c2]<;>omega)|(simp_all;done))))|exact(rfl:some _=_)|((fail_if_success refine aZ ?_);refine dS [(46,fun _=>some (.bool qi))] [ξ 6 (.bool false),ξ 10 (.bool false),ξ 15 (.bool true)] ?_;(repeat1' dsimp only[yI,aa,eA,gy,bp,go_sem]);first|refine ba ?_ ?_ rfl ?_|apply bb|apply bf|(refine bg (fun hc=>?_) fun hc=>?_<;>first|(cases hc;done)|(exfalso;first|(simp at hc<;>omega)|(simp[hI,f1,f2,c0,c1,c2]at hc;done))|(try simp only[bn]at hc;try contradiction))|skip))
 by_cases c3:1048576<h.ticks
 ·rw[nt (by omega)];repeat' (first|((with_reducible show aI _);first|exact True.intro|(simp only[vb,lb];omega)|(simp only[vb,lb,hI,f1,f2,c0,c1,c2,c3];and_intros<;>first|omega|(simp<;>omega))|(simp[vb,hI,f1,f2,c0,c1,c2,c3]<;>omega))|((with_reducible show aP _);first|exact True.intro|((try dsimp only[go_sem]);first|(simp[vb,hI,f1,f2,c0,c1,c2,c3]<;>omega)|(simp only[vb,and_true,true_implies];(repeat' (first|(with_reducible assumption)|(with_reducible apply And.intro)|intro _|((fail_if_success (with_reducible show(_:Int)≤_));assumption)))<;>first|omega|rfl|(simp only[ab,hI,f1,f2,c0,c1,c2,c3];done)|(simp[Nat.mul_one,hI,f1,f2,c0,c1,c2,c3]<;>omega)|(simp_all;done))))|exact(rfl:some _=_)|((fail_if_success refine aZ ?_);refine dS [(46,fun _=>some (.bool qi))] [ξ 6 (.bool false),ξ 10 (.bool false),ξ 15 (.bool false),ξ 20 (.bool true)] ?_;(repeat1' dsimp only[yI,aa,eA,gy,bp,go_sem]);first|refine ba ?_ ?_ rfl ?_|apply bb|apply bf|(refine bg (fun hc=>?_) fun hc=>?_<;>first|(cases hc;done)|(exfalso;first|(simp at hc<;>omega)|(simp[hI,f1,f2,c0,c1,c2,c3]at hc;done))|(try simp only[bn]at hc;try contradiction))|skip))
 by_cases c4:(128:Int)<h.state.length
 ·rw[nt (by omega)];repeat' (first|((with_reducible show aI _);first|exact True.intro|(simp only[vb,lb];omega)|(simp only[vb,lb,hI,f1,f2,c0,c1,c2,c3,c4];and_intros<;>first|omega|(simp<;>omega))|(simp[vb,hI,f1,f2,c0,c1,c2,c3,c4]<;>omega))|((with_reducible show aP _);first|exact True.intro|((try dsimp only[go_sem]);first|(simp[vb,hI,f1,f2,c0,c1,c2,c3,c4]<;>omega)|(simp only[vb,and_true,true_implies];(repeat' (first|(with_reducible assumption)|(with_reducible apply And.intro)|intro _|((fail_if_success (with_reducible show(_:Int)≤_));assumption)))<;>first|omega|rfl|(simp only[ab,hI,f1,f2,c0,c1,c2,c3,c4];done)|(simp[Nat.mul_one,hI,f1,f2,c0,c1,c2,c3,c4]<;>omega)|(simp_all;done))))|exact(rfl:some _=_)|((fail_if_success refine aZ ?_);refine dS [(46,fun _=>some (.bool qi))] [ξ 6 (.bool false),ξ 10 (.bool false),ξ 15 (.bool false),ξ 20 (.bool false),ξ 26 (.bool true)] ?_;(repeat1' dsimp only[yI,aa,eA,gy,bp,go_sem]);first|refine ba ?_ ?_ rfl ?_|apply bb|apply bf|(refine bg (fun hc=>?_) fun hc=>?_<;>first|(cases hc;done)|(exfalso;first|(simp at hc<;>omega)|(simp[hI,f1,f2,c0,c1,c2,c3,c4]at hc;done))|(try simp only[bn]at hc;try contradiction))|skip))
 cases hqi:qi with
 |false =>
  rw[hqi]at hI hJ;rw[nt (.inr (.inr (.inr (.inr (.inr (.inl hJ.symm))))))];repeat' (first|((with_reducible show aI _);first|exact True.intro|(simp only[vb,lb];omega)|(simp only[vb,lb,hI,f1,f2,c0,c1,c2,c3,c4];and_intros<;>first|omega|(simp<;>omega))|(simp[vb,hI,f1,f2,c0,c1,c2,c3,c4]<;>omega))|((with_reducible show aP _);first|exact True.intro|((try dsimp only[go_sem]);first|(simp[vb,hI,f1,f2,c0,c1,c2,c3,c4]<;>omega)|(simp only[vb,and_true,true_implies];(repeat' (first|(with_reducible assumption)|(with_reducible apply And.intro)|intro _|((fail_if_success (with_reducible show(_:Int)≤_));assumption)))<;>first|omega|rfl|(simp only[ab,hI,f1,f2,c0,c1,c2,c3,c4];done)|(simp[Nat.mul_one,hI,f1,f2,c0,c1,c2,c3,c4]<;>omega)|(simp_all;done))))|exact(rfl:some _=_)|((fail_if_success refine aZ ?_);refine dS [(46,fun _=>some (.bool false))] [ξ 6 (.bool false),ξ 10 (.bool false),ξ 15 (.bool false),ξ 20 (.bool false),ξ 26 (.bool false)] ?_;(repeat1' dsimp only[yI,aa,eA,gy,bp,go_sem]);first|refine ba ?_ ?_ rfl ?_|apply bb|apply bf|(refine bg (fun hc=>?_) fun hc=>?_<;>first|(cases hc;done)|(exfalso;first|(simp at hc<;>omega)|(simp[hI,f1,f2,c0,c1,c2,c3,c4]at hc;done))|(try simp only[bn]at hc;try contradiction))|skip))
 |true =>
 rw[hqi]at hI hJ;by_cases c6:(4096:Int)<h.l.length
 ·rw[nt (by omega)];repeat' (first|((with_reducible show aI _);first|exact True.intro|(simp only[vb,lb];omega)|(simp only[vb,lb,hI,f1,f2,c0,c1,c2,c3,c4,c6];and_intros<;>first|omega|(simp<;>omega))|(simp[vb,hI,f1,f2,c0,c1,c2,c3,c4,c6]<;>omega))|((with_reducible show aP _);first|exact True.intro|((try dsimp only[go_sem]);first|(simp[vb,hI,f1,f2,c0,c1,c2,c3,c4,c6]<;>omega)|(simp only[vb,and_true,true_implies];(repeat' (first|(with_reducible assumption)|(with_reducible apply And.intro)|intro _|((fail_if_success (with_reducible show(_:Int)≤_));assumption)))<;>first|omega|rfl|(simp only[ab,hI,f1,f2,c0,c1,c2,c3,c4,c6];done)|(simp[Nat.mul_one,hI,f1,f2,c0,c1,c2,c3,c4,c6]<;>omega)|(simp_all;done))))|exact(rfl:some _=_)|((fail_if_success refine aZ ?_);refine dS [(46,fun _=>some (.bool true))] [ξ 6 (.bool false),ξ 10 (.bool false),ξ 15 (.bool false),ξ 20 (.bool false),ξ 26 (.bool false),ξ 38 (.bool true)] ?_;(repeat1' dsimp only[yI,aa,eA,gy,bp,go_sem]);first|refine ba ?_ ?_ rfl ?_|apply bb|apply bf|(refine bg (fun hc=>?_) fun hc=>?_<;>first|(cases hc;done)|(exfalso;first|(simp at hc<;>omega)|(simp[hI,f1,f2,c0,c1,c2,c3,c4,c6]at hc;done))|(try simp only[bn]at hc;try contradiction))|skip))
 rw[MT (by omega) hJ.symm];repeat' (first|((with_reducible show aI _);first|exact True.intro|(simp only[vb,lb];omega)|(simp only[vb,lb,hI,f1,f2,c0,c1,c2,c3,c4,c6];and_intros<;>first|omega|(simp<;>omega))|(simp[vb,hI,f1,f2,c0,c1,c2,c3,c4,c6]<;>omega))|((with_reducible show aP _);first|exact True.intro|((try dsimp only[go_sem]);first|(simp[vb,hI,f1,f2,c0,c1,c2,c3,c4,c6]<;>omega)|(simp only[vb,and_true,true_implies];(repeat' (first|(with_reducible assumption)|(with_reducible apply And.intro)|intro _|((fail_if_success (with_reducible show(_:Int)≤_));assumption)))<;>first|omega|rfl|(simp only[ab,hI,f1,f2,c0,c1,c2,c3,c4,c6];done)|(simp[Nat.mul_one,hI,f1,f2,c0,c1,c2,c3,c4,c6]<;>omega)|(simp_all;done))))|exact(rfl:some _=_)|((fail_if_success refine aZ ?_);refine dS [(46,fun _=>some (.bool true))] [ξ 6 (.bool false),ξ 10 (.bool false),ξ 15 (.bool false),ξ 20 (.bool false),ξ 26 (.bool false),ξ 38 (.bool false)] ?_;(repeat1' dsimp only[yI,aa,eA,gy,bp,go_sem]);first|refine ba ?_ ?_ rfl ?_|apply bb|apply bf|(refine bg (fun hc=>?_) fun hc=>?_<;>first|(cases hc;done)|(exfalso;first|(simp at hc<;>omega)|(simp[hI,f1,f2,c0,c1,c2,c3,c4,c6]at hc;done))|(try simp only[bn]at hc;try contradiction))|skip))
 refine de h.l.length (fun k=>(List.range k).all (fT h)=true) (fun k=>[(1,.ptr 0 0 0),(3,.pv (.int .i64 k))]) (fun _=>[⟨[.pv (.int .i64 h.reps),.pv (.int .i64 h.ticks),.pv (aa h.state),.pv (bp h.l)],0,4,38,false⟩]) rfl (by (repeat' (first|exact trivial|refine And.intro (by first|rfl|(simp[get,Nat.beq]<;>omega)|(dsimp only[get];congr 1<;>first|rfl|omega|(simp<;>omega))) ?_))) ⟨[],rfl⟩ (fun _=>⟨Nat.zero_le _,rfl,rfl⟩) fun k hk hP=>?_
 by_cases hlt:k<h.l.length
 ·have e1:=dV aR h.l k zx hlt;have e2:=wY h.l k hlt;have i1:=yJ (fT h) k;have i2:=Du (p:=fT h) hlt;rw[hP,Bool.true_and]at i1;have hx:=yH h (h.l.getD k zx) (hw _ (bX hlt));have hS:fT h k=(dF h.reps h.ticks (h.l.getD k zx)&&(decide (k=0)||decide ((h.l.getD (k-1) zx).tick≤(h.l.getD k zx).tick))):=rfl;rw[hS]at i1 i2;clear hS;obtain⟨q,hq⟩:∃q,q=dF h.reps h.ticks (h.l.getD k zx):=⟨_,rfl⟩
  rw[←hq]at hx i1 i2;clear hq;unfold eA gy aa bp bU at hx;by_cases hk0:k=0
  ·subst hk0;rw[decide_eq_true rfl,Bool.true_or,Bool.and_true]at i1 i2;generalize h.l.getD 0 zx=x at *;cases q with
   |false =>
    rw[i2 rfl];repeat' (first|((with_reducible show aI _);first|exact True.intro|(simp only[vb,lb];omega)|(simp only[vb,lb,e1,e2,f2,hlt,hx];and_intros<;>first|omega|(simp<;>omega))|(simp[vb,e1,e2,f2,hlt,hx]<;>omega))|((with_reducible show aP _);first|exact True.intro|((try dsimp only[go_sem]);first|(simp[vb,e1,e2,f2,hlt,hx]<;>omega)|(simp only[vb,and_true,true_implies];(repeat' (first|(with_reducible assumption)|(with_reducible apply And.intro)|intro _|((fail_if_success (with_reducible show(_:Int)≤_));assumption)))<;>first|omega|rfl|(simp only[ab,e1,e2,f2,hlt,hx];done)|(simp[Nat.mul_one,e1,e2,f2,hlt,hx]<;>omega)|(simp_all;done))))|exact(rfl:some _=_)|((fail_if_success refine aZ ?_);refine dS [(47,fun _=>some (.bool false))] [ξ 52 (.agg (aJ x)),ξ 57 (.bool false),ξ 64 (.int .i64 x.tick),ξ 71 (.int .i64 x.tick)] ?_;(repeat1' dsimp only[yI,aa,bp,go_sem]);first|refine ba ?_ ?_ rfl ?_|apply bb|apply bf|(refine bg (fun hc=>?_) fun hc=>?_<;>first|(cases hc;done)|(exfalso;first|(simp at hc<;>omega)|(simp[e1,e2,f2,hlt,hx]at hc;done))|(try simp only[bn]at hc;try contradiction))|skip))
   |true =>
    repeat' (first|((with_reducible show aI _);first|exact True.intro|(simp only[vb,lb];omega)|(simp only[vb,lb,e1,e2,f2,hlt,hx];and_intros<;>first|omega|(simp<;>omega))|(simp[vb,e1,e2,f2,hlt,hx]<;>omega))|((with_reducible show aP _);first|exact True.intro|((try dsimp only[go_sem]);first|(simp[vb,e1,e2,f2,hlt,hx]<;>omega)|(simp only[vb,and_true,true_implies];(repeat' (first|(with_reducible assumption)|(with_reducible apply And.intro)|intro _|((fail_if_success (with_reducible show(_:Int)≤_));assumption)))<;>first|omega|rfl|(simp only[ab,e1,e2,f2,hlt,hx];done)|(simp[Nat.mul_one,e1,e2,f2,hlt,hx]<;>omega)|(simp_all;done))))|exact(rfl:some _=_)|((fail_if_success refine aZ ?_);refine dS [(47,fun _=>some (.bool true))] [ξ 52 (.agg (aJ x)),ξ 57 (.bool false),ξ 64 (.int .i64 x.tick),ξ 71 (.int .i64 x.tick)] ?_;(repeat1' dsimp only[yI,aa,bp,go_sem]);first|refine ba ?_ ?_ rfl ?_|apply bb|apply bf|(refine bg (fun hc=>?_) fun hc=>?_<;>first|(cases hc;done)|(exfalso;first|(simp at hc<;>omega)|(simp[e1,e2,f2,hlt,hx]at hc;done))|(try simp only[bn]at hc;try contradiction))|skip))
    exact⟨hlt,i1,by (repeat' (first|exact trivial|refine And.intro (by first|rfl|(simp[get,Nat.beq]<;>omega)|(dsimp only[get];congr 1<;>first|rfl|omega|(simp<;>omega))) ?_)),_,rfl⟩
  have e3:=wY h.l (k-1) (by omega);rw[decide_eq_false hk0,Bool.false_or]at i1 i2;have hk1:(k:Int)-1=((k-1:Nat):Int):=by omega
  have hk2:0<k:=by omega
  have hk3:k-1<h.l.length:=by omega
  generalize h.l.getD k zx=x at *;generalize h.l.getD (k-1) zx=y at *;cases q with
  |false =>
   rw[i2 rfl];repeat' (first|((with_reducible show aI _);first|exact True.intro|(simp only[vb,lb];omega)|(simp only[vb,lb,e1,e2,e3,f2,hlt,hx,hk2,hk3];and_intros<;>first|omega|(simp<;>omega))|(simp[vb,e1,e2,e3,f2,hlt,hx,hk2,hk3]<;>omega))|((with_reducible show aP _);first|exact True.intro|((try dsimp only[go_sem]);first|(simp[vb,e1,e2,e3,f2,hlt,hx,hk2,hk3]<;>omega)|(simp only[vb,and_true,true_implies];(repeat' (first|(with_reducible assumption)|(with_reducible apply And.intro)|intro _|((fail_if_success (with_reducible show(_:Int)≤_));assumption)))<;>first|omega|rfl|(simp only[ab,e1,e2,e3,f2,hlt,hx,hk2,hk3];done)|(simp[Nat.mul_one,e1,e2,e3,f2,hlt,hx,hk2,hk3]<;>omega)|(simp_all;done))))|exact(rfl:some _=_)|((fail_if_success refine aZ ?_);refine dS [(47,fun _=>some (.bool false))] [ξ 52 (.agg (aJ x)),ξ 57 (.bool true),ξ 64 (.int .i64 x.tick),ξ 68 (.int .i64 ((k-1:Nat):Int)),ξ 71 (.int .i64 y.tick)] ?_;(repeat1' dsimp only[yI,aa,bp,go_sem]);first|refine ba ?_ ?_ rfl ?_|apply bb|apply bf|(refine bg (fun hc=>?_) fun hc=>?_<;>first|(cases hc;done)|(exfalso;first|(simp at hc<;>omega)|(simp[e1,e2,e3,f2,hlt,hx,hk2,hk3]at hc;done))|(try simp only[bn]at hc;try contradiction))|skip))
  |true =>
   repeat' (first|((with_reducible show aI _);first|exact True.intro|(simp only[vb,lb];omega)|(simp only[vb,lb,e1,e2,e3,f2,hlt,hx,hk2,hk3];and_intros<;>first|omega|(simp<;>omega))|(simp[vb,e1,e2,e3,f2,hlt,hx,hk2,hk3]<;>omega))|((with_reducible show aP _);first|exact True.intro|((try dsimp only[go_sem]);first|(simp[vb,e1,e2,e3,f2,hlt,hx,hk2,hk3]<;>omega)|(simp only[vb,and_true,true_implies];(repeat' (first|(with_reducible assumption)|(with_reducible apply And.intro)|intro _|((fail_if_success (with_reducible show(_:Int)≤_));assumption)))<;>first|omega|rfl|(simp only[ab,e1,e2,e3,f2,hlt,hx,hk2,hk3];done)|(simp[Nat.mul_one,e1,e2,e3,f2,hlt,hx,hk2,hk3]<;>omega)|(simp_all;done))))|exact(rfl:some _=_)|((fail_if_success refine aZ ?_);refine dS [(47,fun _=>some (.bool true))] [ξ 52 (.agg (aJ x)),ξ 57 (.bool true),ξ 64 (.int .i64 x.tick),ξ 68 (.int .i64 ((k-1:Nat):Int)),ξ 71 (.int .i64 y.tick)] ?_;(repeat1' dsimp only[yI,aa,bp,go_sem]);first|refine ba ?_ ?_ rfl ?_|apply bb|apply bf|(refine bg (fun hc=>?_) fun hc=>?_<;>first|(cases hc;done)|(exfalso;first|(simp at hc<;>omega)|(simp[e1,e2,e3,f2,hlt,hx,hk2,hk3]at hc;done))|(try simp only[bn]at hc;try contradiction))|skip))
   ·rw[i2 (by rw[Bool.true_and,decide_eq_false (by omega)])]
   exact⟨hlt,by rw[i1,Bool.true_and,decide_eq_true (by omega)],by (repeat' (first|exact trivial|refine And.intro (by first|rfl|(simp[get,Nat.beq]<;>omega)|(dsimp only[get];congr 1<;>first|rfl|omega|(simp<;>omega))) ?_)),_,rfl⟩
 obtain rfl:k=h.l.length:=by omega
 rw[hP];repeat' (first|((with_reducible show aI _);first|exact True.intro|(simp only[vb,lb];omega)|(simp only[vb,lb,hlt,f2];and_intros<;>first|omega|(simp<;>omega))|(simp[vb,hlt,f2]<;>omega))|((with_reducible show aP _);first|exact True.intro|((try dsimp only[go_sem]);first|(simp[vb,hlt,f2]<;>omega)|(simp only[vb,and_true,true_implies];(repeat' (first|(with_reducible assumption)|(with_reducible apply And.intro)|intro _|((fail_if_success (with_reducible show(_:Int)≤_));assumption)))<;>first|omega|rfl|(simp only[ab,hlt,f2];done)|(simp[Nat.mul_one,hlt,f2]<;>omega)|(simp_all;done))))|exact(rfl:some _=_)|((fail_if_success refine aZ ?_);refine bJ ?_;(repeat1' dsimp only[yI,aa,bp,go_sem]);first|refine ba ?_ ?_ rfl ?_|apply bb|apply bf|(refine bg (fun hc=>?_) fun hc=>?_<;>first|(cases hc;done)|(exfalso;first|(simp at hc<;>omega)|(simp[hlt,f2]at hc;done))|(try simp only[bn]at hc;try contradiction))|skip))
end
section
open Tr
def wZ:af:=(⟨_,by conv=>(lhs;reduce;try simp only[bD,Int.cast_ofNat_Int,Int.reduceNegSucc,UInt8.reduceOfNat])⟩:{x // codeOf Tryz.prog 42 (fun _=>false)=some x}).1
theorem Ox:aD Tryz.prog 42 (fun _=>false)=some (wZ,[.cell 6 15 true],108,true):=by kernel_rfl
def pR (f:Fi):dI:=⟨(gU f).map .pv,0,15,49,false⟩
def ic (l:List En) (k:Nat):Nat→Int×Int×Int→Int×Int×Int
 |0,s=>s
 |j+1,s=>if j≤k then s else ic l k j (if (l.getD j zx).kind=1∧gz l j j=k then ((j:Int),if (l.getD j zx).out.kind=0 then (j:Int) else s.2.1,if (l.getD j zx).out.kind=1 then (j:Int) else s.2.2) else s)
def ve (l:List En) (k:Nat) (f:Fi):Fi :=
 let s:=ic l k l.length (-1,-1,-1)
 let g:Fi:={f with submitted:=f.submitted+1,waited:=if 0≤s.1∧(l.getD s.1.toNat zx).out.kind=2 then f.waited+1 else f.waited}
 if 0≤s.2.1 then {g with executed:=f.executed+1,ticks:=f.ticks+((l.getD s.2.1.toNat zx).tick-(l.getD k zx).tick),longest:=max f.longest ((l.getD s.2.1.toNat zx).tick-(l.getD k zx).tick)}
 else if 0≤s.2.2 then {g with refused:=f.refused+1} else {g with opn:=f.opn+1}
theorem ql (l:List En) (k:Nat) (h:k<l.length):(l.flatMap aJ)[k*28]?.getD default= .int .i64 (l.getD k zx).tick:=by
 have:=db aR l k zx 0 h (by omega);rw[Nat.add_zero]at this;rw[this];rfl
theorem Dv (l:List En) (k:Nat) (h:k<l.length):(l.flatMap aJ)[k*28+7]?.getD default= .int .i64 (l.getD k zx).out.kind:=by
 rw[db aR l k zx 7 h (by omega)];rfl
theorem vf (a b:Int):(if a<b then b else a)=max a b:=by omega
def O7 (f:Fi):Prop:=∀n∈aW f,-1000000000000≤n∧n≤1000000000000
theorem Dw (h:Hi) (k:Nat) (hk:k<h.l.length) (hl:h.l.length≤1000000000) (ht:∀x∈h.l,0≤x.tick∧x.tick≤1048576) (f:Fi) (hf:O7 f):ah ctx 42 [eA h,.int .i64 k,.agg (gU f)] (.agg (gU (ve h.l k f))):=by
 have f1:=aU h.state;have f2:=iw h.l;have b0:=hf f.submitted (by simp[aW]);have b1:=hf f.executed (by simp[aW]);have b2:=hf f.refused (by simp[aW]);have b3:=hf f.waited (by simp[aW]);have b4:=hf f.opn (by simp[aW]);have b5:=hf f.ticks (by simp[aW]);have b6:=hf f.longest (by simp[aW]);obtain⟨r,hr⟩:∃r,r=ve h.l k f:=⟨_,rfl⟩
 rw[←hr];unfold ve at hr;obtain⟨z,hz⟩:∃z,z=ic h.l k h.l.length (-1,-1,-1):=⟨_,rfl⟩
 rw[←hz]at hr;dsimp only at hr;refine aj (C:=ctx) (Fn.of Ox rfl) rfl ?_;unfold wZ;repeat' (first|((with_reducible show aI _);first|exact True.intro|(simp only[vb,lb];omega)|(simp only[vb,lb,f1,f2,hk];and_intros<;>first|omega|(simp<;>omega))|(simp[vb,f1,f2,hk]<;>omega))|((with_reducible show aP _);first|exact True.intro|((try dsimp only[go_sem]);first|(simp[vb,f1,f2,hk]<;>omega)|(simp only[vb,and_true,true_implies];(repeat' (first|(with_reducible assumption)|(with_reducible apply And.intro)|intro _|((fail_if_success (with_reducible show(_:Int)≤_));assumption)))<;>first|omega|rfl|(simp only[ab,f1,f2,hk];done)|(simp[Nat.mul_one,f1,f2,hk]<;>omega)|(simp_all;done))))|exact(rfl:some _=_)|((fail_if_success refine aZ ?_);refine bJ ?_;(repeat1' dsimp only[wZ,eA,gy,aa,bp,gU,aW,go_sem]);first|refine ba ?_ ?_ rfl ?_|apply bb|apply bf|(refine bg (fun hc=>?_) fun hc=>?_<;>first|(cases hc;done)|(exfalso;first|(simp at hc<;>omega)|(simp[f1,f2,hk]at hc;done))|(try simp only[bn]at hc;try contradiction))|skip))
 refine lU (σ:=Nat×Int×Int×Int) (fun s=>s.1≤h.l.length∧z=ic h.l k s.1 s.2∧(-1≤s.2.1∧s.2.1<h.l.length)∧(-1≤s.2.2.1∧s.2.2.1<h.l.length)∧(-1≤s.2.2.2∧s.2.2.2<h.l.length)) (fun s=>[(1,.pv (.int .i64 k)),(3,.ptr 0 0 0),(5,.ptr 1 0 0),(6,.ptr 2 0 0),(7,.pv (.int .i64 s.2.1)),(8,.pv (.int .i64 s.2.2.1)),(9,.pv (.int .i64 s.2.2.2)),(10,.pv (.int .i64 ((s.1:Int)-1)))]) (fun _=>[cL h,pR {f with submitted:=f.submitted+1},pR zf]) (fun s=>s.1) (h.l.length,-1,-1,-1) ⟨Nat.le_refl _,hz,by simp;omega,by simp;omega,by simp;omega⟩ (by (repeat' (first|exact trivial|refine And.intro (by first|rfl|(simp[get,Nat.beq]<;>omega)|(dsimp only[get];congr 1<;>first|rfl|omega|(simp<;>omega))) ?_))) ⟨[],rfl⟩ (fun _ _=>⟨Nat.zero_le _,rfl,rfl⟩) fun s hP=>?_
 obtain⟨j,a,b,c⟩:=s;obtain⟨p1,p2,p3,p4,p5⟩:=hP;simp only at p1 p2 p3 p4 p5;simp only[cL,pR];have fin:¬(k:Int)<(j:Int)-1→z=(a,b,c):=fun hj=>by
  rw[p2];cases j with
  |zero=>rfl
  |succ i=>rw[ic,if_pos (by omega)]
 by_cases hj:(k:Int)<(j:Int)-1
 ·clear fin hr;cases j with
  |zero=>omega
  |succ i =>
   have hlt:i<h.l.length:=by omega
   have e1:=dV aR h.l i zx hlt;have hS:=Da h i hlt hl;rw[ic,if_neg (by omega)]at p2;obtain⟨q,hq⟩:∃q,q=gz h.l i i:=⟨_,rfl⟩
   rw[←hq]at hS p2;clear hq;generalize h.l.getD i zx=x at *;simp only[aJ,br,ar,aG,aC,ai,aa,List.cons_append,List.nil_append]at e1;rw[show((i+1:Nat):Int)-1=(i:Int) by omega]at *;unfold eA gy aa bp at hS;by_cases c1:x.kind=1∧q=k
   ·rw[if_pos c1]at p2;obtain⟨c1,rfl⟩:=c1;by_cases c2:x.out.kind=0
    ·rw[if_pos c2,if_neg (by omega)]at p2;repeat' (first|((with_reducible show aI _);first|exact True.intro|(simp only[vb,lb];omega)|(simp only[vb,lb,e1,f2,hlt,hj,hS,c1,c2];and_intros<;>first|omega|(simp<;>omega))|(simp[vb,e1,f2,hlt,hj,hS,c1,c2]<;>omega))|((with_reducible show aP _);first|exact True.intro|((try dsimp only[go_sem]);first|(simp[vb,e1,f2,hlt,hj,hS,c1,c2]<;>omega)|(simp only[vb,and_true,true_implies];(repeat' (first|(with_reducible assumption)|(with_reducible apply And.intro)|intro _|((fail_if_success (with_reducible show(_:Int)≤_));assumption)))<;>first|omega|rfl|(simp only[ab,e1,f2,hlt,hj,hS,c1,c2];done)|(simp[Nat.mul_one,e1,f2,hlt,hj,hS,c1,c2]<;>omega)|(simp_all;done))))|exact(rfl:some _=_)|((fail_if_success refine aZ ?_);refine dS [(38,fun _=>some (.int .i64 k))] [ξ 23 (.bool true),ξ 30 (bU x),ξ 33 (.bool false),ξ 39 (.bool false),ξ 45 (.bool true),ξ 50 (.bool false)] ?_;(repeat1' dsimp only[wZ,aa,bp,bU,aJ,br,ar,aG,aC,ai,gU,aW,go_sem]);first|refine ba ?_ ?_ rfl ?_|apply bb|apply bf|(refine bg (fun hc=>?_) fun hc=>?_<;>first|(cases hc;done)|(exfalso;first|(simp at hc<;>omega)|(simp[e1,f2,hlt,hj,hS,c1,c2]at hc;done))|(try simp only[bn]at hc;try contradiction))|skip))
     exact⟨(i,i,i,c),by simp,⟨by simp;omega,p2,by simp;omega,by simp;omega,p5⟩,by (repeat' (first|exact trivial|refine And.intro (by first|rfl|(simp[get,Nat.beq]<;>omega)|(dsimp only[get];congr 1<;>first|rfl|omega|(simp<;>omega))) ?_)),_,rfl⟩
    rw[if_neg c2]at p2;by_cases c3:x.out.kind=1
    ·rw[if_pos c3]at p2;repeat' (first|((with_reducible show aI _);first|exact True.intro|(simp only[vb,lb];omega)|(simp only[vb,lb,e1,f2,hlt,hj,hS,c1,c2,c3];and_intros<;>first|omega|(simp<;>omega))|(simp[vb,e1,f2,hlt,hj,hS,c1,c2,c3]<;>omega))|((with_reducible show aP _);first|exact True.intro|((try dsimp only[go_sem]);first|(simp[vb,e1,f2,hlt,hj,hS,c1,c2,c3]<;>omega)|(simp only[vb,and_true,true_implies];(repeat' (first|(with_reducible assumption)|(with_reducible apply And.intro)|intro _|((fail_if_success (with_reducible show(_:Int)≤_));assumption)))<;>first|omega|rfl|(simp only[ab,e1,f2,hlt,hj,hS,c1,c2,c3];done)|(simp[Nat.mul_one,e1,f2,hlt,hj,hS,c1,c2,c3]<;>omega)|(simp_all;done))))|exact(rfl:some _=_)|((fail_if_success refine aZ ?_);refine dS [(38,fun _=>some (.int .i64 k))] [ξ 23 (.bool true),ξ 30 (bU x),ξ 33 (.bool false),ξ 39 (.bool false),ξ 45 (.bool false),ξ 50 (.bool true)] ?_;(repeat1' dsimp only[wZ,aa,bp,bU,aJ,br,ar,aG,aC,ai,gU,aW,go_sem]);first|refine ba ?_ ?_ rfl ?_|apply bb|apply bf|(refine bg (fun hc=>?_) fun hc=>?_<;>first|(cases hc;done)|(exfalso;first|(simp at hc<;>omega)|(simp[e1,f2,hlt,hj,hS,c1,c2,c3]at hc;done))|(try simp only[bn]at hc;try contradiction))|skip))
     exact⟨(i,i,b,i),by simp,⟨by simp;omega,p2,by simp;omega,p4,by simp;omega⟩,by (repeat' (first|exact trivial|refine And.intro (by first|rfl|(simp[get,Nat.beq]<;>omega)|(dsimp only[get];congr 1<;>first|rfl|omega|(simp<;>omega))) ?_)),_,rfl⟩
    rw[if_neg c3]at p2;repeat' (first|((with_reducible show aI _);first|exact True.intro|(simp only[vb,lb];omega)|(simp only[vb,lb,e1,f2,hlt,hj,hS,c1,c2,c3];and_intros<;>first|omega|(simp<;>omega))|(simp[vb,e1,f2,hlt,hj,hS,c1,c2,c3]<;>omega))|((with_reducible show aP _);first|exact True.intro|((try dsimp only[go_sem]);first|(simp[vb,e1,f2,hlt,hj,hS,c1,c2,c3]<;>omega)|(simp only[vb,and_true,true_implies];(repeat' (first|(with_reducible assumption)|(with_reducible apply And.intro)|intro _|((fail_if_success (with_reducible show(_:Int)≤_));assumption)))<;>first|omega|rfl|(simp only[ab,e1,f2,hlt,hj,hS,c1,c2,c3];done)|(simp[Nat.mul_one,e1,f2,hlt,hj,hS,c1,c2,c3]<;>omega)|(simp_all;done))))|exact(rfl:some _=_)|((fail_if_success refine aZ ?_);refine dS [(38,fun _=>some (.int .i64 k))] [ξ 23 (.bool true),ξ 30 (bU x),ξ 33 (.bool false),ξ 39 (.bool false),ξ 45 (.bool false),ξ 50 (.bool false)] ?_;(repeat1' dsimp only[wZ,aa,bp,bU,aJ,br,ar,aG,aC,ai,gU,aW,go_sem]);first|refine ba ?_ ?_ rfl ?_|apply bb|apply bf|(refine bg (fun hc=>?_) fun hc=>?_<;>first|(cases hc;done)|(exfalso;first|(simp at hc<;>omega)|(simp[e1,f2,hlt,hj,hS,c1,c2,c3]at hc;done))|(try simp only[bn]at hc;try contradiction))|skip))
    exact⟨(i,i,b,c),by simp,⟨by simp;omega,p2,by simp;omega,p4,p5⟩,by (repeat' (first|exact trivial|refine And.intro (by first|rfl|(simp[get,Nat.beq]<;>omega)|(dsimp only[get];congr 1<;>first|rfl|omega|(simp<;>omega))) ?_)),_,rfl⟩
   rw[if_neg c1]at p2;by_cases c2:x.kind=1
   ·have c3:¬q=k:=fun e=>c1 ⟨c2,e⟩
    repeat' (first|((with_reducible show aI _);first|exact True.intro|(simp only[vb,lb];omega)|(simp only[vb,lb,e1,f2,hlt,hj,hS,c2,c3];and_intros<;>first|omega|(simp<;>omega))|(simp[vb,e1,f2,hlt,hj,hS,c2,c3]<;>omega))|((with_reducible show aP _);first|exact True.intro|((try dsimp only[go_sem]);first|(simp[vb,e1,f2,hlt,hj,hS,c2,c3]<;>omega)|(simp only[vb,and_true,true_implies];(repeat' (first|(with_reducible assumption)|(with_reducible apply And.intro)|intro _|((fail_if_success (with_reducible show(_:Int)≤_));assumption)))<;>first|omega|rfl|(simp only[ab,e1,f2,hlt,hj,hS,c2,c3];done)|(simp[Nat.mul_one,e1,f2,hlt,hj,hS,c2,c3]<;>omega)|(simp_all;done))))|exact(rfl:some _=_)|((fail_if_success refine aZ ?_);refine dS [(38,fun _=>some (.int .i64 q))] [ξ 23 (.bool true),ξ 30 (bU x),ξ 33 (.bool false),ξ 39 (.bool true)] ?_;(repeat1' dsimp only[wZ,aa,bp,bU,aJ,br,ar,aG,aC,ai,gU,aW,go_sem]);first|refine ba ?_ ?_ rfl ?_|apply bb|apply bf|(refine bg (fun hc=>?_) fun hc=>?_<;>first|(cases hc;done)|(exfalso;first|(simp at hc<;>omega)|(simp[e1,f2,hlt,hj,hS,c2,c3]at hc;done))|(try simp only[bn]at hc;try contradiction))|skip))
    exact⟨(i,a,b,c),by simp,⟨by simp;omega,p2,p3,p4,p5⟩,by (repeat' (first|exact trivial|refine And.intro (by first|rfl|(simp[get,Nat.beq]<;>omega)|(dsimp only[get];congr 1<;>first|rfl|omega|(simp<;>omega))) ?_)),_,rfl⟩
   repeat' (first|((with_reducible show aI _);first|exact True.intro|(simp only[vb,lb];omega)|(simp only[vb,lb,e1,f2,hlt,hj,hS,c2];and_intros<;>first|omega|(simp<;>omega))|(simp[vb,e1,f2,hlt,hj,hS,c2]<;>omega))|((with_reducible show aP _);first|exact True.intro|((try dsimp only[go_sem]);first|(simp[vb,e1,f2,hlt,hj,hS,c2]<;>omega)|(simp only[vb,and_true,true_implies];(repeat' (first|(with_reducible assumption)|(with_reducible apply And.intro)|intro _|((fail_if_success (with_reducible show(_:Int)≤_));assumption)))<;>first|omega|rfl|(simp only[ab,e1,f2,hlt,hj,hS,c2];done)|(simp[Nat.mul_one,e1,f2,hlt,hj,hS,c2]<;>omega)|(simp_all;done))))|exact(rfl:some _=_)|((fail_if_success refine aZ ?_);refine dS [(38,fun _=>some (.int .i64 q))] [ξ 23 (.bool true),ξ 30 (bU x),ξ 33 (.bool true)] ?_;(repeat1' dsimp only[wZ,aa,bp,bU,aJ,br,ar,aG,aC,ai,gU,aW,go_sem]);first|refine ba ?_ ?_ rfl ?_|apply bb|apply bf|(refine bg (fun hc=>?_) fun hc=>?_<;>first|(cases hc;done)|(exfalso;first|(simp at hc<;>omega)|(simp[e1,f2,hlt,hj,hS,c2]at hc;done))|(try simp only[bn]at hc;try contradiction))|skip))
   exact⟨(i,a,b,c),by simp,⟨by simp;omega,p2,p3,p4,p5⟩,by (repeat' (first|exact trivial|refine And.intro (by first|rfl|(simp[get,Nat.beq]<;>omega)|(dsimp only[get];congr 1<;>first|rfl|omega|(simp<;>omega))) ?_)),_,rfl⟩
 have hz:=fin hj;clear fin p2;subst hz;simp only at hr;have t1:=ql h.l k hk;have t2:=ht _ (bX (d:=zx) hk);generalize (h.l.getD k zx).tick=tk at *;by_cases a1:0≤a
 ·obtain⟨na,rfl⟩:∃na:Nat,a=na:=⟨a.toNat,by omega⟩
  have t5:=Dv h.l na (by omega);have la1:na<h.l.length:=by omega
  rw[Int.toNat_natCast]at hr;generalize (h.l.getD na zx).out.kind=ak at *;by_cases a2:ak=2
  ·have hw:(if 0≤(na:Int)∧ak=2 then f.waited+1 else f.waited)=f.waited+1:=if_pos ⟨a1,a2⟩;rw[hw]at hr;by_cases b1:0≤b
   ·obtain⟨nb,rfl⟩:∃nb:Nat,b=nb:=⟨b.toNat,by omega⟩
    have t3:=ql h.l nb (by omega);have t4:=ht _ (bX (l:=h.l) (k:=nb) (d:=zx) (by omega));have lb1:nb<h.l.length:=by omega
    rw[if_pos b1,Int.toNat_natCast]at hr;generalize (h.l.getD nb zx).tick=tb at *;subst hr;repeat' (first|((with_reducible show aI _);first|exact True.intro|(simp only[vb,lb];omega)|(simp only[vb,lb,hj,t1,t3,f2,hk,lb1,b1,t5,la1,a1,a2];and_intros<;>first|omega|(simp<;>omega))|(simp[vb,hj,t1,t3,f2,hk,lb1,b1,t5,la1,a1,a2]<;>omega))|((with_reducible show aP _);first|exact True.intro|((try dsimp only[go_sem]);first|(simp[vb,hj,t1,t3,f2,hk,lb1,b1,t5,la1,a1,a2]<;>omega)|(simp only[vb,and_true,true_implies];(repeat' (first|(with_reducible assumption)|(with_reducible apply And.intro)|intro _|((fail_if_success (with_reducible show(_:Int)≤_));assumption)))<;>first|omega|rfl|(simp only[ab,hj,t1,t3,f2,hk,lb1,b1,t5,la1,a1,a2];done)|(simp[Nat.mul_one,hj,t1,t3,f2,hk,lb1,b1,t5,la1,a1,a2]<;>omega)|(simp_all;done))))|exact(rfl:some _=_)|((fail_if_success refine aZ ?_);refine cu [ξ 23 (.bool false),ξ 53 (.bool true),ξ 61 (.int .i64 ak),ξ 62 (.bool true),ξ 69 (.bool true),ξ 75 (.int .i64 tb),ξ 81 (.int .i64 tk)] ?_;(repeat1' dsimp only[wZ,aa,bp,bU,aJ,br,ar,aG,aC,ai,gU,aW,go_sem]);first|refine ba ?_ ?_ rfl ?_|apply bb|apply bf|(refine bg (fun hc=>?_) fun hc=>?_<;>first|(cases hc;done)|(exfalso;first|(simp at hc<;>omega)|(simp[hj,t1,t3,f2,hk,lb1,b1,t5,la1,a1,a2]at hc;done))|(try simp only[bn]at hc;try contradiction))|skip))
    rw[vf]
   rw[if_neg b1]at hr;by_cases d1:0≤c
   ·rw[if_pos d1]at hr;subst hr;repeat' (first|((with_reducible show aI _);first|exact True.intro|(simp only[vb,lb];omega)|(simp only[vb,lb,hj,f2,hk,b1,d1,t5,la1,a1,a2];and_intros<;>first|omega|(simp<;>omega))|(simp[vb,hj,f2,hk,b1,d1,t5,la1,a1,a2]<;>omega))|((with_reducible show aP _);first|exact True.intro|((try dsimp only[go_sem]);first|(simp[vb,hj,f2,hk,b1,d1,t5,la1,a1,a2]<;>omega)|(simp only[vb,and_true,true_implies];(repeat' (first|(with_reducible assumption)|(with_reducible apply And.intro)|intro _|((fail_if_success (with_reducible show(_:Int)≤_));assumption)))<;>first|omega|rfl|(simp only[ab,hj,f2,hk,b1,d1,t5,la1,a1,a2];done)|(simp[Nat.mul_one,hj,f2,hk,b1,d1,t5,la1,a1,a2]<;>omega)|(simp_all;done))))|exact(rfl:some _=_)|((fail_if_success refine aZ ?_);refine cu [ξ 23 (.bool false),ξ 53 (.bool true),ξ 61 (.int .i64 ak),ξ 62 (.bool true),ξ 69 (.bool false),ξ 98 (.bool true)] ?_;(repeat1' dsimp only[wZ,aa,bp,bU,aJ,br,ar,aG,aC,ai,gU,aW,go_sem]);first|refine ba ?_ ?_ rfl ?_|apply bb|apply bf|(refine bg (fun hc=>?_) fun hc=>?_<;>first|(cases hc;done)|(exfalso;first|(simp at hc<;>omega)|(simp[hj,f2,hk,b1,d1,t5,la1,a1,a2]at hc;done))|(try simp only[bn]at hc;try contradiction))|skip))
   rw[if_neg d1]at hr;subst hr;repeat' (first|((with_reducible show aI _);first|exact True.intro|(simp only[vb,lb];omega)|(simp only[vb,lb,hj,f2,hk,b1,d1,t5,la1,a1,a2];and_intros<;>first|omega|(simp<;>omega))|(simp[vb,hj,f2,hk,b1,d1,t5,la1,a1,a2]<;>omega))|((with_reducible show aP _);first|exact True.intro|((try dsimp only[go_sem]);first|(simp[vb,hj,f2,hk,b1,d1,t5,la1,a1,a2]<;>omega)|(simp only[vb,and_true,true_implies];(repeat' (first|(with_reducible assumption)|(with_reducible apply And.intro)|intro _|((fail_if_success (with_reducible show(_:Int)≤_));assumption)))<;>first|omega|rfl|(simp only[ab,hj,f2,hk,b1,d1,t5,la1,a1,a2];done)|(simp[Nat.mul_one,hj,f2,hk,b1,d1,t5,la1,a1,a2]<;>omega)|(simp_all;done))))|exact(rfl:some _=_)|((fail_if_success refine aZ ?_);refine cu [ξ 23 (.bool false),ξ 53 (.bool true),ξ 61 (.int .i64 ak),ξ 62 (.bool true),ξ 69 (.bool false),ξ 98 (.bool false)] ?_;(repeat1' dsimp only[wZ,aa,bp,bU,aJ,br,ar,aG,aC,ai,gU,aW,go_sem]);first|refine ba ?_ ?_ rfl ?_|apply bb|apply bf|(refine bg (fun hc=>?_) fun hc=>?_<;>first|(cases hc;done)|(exfalso;first|(simp at hc<;>omega)|(simp[hj,f2,hk,b1,d1,t5,la1,a1,a2]at hc;done))|(try simp only[bn]at hc;try contradiction))|skip))
  have hw:(if 0≤(na:Int)∧ak=2 then f.waited+1 else f.waited)=f.waited:=if_neg fun e=>a2 e.2
  rw[hw]at hr;by_cases b1:0≤b
  ·obtain⟨nb,rfl⟩:∃nb:Nat,b=nb:=⟨b.toNat,by omega⟩
   have t3:=ql h.l nb (by omega);have t4:=ht _ (bX (l:=h.l) (k:=nb) (d:=zx) (by omega));have lb1:nb<h.l.length:=by omega
   rw[if_pos b1,Int.toNat_natCast]at hr;generalize (h.l.getD nb zx).tick=tb at *;subst hr;repeat' (first|((with_reducible show aI _);first|exact True.intro|(simp only[vb,lb];omega)|(simp only[vb,lb,hj,t1,t3,f2,hk,lb1,b1,t5,la1,a1,a2];and_intros<;>first|omega|(simp<;>omega))|(simp[vb,hj,t1,t3,f2,hk,lb1,b1,t5,la1,a1,a2]<;>omega))|((with_reducible show aP _);first|exact True.intro|((try dsimp only[go_sem]);first|(simp[vb,hj,t1,t3,f2,hk,lb1,b1,t5,la1,a1,a2]<;>omega)|(simp only[vb,and_true,true_implies];(repeat' (first|(with_reducible assumption)|(with_reducible apply And.intro)|intro _|((fail_if_success (with_reducible show(_:Int)≤_));assumption)))<;>first|omega|rfl|(simp only[ab,hj,t1,t3,f2,hk,lb1,b1,t5,la1,a1,a2];done)|(simp[Nat.mul_one,hj,t1,t3,f2,hk,lb1,b1,t5,la1,a1,a2]<;>omega)|(simp_all;done))))|exact(rfl:some _=_)|((fail_if_success refine aZ ?_);refine cu [ξ 23 (.bool false),ξ 53 (.bool true),ξ 61 (.int .i64 ak),ξ 62 (.bool false),ξ 69 (.bool true),ξ 75 (.int .i64 tb),ξ 81 (.int .i64 tk)] ?_;(repeat1' dsimp only[wZ,aa,bp,bU,aJ,br,ar,aG,aC,ai,gU,aW,go_sem]);first|refine ba ?_ ?_ rfl ?_|apply bb|apply bf|(refine bg (fun hc=>?_) fun hc=>?_<;>first|(cases hc;done)|(exfalso;first|(simp at hc<;>omega)|(simp[hj,t1,t3,f2,hk,lb1,b1,t5,la1,a1,a2]at hc;done))|(try simp only[bn]at hc;try contradiction))|skip))
   rw[vf]
  rw[if_neg b1]at hr;by_cases d1:0≤c
  ·rw[if_pos d1]at hr;subst hr;repeat' (first|((with_reducible show aI _);first|exact True.intro|(simp only[vb,lb];omega)|(simp only[vb,lb,hj,f2,hk,b1,d1,t5,la1,a1,a2];and_intros<;>first|omega|(simp<;>omega))|(simp[vb,hj,f2,hk,b1,d1,t5,la1,a1,a2]<;>omega))|((with_reducible show aP _);first|exact True.intro|((try dsimp only[go_sem]);first|(simp[vb,hj,f2,hk,b1,d1,t5,la1,a1,a2]<;>omega)|(simp only[vb,and_true,true_implies];(repeat' (first|(with_reducible assumption)|(with_reducible apply And.intro)|intro _|((fail_if_success (with_reducible show(_:Int)≤_));assumption)))<;>first|omega|rfl|(simp only[ab,hj,f2,hk,b1,d1,t5,la1,a1,a2];done)|(simp[Nat.mul_one,hj,f2,hk,b1,d1,t5,la1,a1,a2]<;>omega)|(simp_all;done))))|exact(rfl:some _=_)|((fail_if_success refine aZ ?_);refine cu [ξ 23 (.bool false),ξ 53 (.bool true),ξ 61 (.int .i64 ak),ξ 62 (.bool false),ξ 69 (.bool false),ξ 98 (.bool true)] ?_;(repeat1' dsimp only[wZ,aa,bp,bU,aJ,br,ar,aG,aC,ai,gU,aW,go_sem]);first|refine ba ?_ ?_ rfl ?_|apply bb|apply bf|(refine bg (fun hc=>?_) fun hc=>?_<;>first|(cases hc;done)|(exfalso;first|(simp at hc<;>omega)|(simp[hj,f2,hk,b1,d1,t5,la1,a1,a2]at hc;done))|(try simp only[bn]at hc;try contradiction))|skip))
  rw[if_neg d1]at hr;subst hr;repeat' (first|((with_reducible show aI _);first|exact True.intro|(simp only[vb,lb];omega)|(simp only[vb,lb,hj,f2,hk,b1,d1,t5,la1,a1,a2];and_intros<;>first|omega|(simp<;>omega))|(simp[vb,hj,f2,hk,b1,d1,t5,la1,a1,a2]<;>omega))|((with_reducible show aP _);first|exact True.intro|((try dsimp only[go_sem]);first|(simp[vb,hj,f2,hk,b1,d1,t5,la1,a1,a2]<;>omega)|(simp only[vb,and_true,true_implies];(repeat' (first|(with_reducible assumption)|(with_reducible apply And.intro)|intro _|((fail_if_success (with_reducible show(_:Int)≤_));assumption)))<;>first|omega|rfl|(simp only[ab,hj,f2,hk,b1,d1,t5,la1,a1,a2];done)|(simp[Nat.mul_one,hj,f2,hk,b1,d1,t5,la1,a1,a2]<;>omega)|(simp_all;done))))|exact(rfl:some _=_)|((fail_if_success refine aZ ?_);refine cu [ξ 23 (.bool false),ξ 53 (.bool true),ξ 61 (.int .i64 ak),ξ 62 (.bool false),ξ 69 (.bool false),ξ 98 (.bool false)] ?_;(repeat1' dsimp only[wZ,aa,bp,bU,aJ,br,ar,aG,aC,ai,gU,aW,go_sem]);first|refine ba ?_ ?_ rfl ?_|apply bb|apply bf|(refine bg (fun hc=>?_) fun hc=>?_<;>first|(cases hc;done)|(exfalso;first|(simp at hc<;>omega)|(simp[hj,f2,hk,b1,d1,t5,la1,a1,a2]at hc;done))|(try simp only[bn]at hc;try contradiction))|skip))
 have hw:(if 0≤a∧(h.l.getD a.toNat zx).out.kind=2 then f.waited+1 else f.waited)=f.waited:=if_neg fun e=>a1 e.1
 rw[hw]at hr;by_cases b1:0≤b
 ·obtain⟨nb,rfl⟩:∃nb:Nat,b=nb:=⟨b.toNat,by omega⟩
  have t3:=ql h.l nb (by omega);have t4:=ht _ (bX (l:=h.l) (k:=nb) (d:=zx) (by omega));have lb1:nb<h.l.length:=by omega
  rw[if_pos b1,Int.toNat_natCast]at hr;generalize (h.l.getD nb zx).tick=tb at *;subst hr;repeat' (first|((with_reducible show aI _);first|exact True.intro|(simp only[vb,lb];omega)|(simp only[vb,lb,hj,t1,t3,f2,hk,lb1,b1,a1];and_intros<;>first|omega|(simp<;>omega))|(simp[vb,hj,t1,t3,f2,hk,lb1,b1,a1]<;>omega))|((with_reducible show aP _);first|exact True.intro|((try dsimp only[go_sem]);first|(simp[vb,hj,t1,t3,f2,hk,lb1,b1,a1]<;>omega)|(simp only[vb,and_true,true_implies];(repeat' (first|(with_reducible assumption)|(with_reducible apply And.intro)|intro _|((fail_if_success (with_reducible show(_:Int)≤_));assumption)))<;>first|omega|rfl|(simp only[ab,hj,t1,t3,f2,hk,lb1,b1,a1];done)|(simp[Nat.mul_one,hj,t1,t3,f2,hk,lb1,b1,a1]<;>omega)|(simp_all;done))))|exact(rfl:some _=_)|((fail_if_success refine aZ ?_);refine cu [ξ 23 (.bool false),ξ 53 (.bool false),ξ 61 (.int .i64 0),ξ 69 (.bool true),ξ 75 (.int .i64 tb),ξ 81 (.int .i64 tk)] ?_;(repeat1' dsimp only[wZ,aa,bp,bU,aJ,br,ar,aG,aC,ai,gU,aW,go_sem]);first|refine ba ?_ ?_ rfl ?_|apply bb|apply bf|(refine bg (fun hc=>?_) fun hc=>?_<;>first|(cases hc;done)|(exfalso;first|(simp at hc<;>omega)|(simp[hj,t1,t3,f2,hk,lb1,b1,a1]at hc;done))|(try simp only[bn]at hc;try contradiction))|skip))
  rw[vf]
 rw[if_neg b1]at hr;by_cases d1:0≤c
 ·rw[if_pos d1]at hr;subst hr;repeat' (first|((with_reducible show aI _);first|exact True.intro|(simp only[vb,lb];omega)|(simp only[vb,lb,hj,f2,hk,b1,d1,a1];and_intros<;>first|omega|(simp<;>omega))|(simp[vb,hj,f2,hk,b1,d1,a1]<;>omega))|((with_reducible show aP _);first|exact True.intro|((try dsimp only[go_sem]);first|(simp[vb,hj,f2,hk,b1,d1,a1]<;>omega)|(simp only[vb,and_true,true_implies];(repeat' (first|(with_reducible assumption)|(with_reducible apply And.intro)|intro _|((fail_if_success (with_reducible show(_:Int)≤_));assumption)))<;>first|omega|rfl|(simp only[ab,hj,f2,hk,b1,d1,a1];done)|(simp[Nat.mul_one,hj,f2,hk,b1,d1,a1]<;>omega)|(simp_all;done))))|exact(rfl:some _=_)|((fail_if_success refine aZ ?_);refine cu [ξ 23 (.bool false),ξ 53 (.bool false),ξ 61 (.int .i64 0),ξ 69 (.bool false),ξ 98 (.bool true)] ?_;(repeat1' dsimp only[wZ,aa,bp,bU,aJ,br,ar,aG,aC,ai,gU,aW,go_sem]);first|refine ba ?_ ?_ rfl ?_|apply bb|apply bf|(refine bg (fun hc=>?_) fun hc=>?_<;>first|(cases hc;done)|(exfalso;first|(simp at hc<;>omega)|(simp[hj,f2,hk,b1,d1,a1]at hc;done))|(try simp only[bn]at hc;try contradiction))|skip))
 rw[if_neg d1]at hr;subst hr;repeat' (first|((with_reducible show aI _);first|exact True.intro|(simp only[vb,lb];omega)|(simp only[vb,lb,hj,f2,hk,b1,d1,a1];and_intros<;>first|omega|(simp<;>omega))|(simp[vb,hj,f2,hk,b1,d1,a1]<;>omega))|((with_reducible show aP _);first|exact True.intro|((try dsimp only[go_sem]);first|(simp[vb,hj,f2,hk,b1,d1,a1]<;>omega)|(simp only[vb,and_true,true_implies];(repeat' (first|(with_reducible assumption)|(with_reducible apply And.intro)|intro _|((fail_if_success (with_reducible show(_:Int)≤_));assumption)))<;>first|omega|rfl|(simp only[ab,hj,f2,hk,b1,d1,a1];done)|(simp[Nat.mul_one,hj,f2,hk,b1,d1,a1]<;>omega)|(simp_all;done))))|exact(rfl:some _=_)|((fail_if_success refine aZ ?_);refine cu [ξ 23 (.bool false),ξ 53 (.bool false),ξ 61 (.int .i64 0),ξ 69 (.bool false),ξ 98 (.bool false)] ?_;(repeat1' dsimp only[wZ,aa,bp,bU,aJ,br,ar,aG,aC,ai,gU,aW,go_sem]);first|refine ba ?_ ?_ rfl ?_|apply bb|apply bf|(refine bg (fun hc=>?_) fun hc=>?_<;>first|(cases hc;done)|(exfalso;first|(simp at hc<;>omega)|(simp[hj,f2,hk,b1,d1,a1]at hc;done))|(try simp only[bn]at hc;try contradiction))|skip))
end
end Pur
end
end Go.Proofs.YtfgcmogbdcifeaaGreatDoor
