/-
  RefutationFound: the search for a counterexample ends, and what it names is one
-/
import Derived.Test.YtaleoeblooeglaaGreatDoorN03
import Derived.WalkKit
import Derived.Tactics
import Derived.Tactics2
import Derived.Defers
import Derived.Recover
import Derived.Shelf.Spec.SlicesGrow
set_option maxRecDepth 10000
set_option maxHeartbeats 32000000
set_option linter.unusedSimpArgs false
set_option linter.unusedVariables false
namespace Go.Proofs.YtaleoeblooeglaaGreatDoor
open Go.RowKit
attribute [local go_sem] Pur.ξ Pur.bN Pur.gv Pur.ca Pur.bz Pur.cI Pur.ji List.map Pur.bA Pur.aP Pur.get Pur.put Pur.tmpsOf Pur.eK Pur.mB Pur.kU Pur.ly Pur.conds Pur.ev cond_true cond_false Nat.beq Nat.ble Nat.add Pur.quiet Pur.eL Pur.cW Pur.dn Pur.wg List.append_eq List.nil_append List.cons_append Pur.eJ Pur.eh Pur.ei Pur.ek Pur.eo Pur.ep Pur.eu Pur.iB Pur.iq Pur.eR Pur.mE Pur.fK Pur.calm Pur.quiet.isCallK Pur.dd List.getElem?_cons_zero List.getElem?_cons_succ Pur.bV Pur.cX Pur.cellsOf List.all Pur.bP List.length_cons List.length_nil Pur.gV Pur.br List.drop List.take List.getD Option.getD_some Pur.Ab Pur.Ac Pur.yX Pur.Ad Pur.Ae Pur.Af Pur.iJ Pur.kL Pur.iK Pur.iL Pur.setAt List.set Nat.reduceAdd Nat.reduceMul Pur.cR Pur.bM Pur.refsOf Pur.bT Pur.b8 Pur.scalar Pur.dk Pur.fN Pur.cv Pur.dj Pur.a6 Pur.after Pur.freeze Pur.iV Pur.lR Pur.aZ Pur.eX Pur.gx Pur.gk Pur.gN Pur.fQ Pur.fR Pur.dY Pur.fS Pur.fT Pur.fW Pur.fX Pur.fY Pur.fZ Pur.ga Pur.gf Pur.gg Pur.gi Pur.gj Pur.dZ Pur.ea Pur.ec Pur.eS Pur.mF Pur.bytesOf Pur.bX Pur.eF Pur.aX Pur.bY Pur.fe Pur.bU Pur.cS Pur.dm Pur.still Pur.cx Pur.fM Pur.dO Pur.gR Pur.bZ Pur.gO List.isEmpty Pur.ed Pur.ef Pur.eg Int.reduceToNat Nat.mul_one Nat.reduceSub Pur.vj Pur.eG Pur.c8 Pur.eY Pur.dL Pur.look Pur.eZ Pur.strip Pur.guarded Pur.jw Pur.jO Pur.gU Pur.dC Pur.gQ Pur.dB Pur.kC Pur.fU Pur.fV Bool.or_false Bool.or_true Bool.and_true Bool.and_false Nat.blt Pur.gu Pur.gW Pur.gy Pur.dx Pur.idxOf Pur.iW Pur.ko Pur.mC Pur.gr Pur.qY
section
namespace Pur
section
open Rf
def ic:eN:=⟨[.pv (.int .i64 0),.pv .nilsl,.pv (.int .i64 0),.pv (.int .i64 0),.pv .nilsl],0,5,25,false⟩
theorem xQ (p q:Value) (w:World) :
  CallsD Tryz.prog 54 #[p,q] .returning w fun e u' w'=>e= .returned (.tuple #[])∧u'= .returning∧w'=w:=by
 refine callsD_of_wpS Tryz.func54 rfl fun c₀ cs hu=>?_
 apply wpS_seq;apply wpS_region;simp[wpOpsS,go_sem,recoverD,hu,Tryz.ntmps54,Exit.thenS];refine wpS_of_wp ?_;go_wp2
 cases c₀;simp_all [bodyPostS,results,Tryz.results54]
def pt:Code→List Nat→Code
 | .seq a _,0::l=>pt a l
 | .seq _ b,_::l=>pt b l
 | .cond _ a _,0::l=>pt a l
 | .cond _ _ b,_::l=>pt b l
 | .block _ a,_::l=>pt a l
 | .loop a,_::l=>pt a l
 |x,_=>x
def vJ (P:Program) (f:FuncId):Code:=match P.funcs[f]? with
 |some fn=>match fn.body with
  |some c=>c
  |none=>.skip
 |none=>.skip
def AI:Nat→Bool:=fun _=>false
def DN:av:=(⟨_,by conv=>(lhs;reduce;try simp only[G4,Int.cast_ofNat_Int,Int.reduceNegSucc,UInt8.reduceOfNat])⟩:{x // comp Tryz.prog AI 12 (pt (vJ Tryz.prog 54) [1,0,1,1,1,0,1])=some x}).1
theorem FH:comp Tryz.prog AI 12 (pt (vJ Tryz.prog 54) [1,0,1,1,1,0,1])=some DN:=by kernel_rfl
def iz (n:Int):eN:=⟨[.pv (.int .i64 n)],0,1,39,false⟩
def tS (a b c d e:AV):eN:=⟨[a,b,c,d,e],0,5,25,false⟩
theorem FI (a b c d e:AV) (tl:AM):MW (tS a b c d e::tl) (tS .any .any .any .any .any::tl) :=
 PW.cons ⟨PW.cons (CW.any _) (PW.cons (CW.any _) (PW.cons (CW.any _) (PW.cons (CW.any _) (PW.cons (CW.any _) PW.nil)))),rfl,rfl,rfl,rfl⟩ (MW.refl tl)
theorem DO (n:Int):Aw ctx AI 12 2 DN (fun e _ μ=>e= .normal∧∃junk,μ=[ic,iz 3]++junk) [(0,.ptr 0 0 0),(1,.ptr 1 0 0)] [tS .any .any .any .any .any,iz n]:=by
 unfold DN;refine bG ?_;dsimp only[tS,iz,go_sem];try dsimp only[tS,iz,go_sem]
 refine⟨(by simp[vb]<;>omega),(by simp[vb]<;>omega),?_⟩;exact⟨rfl,[],rfl⟩
theorem Wd.Ik {C:Ctx} {w0 w w':World} {S:Nat→Prop} {γ:Gh} {μ:AM} (hW:Wd C w0 S γ μ w) (hb:Below w.heap.size w w'):Ext w S γ w' S γ∧Wd C w0 S γ μ w':=by
 have hE:Ext w S γ w' S γ:=⟨⟨fun _ h=>h,fun g hg=>hb.block g (hW.live g hg)⟩,fun _ e h=>⟨e,h,Nat.le_refl _,fun _=>rfl⟩,fun _ h=>.inl h,fun b e h=>.inl ⟨b,e,h,rfl⟩,hb.size,fun g hg _=>hb.block g hg⟩
 exact⟨hE,hW.mem.stay hE.z (fun b e _ hlt=>hb.block _ hlt) (fun _ _ _ _ _ _ _ h=>h),hW.below.trans (hb.mono hW.below.size),fun g hg=>Nat.lt_of_lt_of_le (hW.live g hg) hb.size,hW.env⟩
theorem vL {w0 w:World} {S:Nat→Prop} {γ:Gh} (p q:Value) (n:Int) (hW:Wd ctx w0 S γ [tS .any .any .any .any .any,iz n] w) (hp:VR w S γ (.ptr 0 0 0) p) (hq:VR w S γ (.ptr 1 0 0) q) :
  CallsD Tryz.prog 54 #[p,q] (.panicking Pur.vD) w fun e u' w'=>e= .returned (.tuple #[])∧u'= .panicking [{v:=.iface 84 (.agg #[]),recovered:=true}]∧∃S' γ' junk,Ext w S γ w' S' γ'∧Wd ctx w0 S' γ' ([ic,iz 3]++junk) w':=by
 refine callsD_of_wpS Tryz.func54 rfl fun c₀ cs hu=>?_
 apply wpS_seq;apply wpS_region;simp[wpOpsS,go_sem,recoverD,hu,Tryz.ntmps54,Exit.thenS,Pur.vD];refine wpS_of_wp ?_;have hta:∀w:World,(Instr.typeAssert (.iface 84 (.agg #[])) 20 84 true).run Tryz.prog w= .ok (.tuple #[.agg #[],.bool true]) w:=fun _=>by kernel_rfl
 iterate 19 (go_step<;>try go_simp)
 refine wp_cond_true rfl ?_;iterate 8 (go_step<;>try go_simp)
 obtain⟨hE1,hW1⟩:=hW.Ik (w':=w.alloc (.cells #[] 84)) ((Below.refl _ w).alloc (Nat.le_refl _) _);refine wp_mono (DO n _ FH w0 S γ _ _ hW1 ⟨by simp,rfl,fun t=>?_⟩) fun ex a' w' hh=>?_
 ·match t with
  |0=>simpa [Act.eval,get,Nat.beq]using hp.ext hE1
  |1=>simpa [Act.eval,get,Nat.beq]using hq.ext hE1
  |t+2=>exact .any _
 obtain⟨S',γ',f',μ',g1,g2,g3,rfl,junk,rfl⟩:=hh;refine⟨g3.defers,_,rfl,.tuple #[],by simp[results,Tryz.results54],rfl,rfl,S',γ',?_,junk,g2⟩;refine hE1.trans ⟨g1.stay,fun b e hb=>g1.gh b e ?_ hb,g1.more,g1.cbs,g1.size,g1.frame⟩;exact Nat.lt_of_not_le fun h=>by rw[hW1.mem.none b (by simpa using h)]at hb;cases hb
noncomputable def B7 (path:List Nat):Code:=pt (vJ Tryz.prog 28) path
def DP:av:=(⟨_,by conv=>(lhs;reduce;try simp only[G4,Int.cast_ofNat_Int,Int.reduceNegSucc,UInt8.reduceOfNat])⟩:{x // comp Tryz.prog AI 35 (B7 [0])=some x}).1
def DQ:av:=(⟨_,by conv=>(lhs;reduce;try simp only[G4,Int.cast_ofNat_Int,Int.reduceNegSucc,UInt8.reduceOfNat])⟩:{x // comp Tryz.prog AI 35 (B7 [1,0])=some x}).1
def uH:av:=(⟨_,by conv=>(lhs;reduce;try simp only[G4,Int.cast_ofNat_Int,Int.reduceNegSucc,UInt8.reduceOfNat])⟩:{x // comp Tryz.prog AI 35 (B7 [1,1,1])=some x}).1
theorem DR:comp Tryz.prog AI 35 (B7 [0])=some DP:=by kernel_rfl
theorem DS:comp Tryz.prog AI 35 (B7 [1,0])=some DQ:=by kernel_rfl
theorem DT:comp Tryz.prog AI 35 (B7 [1,1,1])=some uH:=by kernel_rfl
theorem aq.FJ {C:Ctx} {g:FuncId} {ps:List PV} {r:PV} (h:aq C g ps r) (D:List Deferred):aq {C with D:=D} g ps r:=h
theorem aF.FJ {C:Ctx} {g:FuncId} {al:List AV} {μ μ':AM} {r:AV} (h:aF C g al μ r μ') (D:List Deferred):aF {C with D:=D} g al μ r μ' :=
 ⟨h.1,fun w0 S γ w vs hW hp=>(h.2 w0 S γ w vs ⟨hW.mem,hW.below,hW.live,hW.env⟩ hp).mono fun e w' hh=>by
  obtain⟨S',γ',v,h1,h2,h3,h4⟩:=hh;exact⟨S',γ',v,h1,h2,⟨h3.mem,h3.below,h3.live,h3.env⟩,h4⟩⟩
def l9:AF:=[(2,.ptr 0 0 0),(3,.ptr 1 0 0)]
def vM (p:PV):Exit→AF→AM→Prop:=fun e f μ=>match e with
 | .ret=>iV μ p (aZ f μ [.cell 2 5 true,.cell 3 1 false])
 | .panic c=>c=vD∧p= .tup [.agg [.int .i64 0,.nilsl,.int .i64 0,.int .i64 0,.nilsl],.int .i64 3]∧Sub l9 f∧∃a b c d e n junk,μ=[tS a b c d e,iz n]++junk
 |_=>False
noncomputable def qO:ld where
 fns:=[]
 pure:=[(55,fun ps=>match ps with|[.str s,.str [c]]=>bif Nat.ble s.length 1000 then some (vC (Dr c s)) else none|_=>none),(26,Hw)]
 ref:=[(56,GV)]
theorem nx (D:List Deferred):jx {ctx with D:=D} qO where
 dz:=.inr rfl
 fns g e h:=by cases h
 pure g s h ps r hr:=by
  have h:=j8 h;simp only[qO,List.mem_cons,Prod.mk.injEq,List.not_mem_nil,or_false]at h;rcases h with⟨rfl,rfl⟩|⟨rfl,rfl⟩
  ·dsimp only at hr;split at hr
   ·rw[cond_eq_ite]at hr;split at hr
    ·rename_i hb;have:=Nat.le_of_ble_eq_true hb;injection hr with hr
     subst hr;exact aq.FJ (xD _ _ (by omega)) D
    cases hr
   cases hr
  exact aq.FJ (AH ps r hr) D
 ref g s h μ vs r μ' hr:=by
  have h:=j8 h;simp only[qO,List.mem_cons,Prod.mk.injEq,List.not_mem_nil,or_false]at h;obtain⟨rfl,rfl⟩:=h;exact aF.FJ (DM _ _ _ _ hr) D
theorem vN {C:Ctx} {T:ld} (hT:jx C T) {k:Nat} {a b:av} {f f1:AF} {μ μ1:AM} {own:Nat→Bool} {n m:Nat} {R:Exit→AF→AM→Prop} (h:run T k a f μ=some (.normal,f1,μ1)) (h2:Aw C own n m b R f1 μ1):Aw C own n m (.seq a b) R f μ :=
 eE (dX (nd hT k _ _ _ _ _ _ h own n m) fun e f' μ' hh=>by obtain⟨rfl,rfl,rfl⟩:=hh;exact h2)
def AJ (p:PV):RR→Prop
 |some (.ret,f,μ)=>iV μ p (aZ f μ [.cell 2 5 true,.cell 3 1 false])
 |_=>False
theorem DU {C:Ctx} {T:ld} (hT:jx C T) {k:Nat} {a:av} {f:AF} {μ:AM} {own:Nat→Bool} {n m:Nat} {p:PV} (h:AJ p (run T k a f μ)):Aw C own n m a (vM p) f μ:=by
 unfold AJ at h;split at h
 ·rename_i f1 μ1 hr;exact dX (nd hT k _ _ _ _ _ _ hr own n m) fun e f' μ' hh=>by obtain⟨rfl,rfl,rfl⟩:=hh;exact h
 exact h.elim
def Hx:RR→Option PV
 |some (.ret,f,μ)=>Bj [.cell 2 5 true,.cell 3 1 false] f μ
 |_=>none
theorem FK {p:PV} {r:RR} (h:Hx r=some p):AJ p r:=by
 unfold Hx at h;split at h
 ·rename_i f μ;unfold Bj at h;unfold AJ iV;split at h
  ·rename_i vc v hv;simp only[hv];rw[cond_eq_ite]at h;split at h
   ·rename_i hc;exact⟨gA hc,h⟩
   cases h
  cases h
 cases h
def pB:PV:=.tup [.agg [.int .i64 0,.nilsl,.int .i64 0,.int .i64 0,.nilsl],.int .i64 3]
def pT:PV:=.tup [.agg [.int .i64 0,.sl 3 [.int .i64 0,.int .i64 1,.int .i64 0,.int .i64 0,.int .i64 2,.int .i64 1,.int .i64 0,.int .i64 0,.int .i64 0],.int .i64 0,.int .i64 0,.nilsl],.int .i64 0]
def f0 (s:List UInt8):AF:=[(0,.pv (.str s)),(2,.ptr 0 0 0),(3,.ptr 1 0 0)]
def m0:AM:=[ic,iz 0]
set_option maxRecDepth 100000 in
theorem Il:Hx (run qO 100 uH (f0 Hs) m0)=some pT:=by kernel_rfl
theorem Hy (D:List Deferred):Aw {ctx with D:=D} AI 35 2 uH (vM pT) (f0 Hs) m0 :=
 DU (nx D) (FK Il)
def ma:List Nat→av:=fun p=>uH.sub p
noncomputable def qu (a:av) (s:AF×AM):AF×AM:=match run qO 60 a s.1 s.2 with
 |some (.normal,f,μ)=>(f,μ)
 |_=>([],[])
def DV:RR→Bool
 |some (.normal,_,_)=>true
 |_=>false
theorem ry {a:av} {s:AF×AM} (h:DV (run qO 60 a s.1 s.2)=true):run qO 60 a s.1 s.2=some (.normal,(qu a s).1,(qu a s).2):=by
 unfold qu;generalize run qO 60 a s.1 s.2=r at *;unfold DV at h;split at h
 ·rfl
 cases h
noncomputable def sB:AF×AM:=qu (ma [1,1,0,1,0]) (qu (ma [1,1,0,0]) (qu (ma [1,0]) (qu (ma [0]) (f0 FE,m0))))
theorem J4:get sB.1 2= .ptr 0 0 0:=by kernel_rfl
theorem J5:get sB.1 3= .ptr 1 0 0:=by kernel_rfl
def Hz:AM→Bool
 |⟨[_,_,_,_,_],0,5,t,false⟩::⟨[.pv (.int .i64 _)],0,1,t',false⟩::_=>Nat.beq t 25&&Nat.beq t' 39
 |_=>false
theorem FL {μ:AM} (h:Hz μ=true):∃a b c d e n junk,μ=[tS a b c d e,iz n]++junk:=by
 unfold Hz at h;split at h
 ·simp only[Bool.and_eq_true,Nat.beq_eq]at h;obtain⟨rfl,rfl⟩:=h;exact⟨_,_,_,_,_,_,_,rfl⟩
 cases h
theorem J6:Hz sB.2=true:=by kernel_rfl
def HA:av→Option b5
 | .cond o _ _=>some o
 |_=>none
theorem J7:(HA (ma [1,1,0,1,1])).map (ev sB.1)=some (.pv (.bool true)):=by kernel_rfl
theorem HB (D:List Deferred):Aw {ctx with D:=D} AI 35 2 uH (vM pB) (f0 FE) m0:=by
 have h1:=ry (a:=ma [0]) (s:=(f0 FE,m0)) (by kernel_rfl);have h2:=ry (a:=ma [1,0]) (s:=qu (ma [0]) (f0 FE,m0)) (by kernel_rfl);have h3:=ry (a:=ma [1,1,0,0]) (s:=qu (ma [1,0]) (qu (ma [0]) (f0 FE,m0))) (by kernel_rfl);have h4:=ry (a:=ma [1,1,0,1,0]) (s:=qu (ma [1,1,0,0]) (qu (ma [1,0]) (qu (ma [0]) (f0 FE,m0)))) (by kernel_rfl);refine vN (nx D) (a:=ma [0]) h1 ?_;refine vN (nx D) (a:=ma [1,0]) h2 ?_;refine eE ?_;refine vN (nx D) (a:=ma [1,1,0,0]) h3 ?_
 refine vN (nx D) (a:=ma [1,1,0,1,0]) h4 ?_;have c:=J7;have g2:=J4;have g3:=J5;have gm:=J6;show Aw _ _ _ _ _ _ sB.1 sB.2;generalize sB.1=f at *;generalize sB.2=μ at *;refine rk (t:=true) (Option.some.inj c) ?_;refine G7 2 true [] ?_;simp only[CY,List.take_succ_cons,List.take_zero,List.getElem?_cons_succ,List.getElem?_cons_zero,go_sem,su];exact⟨trivial,trivial,rfl,rfl,⟨by simpa [get,put,Nat.beq]using g2,by simpa [get,put,Nat.beq]using g3,trivial⟩,FL gm⟩
theorem DW (s:List UInt8):Aw ctx AI 35 0 DP (fun e f μ=>e= .normal∧Sub ((0,.pv (.str s))::l9) f∧μ=[ic,iz 0]) [(0,.pv (.str s))] []:=by
 unfold DP;refine bG ?_;dsimp only[go_sem];try dsimp only[go_sem]
 refine⟨(by simp[vb]<;>omega),(by simp[vb]<;>omega),?_⟩;exact⟨rfl,by (repeat' (first|exact trivial|refine And.intro (by first|rfl|(simp[get,Nat.beq,l9]<;>omega)|(dsimp only[get];congr 1<;>first|rfl|omega|(simp<;>omega))) ?_)),rfl⟩
theorem FM (s:List UInt8) (hs:s.length≤65536):Aw ctx AI 35 2 DQ (fun e f μ=>e= .normal∧Sub ((0,.pv (.str s))::l9) f∧μ=[ic,iz 0]) ((0,.pv (.str s))::l9) [ic,iz 0]:=by
 unfold DQ l9;refine bG ?_;dsimp only[ic,iz,go_sem];try dsimp only[ic,iz,go_sem]
 refine⟨(by simp[vb]<;>omega),(by simp[vb]<;>omega),?_⟩;refine bG ?_;dsimp only[ic,iz,go_sem];refine⟨fun hc=>?_,fun hc=>?_⟩
 ·simp at hc;omega
 refine bG ?_;dsimp only[ic,iz,go_sem];exact⟨rfl,by (repeat' (first|exact trivial|refine And.intro (by first|rfl|(simp[get,Nat.beq,l9]<;>omega)|(dsimp only[get];congr 1<;>first|rfl|omega|(simp<;>omega))) ?_)),rfl⟩
theorem ig.zG {m:Nat} {w w':World} {S S':Nat→Prop} {γ γ':Gh} (h:ig m w S γ w' S' γ'):ig 0 w S γ w' S' γ':=⟨h.stay,fun b e hb=>absurd hb (by omega),h.more,h.cbs,h.size,h.frame⟩
theorem ig.Jr {w w':World} {S S':Nat→Prop} {γ γ' γ'':Gh} (h:ig 0 w S γ w' S' γ') (hs:∀b e,γ'' b=some e→γ' b=some e):ig 0 w S γ w' S' γ'':=⟨h.stay,fun b e hb=>absurd hb (by omega),h.more,fun b e hb=>h.cbs b e (hs b e hb),h.size,h.frame⟩
theorem s4 {w w':World} {S S':Nat→Prop} {γ':Gh} {a':Act} {μ:AM} {f:AF} {p:PV} (hE:ig 0 w S (fun _=>none) w' S' γ') (hW:Wd ctx w S' γ' μ w') (hF:FR [] 35 w' S' γ' f a') (he:iV μ p (aZ f μ [.cell 2 5 true,.cell 3 1 false])) :
  ∃u,(results Tryz.f28 a'.tmps).run Tryz.prog w'= .ok u w'∧∃v,Ending.returned u= .returned v∧Below w.heap.size w w'∧Is w' (fun g=>S g∨(w.heap.size≤g∧g<w'.heap.size)) p v:=by
 unfold iV at he;split at he
 ·rename_i vc v e1;obtain⟨e2,e3⟩:=he;obtain⟨u,hu,hv⟩:=kl (fn:=Tryz.f28) hW (hF:FR ctx.D 35 w' S' γ' f a') (by kernel_rfl) e1 e2;refine⟨u,hu,u,rfl,hW.below,(vf hW depth e3 hv).stay ⟨fun g hg=>?_,fun _ _=>rfl⟩⟩;rcases hg with hg|⟨b,e,he,rfl⟩
  ·rcases hE.more g hg with h|⟨b,e,h,-⟩|h
   ·exact .inl h
   ·cases h
   exact .inr ⟨h,hW.live g hg⟩
  rcases hE.cbs b e he with⟨b0,e0,h,-⟩|h
  ·cases h
  exact .inr ⟨h,hW.jt he⟩
 exact he.elim
theorem uI (s:List UInt8) (hlen:s.length≤65536) (p:PV) (hmain:∀D,Aw {ctx with D:=D} AI 35 2 uH (vM p) [(0,.pv (.str s)),(2,.ptr 0 0 0),(3,.ptr 1 0 0)] [ic,iz 0]):aq ctx 28 [.str s] p:=by
 refine⟨by kernel_rfl,fun w S us hE hS hp=>?_⟩;have hW:Wd ctx w S (fun _=>none) [] w:=⟨⟨fun b k hk=>by simp at hk,fun b k hk=>by simp at hk,fun _ _=>rfl,fun b b' e e' h=>by cases h⟩,Below.refl _ _,hS,hE⟩
 have hpv:PW (VR w S (fun _=>none)) ([PV.str s].map .pv) us:=PW.jI hp;have hus:us.length≤35:=by rw[←hp.len];simp
 refine calls_of_wp_defers Tryz.func28 rfl (wp_seq ?_);refine wp_mono (DW s _ DR w S (fun _=>none) w _ hW (mT (fn:=Tryz.f28) hpv hus)) fun e1 a1 w1 hh=>?_
 obtain⟨S1,γ1,f1,μ1,x1,x2,x3,rfl,hs1,rfl⟩:=hh;refine wp_seq ?_;refine wp_mono (bq _ hs1 (FM s hlen) _ DS w S1 γ1 w1 a1 x2 x3) fun e2 a2 w2 hh=>?_
 obtain⟨S2,γ2,f2,μ2,y1,y2,y3,hy⟩:=hh;obtain⟨rfl,hs2,rfl⟩:=hy;show Code.wp Tryz.prog _ _ _ _;have hmf:∀(fn:Go.Fn) (first cap:Array Value) (w:World),(Instr.makeFunc fn first cap).run Tryz.prog w= .ok (.func fn first cap) w:=fun _ _ _ _=>rfl
 obtain⟨tm,df⟩:=a2;have hsz:tm.size=35:=y3.size;obtain rfl:df=[]:=y3.defers;iterate 9 (go_step<;>try go_simp)
 obtain⟨h0,h2,h3,-⟩:=hs2;have v0:=y3.val 0;have v2:=y3.val 2;have v3:=y3.val 3;rw[h0]at v0;rw[h2]at v2;rw[h3]at v3;have hE12:=x1.trans y1.zG;have hc54:eU ctx.P 54=true:=by kernel_rfl
 generalize hD:([{target:=Target.fn (Go.Fn.func 54) #[tm[2],tm[3]],args:=#[]}]:List Deferred)=D;refine wp_mono (hmain D _ DT w S2 γ2 w2 _ ⟨y2.mem,y2.below,y2.live,y2.env⟩ ⟨by simp[hsz],rfl,fun t=>?_⟩) fun e3 a3 w3 hh=>?_
 ·match t with
  |0=>simpa [Act.eval,get,Nat.beq]using v0
  |1=>exact .any _
  |2=>simpa [Act.eval,get,Nat.beq]using v2
  |3=>simpa [Act.eval,get,Nat.beq]using v3
  |t+4=>exact .any _
 obtain⟨S3,γ3,f3,μ3,z1,z2,z3,z4⟩:=hh;have w2':VR w2 S2 γ2 (.ptr 0 0 0) tm[2]:=by simpa [Act.eval,hsz]using v2
 have w3':VR w2 S2 γ2 (.ptr 1 0 0) tm[3]:=by simpa [Act.eval,hsz]using v3
 have hE3:Ext w2 S2 γ2 w3 S3 γ3:=⟨z1.stay,fun b e hb=>z1.gh b e (Nat.lt_of_not_le fun h=>by rw[y2.mem.none b (by simpa using h)]at hb;cases hb) hb,z1.more,z1.cbs,z1.size,z1.frame⟩
 cases e3 with
 |ret =>
  show Leaves _ _ _ _ a3.defers _ _;rw[show a3.defers=D from z3.defers,←hD];refine leaves_cons (f:=54) (args:=#[tm[2],tm[3]]) (by simp) (by simp[go_sem];exact iG hc54 _) ?_;refine(xQ _ _ w3).mono ?_;rintro e u' w'' ⟨rfl,rfl,rfl⟩;exact s4 (a':={a3 with defers:=[]}) (hE12.trans z1.zG) ⟨z2.mem,z2.below,z2.live,z2.env⟩ ⟨z3.size,rfl,z3.val⟩ z4
 |panic c =>
  obtain⟨rfl,rfl,k2,a,b,c,d,e,n,junk,rfl⟩:=z4;show Leaves _ _ _ _ a3.defers _ _;rw[show a3.defers=D from z3.defers,←hD];refine leaves_cons (f:=54) (args:=#[tm[2],tm[3]]) (by simp[vD]) (by simp[go_sem];exact iG hc54 _) ?_;have hγ:∀b,b<2→cw γ3 2 b=γ3 b:=fun b h=>by simp[cw,h]
  have hW3:Wd ctx w S3 γ3 ([tS .any .any .any .any .any,iz n]++junk) w3:=Wd.HV (⟨z2.mem,z2.below,z2.live,z2.env⟩:Wd ctx w S3 γ3 ([tS a b c d e,iz n]++junk) w3) (FI _ _ _ _ _ _);refine(vL _ _ n (hW3.drop (by rfl)) (lQ hγ 3 rfl (w2'.ext hE3)) (lQ hγ 3 rfl (w3'.ext hE3))).mono ?_;rintro e u' w4 ⟨rfl,rfl,S4,γ4,junk4,j1,j2⟩;have:=s4 (a':={a3 with defers:=[]}) (f:=l9) (p:=.tup [.agg [.int .i64 0,.nilsl,.int .i64 0,.int .i64 0,.nilsl],.int .i64 3]) (((hE12.trans z1.zG).Jr fun b e h=>?_).trans (j1.toM 0)) j2 ⟨z3.size,rfl,fun t=>?_⟩ (by
   unfold iV;simp only[aZ,go_sem,l9,ic,iz,List.cons_append,List.nil_append];exact⟨by simp[az],trivial⟩)
  ·exact this
  ·unfold cw at h;split at h
   ·exact h
   cases h
  obtain⟨q2,q3,-⟩:=k2;have u2:=z3.val 2;have u3:=z3.val 3;rw[q2]at u2;rw[q3]at u3;match t with
  |0=>exact .any _
  |1=>exact .any _
  |2=>exact(lQ hγ 3 rfl u2).ext j1
  |3=>exact(lQ hγ 3 rfl u3).ext j1
  |t+4=>exact .any _
 |_=>exact z4.elim
theorem FN:aq ctx 28 [.str Hs] pT:=uI Hs (by decide) pT Hy
theorem FO:aq ctx 28 [.str FE] pB:=uI FE (by decide) pB HB
end
section
open Rf
def Js:ld where
 fns:=Az
 pure:=[(13,oF fun x=>bif Nat.ble x.s.length 1000 then some (.bool (vH x)) else none),(15,oF fun x=>some (.int .i64 x.s.length)),(17,oF fun _=>some (.int .i64 1)),
  (26,oF fun x=>if x=JV then some (.tup [.str Hs,.int .i64 0]) else none),
  (28,fun ps=>match ps with
   |[.str s]=>if s=FE then some pB else if s=Hs then some pT else none
   |_=>none)]
 ref:=[]
 mem:=[77]
theorem DX:jx ctx Js where
 dz:=.inl rfl
 fns g e h:=by
  have key:∀(l:List (Nat×IJ)),(∀p∈l,∃own,bo Tryz.prog p.1 own=some (p.2.x,p.2.rs,p.2.n,true))→jP l g=some e→∃own,bo Tryz.prog g own=some (e.x,e.rs,e.n,true):=by
   intro l;induction l with
   |nil=>intro _ h;cases h
   |cons p r ih =>
    obtain⟨k,y⟩:=p;intro hl h;rw[jP]at h;cases hk:Nat.beq k g with
    |true =>
     rw[hk,cond_true]at h;injection h with h
     subst h;have:=Nat.eq_of_beq_eq_true hk;subst this;exact hl (k,y) (by simp)
    |false =>
     rw[hk,cond_false]at h;exact ih (fun p hp=>hl p (by simp[hp])) h
  exact key Az DC h
 pure g s h ps r hr:=by
  have look:∀{k:Nat} {x:List PV→Option PV} {l:List (Nat×(List PV→Option PV))},jP ((k,x)::l) g=some s→(k=g∧x=s)∨jP l g=some s:=fun {k x l} h=>by
   rw[jP]at h;cases hk:Nat.beq k g with
   |true =>
    rw[hk,cond_true]at h;injection h with h
    exact .inl ⟨Nat.eq_of_beq_eq_true hk,h⟩
   |false =>
    rw[hk,cond_false]at h;exact .inr h
  rcases look h with⟨rfl,rfl⟩|h
  ·refine lq (fun x r hw h=>?_) ps r hr;cases hb:Nat.ble x.s.length 1000 with
   |false=>rw[hb]at h;cases h
   |true =>
    rw[hb,cond_true]at h;injection h with h
    subst h;rw[←uG x (Nat.le_of_ble_eq_true hb)];exact sW x.t hw
  rcases look h with⟨rfl,rfl⟩|h
  ·refine lq (fun x r hw h=>?_) ps r hr;injection h with h
   subst h;have:=sV x.t hw;rw[Ht]at this;exact this
  rcases look h with⟨rfl,rfl⟩|h
  ·refine lq (fun x r hw h=>?_) ps r hr;injection h with h
   subst h;have:=DG x.t hw;rw[DK]at this;exact this
  rcases look h with⟨rfl,rfl⟩|h
  ·refine lq (fun x r hw h=>?_) ps r hr;split at h
   ·rename_i he;subst he;injection h with h
    subst h;exact AH _ _ Ij
   cases h
  rcases look h with⟨rfl,rfl⟩|h
  ·dsimp only at hr;split at hr
   ·split at hr
    ·rename_i he;subst he;injection hr with hr
     subst hr;exact FO
    split at hr
    ·rename_i he;subst he;injection hr with hr
     subst hr;exact FN
    cases hr
   cases hr
  cases h
 ref g s h:=by cases h
end
section
open Rf
set_option maxRecDepth 100000 in
theorem B8:wW Js (run Js 2000) 11 []=some (.bool true):=by kernel_rfl
theorem DY:aq ctx 11 [] (.bool true):=se DX (nd DX 2000) B8
end
end Pur
end
section
namespace Rf
open Pur (aC)
theorem gD:∀(n:Int) (l:List Tm) (last:Int),-1≤last→dM n last l=true→(l.length:Int)+last+1≤max n (last+1)∧∀t∈l,0≤t.cell∧last<t.cell∧t.cell<n∧t.fac≠0∧ -1000≤t.fac∧t.fac≤1000
 |n,[],last,h,_=>⟨by simp;omega,fun t ht=>by cases ht⟩
 |n,x::l,last,h,e=>by
  simp only[dM,aC,Bool.and_eq_true,decide_eq_true_eq]at e;obtain⟨⟨⟨⟨e1,e2⟩,e3⟩,e4,e5⟩,e6⟩:=e;obtain⟨g1,g2⟩:=gD n l x.cell (by omega) e6;refine⟨by simp;omega,fun t ht=>?_⟩;rcases List.mem_cons.mp ht with rfl|ht
  ·exact⟨by omega,e1,e2,e3,e4,e5⟩
  obtain⟨q1,q2,q3⟩:=g2 t ht;exact⟨q1,by omega,q3⟩
theorem vO {f v:Int} (h1: -1000≤f) (h2:f≤1000) (h3: -1000000≤v) (h4:v≤1000000): -1000000000≤f*v∧f*v≤1000000000:=by
 have a1:(f.natAbs:Int)≤1000:=by omega
 have a2:(v.natAbs:Int)≤1000000:=by omega
 have a3:f.natAbs*v.natAbs≤1000*1000000:=Nat.mul_le_mul (by omega) (by omega);have a4:(f*v).natAbs=f.natAbs*v.natAbs:=Int.natAbs_mul f v;omega
theorem iQ {r:Rg} (h:kW r=true): -1000000≤r.lo∧r.lo≤1000000∧ -1000000≤r.hi∧r.hi≤1000000:=by
 simp only[kW,aC,Bool.and_eq_true,decide_eq_true_eq]at h;omega
theorem cQ {b:List Rg} (h:bp b=true) (k:Nat):kW (b.getD k zr)=true:=by
 simp only[bp,Bool.and_eq_true]at h;by_cases hk:k<b.length
 ·exact List.all_eq_true.mp h.1 _ (Pur.aQ hk)
 rw[List.getD,List.getElem?_eq_none (by omega)];rfl
theorem vP {b:List Rg} {t:Tm} (hb:bp b=true) (h1: -1000≤t.fac) (h2:t.fac≤1000): -1000000000≤tR b t∧tR b t≤1000000000:=by
 have:=iQ (cQ hb t.cell.toNat);unfold tR;split
 ·exact vO h1 h2 (by omega) (by omega)
 exact vO h1 h2 (by omega) (by omega)
theorem ny {b:List Rg} (hb:bp b=true) (c:Int):∀(l:List Tm),(∀t∈l,-1000≤t.fac∧t.fac≤1000)→ -(1000000000*(l.length:Int))≤dF b c l∧dF b c l≤1000000000*(l.length:Int)
 |[],_=>by simp[dF]
 |t::r,h=>by
  obtain⟨g1,g2⟩:=ny hb c r fun x hx=>h x (by simp[hx])
  obtain⟨q1,q2⟩:=h t (by simp);have:=vP (t:=t) hb q1 q2;simp only[dF,List.length_cons,Int.natCast_add,Int.natCast_one];split<;>omega
theorem mb (b:List Rg) (c:Int):∀(l m:List Tm),dF b c (l++m)=dF b c l+dF b c m
 |[],m=>by simp[dF]
 |t::r,m=>by rw[List.cons_append,dF,dF,mb b c r m];omega
theorem qv (c:Int):∀(l:List Tm),(jL (fun t=>decide (t.cell=c)) l<0∧∀t∈l,t.cell≠c)∨(∃k:Nat,jL (fun t=>decide (t.cell=c)) l=k∧k<l.length∧kr c l=(l.getD k zm).fac)
 |[]=>.inl ⟨by simp[jL],fun t ht=>by cases ht⟩
 |t::r=>by
  by_cases h:t.cell=c
  ·exact .inr ⟨0,by simp[jL,List.findIdx?_cons,h],by simp,by simp[kr,h]⟩
  have e:jL (fun t=>decide (t.cell=c)) (t::r)=match r.findIdx? (fun t=>decide (t.cell=c)) with|some i=>(i:Int)+1|none=> -1:=by
   rw[jL,List.findIdx?_cons];simp only[h,decide_false,Bool.false_eq_true,if_false];cases r.findIdx? (fun t=>decide (t.cell=c))<;>simp
  rcases qv c r with⟨h1,h2⟩|⟨k,h1,h2,h3⟩
  ·refine .inl ⟨?_,fun x hx=>?_⟩
   ·rw[e];unfold jL at h1;cases hq:r.findIdx? (fun t=>decide (t.cell=c)) with
    |none=>simp
    |some i=>rw[hq]at h1;simp only at h1;omega
   rcases List.mem_cons.mp hx with rfl|hx
   ·exact h
   exact h2 x hx
  refine .inr ⟨k+1,?_,by simp;omega,?_⟩
  ·rw[e];unfold jL at h1;cases hq:r.findIdx? (fun t=>decide (t.cell=c)) with
   |none=>rw[hq]at h1;simp only at h1;omega
   |some i=>rw[hq]at h1;simp only at h1 ⊢;omega
  rw[kr,if_neg h,h3];simp
theorem oG (c:Int):∀(l:List Tm),(∀t∈l,t.cell≠c)→kr c l=0
 |[],_=>rfl
 |t::r,h=>by rw[kr,if_neg (h t (by simp)),oG c r fun x hx=>h x (by simp[hx])]
theorem s5 {b:List Rg} {r:Rw} (h:dN b [r]=true):bp b=true∧b.length≤128∧r.terms.length≤128∧ -1000000000≤r.bound∧r.bound≤1000000000∧∀t∈r.terms,0≤t.cell∧t.cell<b.length∧t.fac≠0∧ -1000≤t.fac∧t.fac≤1000:=by
 simp only[dN,List.all_cons,List.all_nil,Bool.and_true,Bool.and_eq_true,cN,aC,decide_eq_true_eq]at h;obtain⟨h1,h2,h3,h4⟩:=h;obtain⟨g1,g2⟩:=gD _ _ _ (by omega) h2;have hb:=h1;simp only[bp,Bool.and_eq_true,decide_eq_true_eq]at hb;refine⟨h1,hb.2,by omega,h3,h4,fun t ht=>?_⟩;obtain⟨q1,q2,q3⟩:=g2 t ht;exact⟨q1,q3⟩
theorem AK (a f:Int) (hf:0<f):a / f=if Int.tmod a f<0 then Int.tdiv a f-1 else Int.tdiv a f:=by
 rw[Int.tdiv_eq_ediv,Int.tmod_eq_emod];have h1:=Int.emod_nonneg a (show f≠0 by omega);have h2:=Int.emod_lt_of_pos a hf;have h3:f.sign=1:=Int.sign_eq_one_of_pos hf;have h4:(f.natAbs:Int)=f:=by omega
 by_cases h:0≤a∨f ∣ a
 ·simp[h];omega
 simp[h,h3,h4];omega
end Rf
namespace Pur
open Rf
theorem pw (a b:Int):(if a<b then b else a)=max a b:=by split<;>omega
theorem jm (a b:Int):(if b<a then b else a)=min a b:=by split<;>omega
theorem AL (x y:Rg):aq ctx 79 [.agg [.int .i64 x.lo,.int .i64 x.hi],.agg [.int .i64 y.lo,.int .i64 y.hi]] (.agg [.int .i64 (max x.lo y.lo),.int .i64 (min x.hi y.hi)]):=by
 refine an (C:=ctx) (Fn.of Ia rfl) rfl ?_;unfold IN;repeat' (first|((with_reducible first|show az _|show aB _);simp[vb]<;>omega)|exact(rfl:some _=_)|((fail_if_success refine aK ?_);refine bG ?_;(repeat1' dsimp only[IN,go_sem]);first|refine aL ?_ ?_ rfl ?_|apply aM|apply aN|(refine aO (fun hc=>?_) fun hc=>?_<;>first|(cases hc;done)|(exfalso;simp at hc<;>omega)|(try simp only[bn]at hc;try contradiction))|skip))
 rw[pw,jm]
theorem xR (a f:Int) (hf:0<f) (h1: -1000000000000≤a) (h2:a≤1000000000000) (h3:f≤1000000000000):aq ctx 150 [.int .i64 a,.int .i64 f] (.int .i64 (a / f)):=by
 have hd:(a.tmod f<0∧a / f=a.tdiv f-1)∨(0≤a.tmod f∧a / f=a.tdiv f):=by
  rw[AK a f hf];split<;>omega
 have g2:=Int.tmod_lt_of_pos a hf;have g3:=Int.lt_tmod_of_pos a hf;have g4:(a.tdiv f).natAbs≤a.natAbs:=Int.natAbs_tdiv_le_natAbs a f;have g5:a<0→a.tmod f≤0:=fun h=>by
  have:=Int.tmod_nonneg f (show 0≤ -a by omega);rw[Int.neg_tmod]at this;omega
 have g6:0≤a→0≤a.tmod f:=fun h=>Int.tmod_nonneg f h
 have hw:IntKind.i64.wrap (a.tdiv f)=a.tdiv f:=iu (by unfold pM;omega) (by unfold jH;omega);generalize a / f=q at *;refine an (C:=ctx) (Fn.of GQ rfl) rfl ?_;unfold Fu;repeat' (first|((with_reducible show az _);first|exact True.intro|(simp[vb]<;>omega))|((with_reducible show aB _);first|exact True.intro|((try dsimp only[go_sem]);(simp[vb]<;>omega)))|exact(rfl:some _=_)|((fail_if_success refine aK ?_);refine bw [(8,{mode:=1}),(11,{mode:=1})] ?_;(repeat1' dsimp only[Fu,go_sem]);first|refine aL ?_ ?_ rfl ?_|apply aM|apply aN|(refine aO (fun hc=>?_) fun hc=>?_<;>first|(cases hc;done)|(try simp only[bn]at hc;try contradiction))|skip))
 all_goals
  refine congrArg (fun x=>some (PV.int .i64 x)) ?_;simp only[show decide (f<0)=false from by simp;omega,decide_eq_false_iff_not]at hc;omega
theorem iR (b:List Rg) (c:Int) (h1:0≤c) (h2:c<b.length):((b.flatMap bS).drop (c.toNat*2)).take 2=[.int .i64 (b.getD c.toNat zr).lo,.int .i64 (b.getD c.toNat zr).hi] :=
 bQ ia b c.toNat zr (by omega)
theorem DZ (b:List Rg) (r:Rw) (c:Int) (hv:dN b [r]=true):aq ctx 149 [.agg [ar r.terms,.int .i64 r.bound],aa b,.int .i64 c,.int .i64 1] (.int .i64 (dF b c r.terms)):=by
 obtain⟨v1,v2,v3,v4,v5,v6⟩:=s5 hv;obtain⟨ts,bd⟩:=r;simp only at v3 v4 v5 v6 ⊢;clear hv;have f1:=fG ts;have f2:=bJ b;refine an (C:=ctx) (Fn.of GP rfl) rfl ?_;unfold xK;repeat' (first|((with_reducible first|show az _|show aB _);simp[vb]<;>omega)|exact(rfl:some _=_)|((fail_if_success refine aK ?_);refine bG ?_;(repeat1' dsimp only[xK,ar,aa,go_sem]);first|refine aL ?_ ?_ rfl ?_|apply aM|apply aN|(refine aO (fun hc=>?_) fun hc=>?_<;>first|(cases hc;done)|(exfalso;simp at hc<;>omega)|(try simp only[bn]at hc;try contradiction))|skip))
 refine a7 ts.length (fun _=>True) (fun k=>[(1,.pv (aa b)),(2,.pv (.int .i64 c)),(3,.pv (.int .i64 1)),(9,.pv (.int .i64 (dF b c (ts.take k)))),(14,.pv (ar ts)),(15,.pv (.int .i64 ts.length)),(16,.pv (.int .i64 k))]) (fun _=>[]) trivial (by (repeat' (first|exact trivial|refine And.intro (by first|rfl|(simp[get,Nat.beq,dF]<;>omega)|(dsimp only[get];congr 1<;>first|rfl|omega|(simp<;>omega))) ?_))) ⟨_,rfl⟩ (fun _=>⟨Nat.zero_le _,rfl,rfl⟩) fun k hk _=>?_
 by_cases hlt:k<ts.length
 ·have e:=bQ kO ts k zm hlt;have h1:=mb b c (ts.take k) [ts.getD k zm];rw[←aH ts k zm hlt,dF,dF]at h1;have h2:=ny v1 c (ts.take k) fun t ht=>by have:=v6 t (List.mem_of_mem_take ht);omega
  rw[List.length_take]at h2;obtain⟨q1,q2,q3,q4,q5⟩:=v6 _ (aQ (d:=zm) hlt);have h3:=vP (t:=ts.getD k zm) v1 q4 q5;unfold tR at h1 h3;rw[h1];clear h1 v6;generalize ts.getD k zm=x at *;have e2:=iR b x.cell q1 q2;generalize b.getD x.cell.toNat zr=y at *;generalize dF b c (ts.take k)=sm at *;by_cases hc:x.cell=c
  ·repeat' (first|((with_reducible show az _);first|exact True.intro|(simp only[vb,lb,e,e2,f1,f2,hlt,q1,q2,gZ,hc];and_intros<;>first|omega|(simp<;>omega)))|((with_reducible show aB _);first|exact True.intro|((try dsimp only[go_sem]);(simp[vb,e,e2,f1,f2,hlt,q1,q2,gZ,hc]<;>omega)))|exact(rfl:some _=_)|((fail_if_success refine aK ?_);refine bw [ξ 19 (.agg [.int .i64 x.cell,.int .i64 x.fac]),ξ 24 (.agg [.int .i64 y.lo,.int .i64 y.hi]),ξ 36 (.bool true)] ?_;(repeat1' dsimp only[xK,ar,aa,go_sem]);first|refine aL ?_ ?_ rfl ?_|apply aM|apply aN|(refine aO (fun hc=>?_) fun hc=>?_<;>first|(cases hc;done)|(exfalso;(simp at hc<;>omega))|(try simp only[bn]at hc;try contradiction))|skip))
   refine⟨hlt,trivial,by simp[hc];(repeat' (first|exact trivial|refine And.intro (by first|rfl|(simp[get,Nat.beq]<;>omega)|(dsimp only[get];congr 1<;>first|rfl|omega|(simp<;>omega))) ?_)),_,rfl⟩
  by_cases hf:0<x.fac
  ·simp only[hf,if_true]at h3;repeat' (first|((with_reducible show az _);first|exact True.intro|(simp only[vb,lb,e,e2,f1,f2,hlt,q1,q2,gZ,hc,hf];and_intros<;>first|omega|(simp<;>omega)))|((with_reducible show aB _);first|exact True.intro|((try dsimp only[go_sem]);(simp[vb,e,e2,f1,f2,hlt,q1,q2,gZ,hc,hf]<;>omega)))|exact(rfl:some _=_)|((fail_if_success refine aK ?_);refine bw [ξ 19 (.agg [.int .i64 x.cell,.int .i64 x.fac]),ξ 24 (.agg [.int .i64 y.lo,.int .i64 y.hi]),ξ 36 (.bool false),ξ 42 (.bool true)] ?_;(repeat1' dsimp only[xK,ar,aa,go_sem]);first|refine aL ?_ ?_ rfl ?_|apply aM|apply aN|(refine aO (fun hc=>?_) fun hc=>?_<;>first|(cases hc;done)|(exfalso;(simp at hc<;>omega))|(try simp only[bn]at hc;try contradiction))|skip))
   refine⟨hlt,trivial,by simp[hc,hf];(repeat' (first|exact trivial|refine And.intro (by first|rfl|(simp[get,Nat.beq]<;>omega)|(dsimp only[get];congr 1<;>first|rfl|omega|(simp<;>omega))) ?_)),_,rfl⟩
  simp only[hf,if_false]at h3;repeat' (first|((with_reducible show az _);first|exact True.intro|(simp only[vb,lb,e,e2,f1,f2,hlt,q1,q2,gZ,hc,hf];and_intros<;>first|omega|(simp<;>omega)))|((with_reducible show aB _);first|exact True.intro|((try dsimp only[go_sem]);(simp[vb,e,e2,f1,f2,hlt,q1,q2,gZ,hc,hf]<;>omega)))|exact(rfl:some _=_)|((fail_if_success refine aK ?_);refine bw [ξ 19 (.agg [.int .i64 x.cell,.int .i64 x.fac]),ξ 24 (.agg [.int .i64 y.lo,.int .i64 y.hi]),ξ 36 (.bool false),ξ 42 (.bool false)] ?_;(repeat1' dsimp only[xK,ar,aa,go_sem]);first|refine aL ?_ ?_ rfl ?_|apply aM|apply aN|(refine aO (fun hc=>?_) fun hc=>?_<;>first|(cases hc;done)|(exfalso;(simp at hc<;>omega))|(try simp only[bn]at hc;try contradiction))|skip))
  refine⟨hlt,trivial,by simp[hc,hf];(repeat' (first|exact trivial|refine And.intro (by first|rfl|(simp[get,Nat.beq]<;>omega)|(dsimp only[get];congr 1<;>first|rfl|omega|(simp<;>omega))) ?_)),_,rfl⟩
 obtain rfl:k=ts.length:=by omega
 rw[List.take_length];repeat' (first|((with_reducible first|show az _|show aB _);simp[vb,hlt]<;>omega)|exact(rfl:some _=_)|((fail_if_success refine aK ?_);refine bG ?_;(repeat1' dsimp only[xK,ar,aa,go_sem]);first|refine aL ?_ ?_ rfl ?_|apply aM|apply aN|(refine aO (fun hc=>?_) fun hc=>?_<;>first|(cases hc;done)|(exfalso;simp[hlt]at hc<;>omega)|(try simp only[bn]at hc;try contradiction))|skip))
end Pur
end
section
namespace Pur
section
open Rf
theorem B9 (x:Tm) (c:Int):aF ctx 148 [.pv (.agg [.int .i64 x.cell,.int .i64 x.fac]),.ptr 0 0 0] [⟨[.pv (.int .i64 c)],0,1,3,false⟩] (.pv (.bool (decide (x.cell=c)))) [⟨[.pv (.int .i64 c)],0,1,3,false⟩]:=by
 refine bc (C:=ctx) (Fn.of GO rfl) rfl (by simp) rfl rfl ?_;unfold c148;repeat' (first|((with_reducible first|show az _|show aB _);simp[vb]<;>omega)|exact(rfl:some _=_)|((fail_if_success refine aK ?_);refine bG ?_;(repeat1' dsimp only[c148,go_sem]);first|refine aL ?_ ?_ rfl ?_|apply aM|apply aN|(refine aO (fun hc=>?_) fun hc=>?_<;>first|(cases hc;done)|(exfalso;simp at hc<;>omega)|(try simp only[bn]at hc;try contradiction))|skip))
 exact⟨⟨trivial,rfl⟩,_,rfl⟩
theorem D0 (ts:List Tm) (k:Nat) (hk:k<ts.length):(ts.flatMap gZ)[k*2+1]?.getD default= .int .i64 (ts.getD k zm).fac:=by
 rw[bK kO ts k zm 1 hk (by omega)];rfl
theorem xS (b:List Rg) (r:Rw) (c:Int) (hv:dN b [r]=true) (hc0:0≤c) (hc1:c<b.length):aq ctx 129 [.agg [ar r.terms,.int .i64 r.bound],aa b,.int .i64 c] (.agg [.int .i64 (cB r b c).lo,.int .i64 (cB r b c).hi]):=by
 obtain⟨v1,v2,v3,v4,v5,v6⟩:=s5 hv;have hbd:=DZ b r c hv;have hsm:=ny v1 c r.terms fun t ht=>by have:=v6 t ht;omega
 have e:=iR b c hc0 hc1;have hx:=iQ (cQ v1 c.toNat);have f1:=fG r.terms;have f2:=bJ b;have hidx:=qv c r.terms;have hI:=fun (μ:AM) (hμ:aS μ μ.length=true) (h1:1<μ.length) (hj:μ[1]?=some ⟨[.pv (.int .i64 c)],0,1,3,false⟩)=>BZ 148 μ hμ 1 h1 r.terms (by omega) (fun t=>decide (t.cell=c)) fun x _=>(B9 x c).J3 (ps:=[.int .i64 c]) rfl hj
 unfold cB;obtain⟨ts,bd⟩:=r;simp only at *;generalize b.getD c.toNat zr=x at *;generalize dF b c ts=sm at *;clear hv;rcases hidx with⟨h1,h2⟩|⟨k,h1,h2,h3⟩
 ·rw[oG c ts h2];simp only[if_true];generalize jL (fun t=>decide (t.cell=c)) ts=q at *;have hI:=hI [⟨[.pv (ar ts),.pv (.int .i64 bd)],0,2,62,false⟩,⟨[.pv (.int .i64 c)],0,1,3,false⟩,⟨[.pv (.int .i64 0),.pv (.int .i64 0)],0,2,57,false⟩,⟨[.pv (.int .i64 x.lo),.pv (.int .i64 x.hi)],0,2,57,false⟩] rfl (by simp) rfl;refine an (C:=ctx) (Fn.of Ay rfl) rfl ?_;unfold xJ;repeat' (first|((with_reducible show az _);first|exact True.intro|(simp only[vb,lb,e,f1,f2,hc0,hc1,hI,h1];and_intros<;>first|omega|(simp<;>omega)))|((with_reducible show aB _);first|exact True.intro|((try dsimp only[go_sem]);first|(simp[vb,e,f1,f2,hc0,hc1,hI,h1]<;>omega)|(simp only[vb,and_true,true_implies];(repeat' (first|(with_reducible assumption)|(with_reducible apply And.intro)|intro _|((fail_if_success (with_reducible show(_:Int)≤_));assumption))))))|exact(rfl:some _=_)|((fail_if_success refine aK ?_);refine bw [ξ 14 (.agg [.int .i64 x.lo,.int .i64 x.hi]),(18,{val:=some (.pv (.int .i64 q)),ro:=true})] ?_;(repeat1' dsimp only[xJ,ar,aa,go_sem]);first|refine aL ?_ ?_ rfl ?_|apply aM|apply aN|(refine aO (fun hc=>?_) fun hc=>?_<;>first|(cases hc;done)|(exfalso;(simp at hc<;>omega))|(try simp only[bn]at hc;try contradiction))|skip))
 have g:=v6 _ (aQ (d:=zm) h2);have hg:=D0 ts k h2;rw[h3];rw[h1]at hI;clear h1 h3;generalize ts.getD k zm=y at *;simp only[g.2.2.1,if_false];have hI:=hI [⟨[.pv (ar ts),.pv (.int .i64 bd)],0,2,62,false⟩,⟨[.pv (.int .i64 c)],0,1,3,false⟩,⟨[.pv (.int .i64 0),.pv (.int .i64 0)],0,2,57,false⟩,⟨[.pv (.int .i64 x.lo),.pv (.int .i64 x.hi)],0,2,57,false⟩] rfl (by simp) rfl;by_cases hf:0<y.fac
 ·have hfl:=xR (bd-sm) y.fac hf (by omega) (by omega) (by omega);simp only[hf,if_true];generalize (bd-sm) / y.fac=q at *;have hem:=sX ⟨x.lo,if q<x.hi then q else x.hi⟩;simp only[cA]at hem;refine an (C:=ctx) (Fn.of Ay rfl) rfl ?_;unfold xJ;unfold ar at hI hbd;unfold aa at hbd;refine aV [(149,fun _=>some (.int .i64 sm)),(150,fun _=>some (.int .i64 q))] [ξ 14 (.agg [.int .i64 x.lo,.int .i64 x.hi]),(18,{val:=some (.pv (.int .i64 k)),ro:=true}),ξ 27 (.int .i64 y.fac)] ?_;dsimp only[ar,aa,go_sem]
  try dsimp only[ar,aa,go_sem]
  refine⟨(by simp[vb,e,f1,f2,hc0,hc1,hI,hg,h2,hbd,hfl,hf]<;>omega),(by simp[vb,e,f1,f2,hc0,hc1,hI,hg,h2,hbd,hfl,hf]<;>omega),?_⟩;refine aV [(149,fun _=>some (.int .i64 sm)),(150,fun _=>some (.int .i64 q))] [ξ 14 (.agg [.int .i64 x.lo,.int .i64 x.hi]),(18,{val:=some (.pv (.int .i64 k)),ro:=true}),ξ 27 (.int .i64 y.fac)] ?_;dsimp only[ar,aa,go_sem];try dsimp only[ar,aa,go_sem]
  refine⟨(by (simp only[vb,lb,e,f1,f2,hc0,hc1,hI,hg,h2,hbd,hfl,hf];and_intros<;>first|omega|(simp<;>omega))),(by ((try dsimp only[go_sem]);(simp[vb,e,f1,f2,hc0,hc1,hI,hg,h2,hbd,hfl,hf]<;>omega))),?_⟩;refine aV [(149,fun _=>some (.int .i64 sm)),(150,fun _=>some (.int .i64 q))] [ξ 14 (.agg [.int .i64 x.lo,.int .i64 x.hi]),(18,{val:=some (.pv (.int .i64 k)),ro:=true}),ξ 27 (.int .i64 y.fac)] ?_;dsimp only[ar,aa,go_sem];try dsimp only[ar,aa,go_sem]
  refine⟨(by (simp only[vb,lb,e,f1,f2,hc0,hc1,hI,hg,h2,hbd,hfl,hf];and_intros<;>first|omega|(simp<;>omega))),(by ((try dsimp only[go_sem]);(simp[vb,e,f1,f2,hc0,hc1,hI,hg,h2,hbd,hfl,hf]<;>omega))),?_⟩;iterate 5 first
   |refine⟨fun h=>by simp at h<;>omega,fun _=>?_⟩
   |refine⟨by simp[vb,e,f1,f2,hc0,hc1,hI,hg,h2,hbd,hfl,hf]<;>omega,by simp[vb,e,f1,f2,hc0,hc1,hI,hg,h2,hbd,hfl,hf]<;>omega,?_⟩
   |(refine aV [(149,fun _=>some (.int .i64 sm)),(150,fun _=>some (.int .i64 q))] [ξ 14 (.agg [.int .i64 x.lo,.int .i64 x.hi]),(18,{val:=some (.pv (.int .i64 k)),ro:=true}),ξ 27 (.int .i64 y.fac)] ?_;iterate 2 (try dsimp only[ar,aa,go_sem]))
  refine aV [(149,fun _=>some (.int .i64 sm)),(150,fun _=>some (.int .i64 q))] [ξ 14 (.agg [.int .i64 x.lo,.int .i64 x.hi]),(18,{val:=some (.pv (.int .i64 k)),ro:=true}),ξ 27 (.int .i64 y.fac)] ?_;dsimp only[ar,aa,go_sem];try dsimp only[ar,aa,go_sem]
  refine⟨(by (simp only[vb,lb,e,f1,f2,hc0,hc1,hI,hg,h2,hbd,hfl,hf];and_intros<;>first|omega|(simp<;>omega))),(by ((try dsimp only[go_sem]);(simp[vb,e,f1,f2,hc0,hc1,hI,hg,h2,hbd,hfl,hf]<;>omega))),?_⟩;refine aV [(149,fun _=>some (.int .i64 sm)),(150,fun _=>some (.int .i64 q))] [ξ 14 (.agg [.int .i64 x.lo,.int .i64 x.hi]),(18,{val:=some (.pv (.int .i64 k)),ro:=true}),ξ 27 (.int .i64 y.fac)] ?_;dsimp only[ar,aa,go_sem];try dsimp only[ar,aa,go_sem]
  refine⟨(by simp[vb,e,f1,f2,hc0,hc1,hI,hg,h2,hbd,hfl,hf]<;>omega),(by simp[vb,e,f1,f2,hc0,hc1,hI,hg,h2,hbd,hfl,hf]<;>omega),?_⟩;refine aV [(149,fun _=>some (.int .i64 sm)),(150,fun _=>some (.int .i64 q))] [ξ 14 (.agg [.int .i64 x.lo,.int .i64 x.hi]),(18,{val:=some (.pv (.int .i64 k)),ro:=true}),ξ 27 (.int .i64 y.fac)] ?_;dsimp only[ar,aa,go_sem];refine⟨fun _=>?_,fun h=>by simp at h<;>omega⟩
  refine lU (T:=[(149,fun _=>some (.int .i64 sm)),(150,fun _=>some (.int .i64 q))]) (H:=[ξ 14 (.agg [.int .i64 x.lo,.int .i64 x.hi]),(18,{val:=some (.pv (.int .i64 k)),ro:=true}),ξ 27 (.int .i64 y.fac)]) (by rfl) ?_;dsimp only[dy,ar,aa,go_sem];try dsimp only[ar,aa,go_sem]
  refine⟨(by simp[vb,e,f1,f2,hc0,hc1,hI,hg,h2,hbd,hfl,hf]<;>omega),(by simp[vb,e,f1,f2,hc0,hc1,hI,hg,h2,hbd,hfl,hf]<;>omega),?_⟩;repeat' (first|((with_reducible show az _);(simp only[vb,lb,hem,cA];and_intros<;>first|omega|(simp<;>omega)))|((with_reducible show aB _);first|exact True.intro|((try dsimp only[go_sem]);(simp[vb,hem,cA]<;>omega)))|exact(rfl:some _=_)|((fail_if_success refine aK ?_);refine du [(102,fun ps=>match ps with|[.agg [.int _ l,.int _ h]]=>some (.bool (decide (h<l)))|_=>none)] ?_;(repeat1' dsimp only[xJ,ar,aa,go_sem]);first|refine aL ?_ ?_ rfl ?_|apply aM|apply aN|(refine aO (fun hc=>?_) fun hc=>?_<;>first|(cases hc;done)|(try simp only[bn]at hc;try contradiction))|skip))
  ·rw[jm]at hc;rw[if_pos hc]
  rw[jm]at hc ⊢;rw[if_neg hc]
 have hfl:=xR (bd-sm) (-y.fac) (by omega) (by omega) (by omega) (by omega);have hq:((bd-sm) / -y.fac).natAbs≤(bd-sm).natAbs:=Int.natAbs_ediv_le_natAbs _ _;simp only[hf,if_false];generalize (bd-sm) / -y.fac=q at *;have hem:=sX ⟨if x.lo< -q then -q else x.lo,x.hi⟩;simp only[cA]at hem;refine an (C:=ctx) (Fn.of Ay rfl) rfl ?_;unfold xJ;unfold ar at hI hbd;unfold aa at hbd
 refine aV [(149,fun _=>some (.int .i64 sm)),(150,fun _=>some (.int .i64 q))] [ξ 14 (.agg [.int .i64 x.lo,.int .i64 x.hi]),(18,{val:=some (.pv (.int .i64 k)),ro:=true}),ξ 27 (.int .i64 y.fac)] ?_;dsimp only[ar,aa,go_sem];try dsimp only[ar,aa,go_sem]
 refine⟨(by simp[vb,e,f1,f2,hc0,hc1,hI,hg,h2,hbd,hfl,hf]<;>omega),(by simp[vb,e,f1,f2,hc0,hc1,hI,hg,h2,hbd,hfl,hf]<;>omega),?_⟩;refine aV [(149,fun _=>some (.int .i64 sm)),(150,fun _=>some (.int .i64 q))] [ξ 14 (.agg [.int .i64 x.lo,.int .i64 x.hi]),(18,{val:=some (.pv (.int .i64 k)),ro:=true}),ξ 27 (.int .i64 y.fac)] ?_;dsimp only[ar,aa,go_sem];try dsimp only[ar,aa,go_sem]
 refine⟨(by (simp only[vb,lb,e,f1,f2,hc0,hc1,hI,hg,h2,hbd,hfl,hf];and_intros<;>first|omega|(simp<;>omega))),(by ((try dsimp only[go_sem]);(simp[vb,e,f1,f2,hc0,hc1,hI,hg,h2,hbd,hfl,hf]<;>omega))),?_⟩;refine aV [(149,fun _=>some (.int .i64 sm)),(150,fun _=>some (.int .i64 q))] [ξ 14 (.agg [.int .i64 x.lo,.int .i64 x.hi]),(18,{val:=some (.pv (.int .i64 k)),ro:=true}),ξ 27 (.int .i64 y.fac)] ?_;dsimp only[ar,aa,go_sem];try dsimp only[ar,aa,go_sem]
 refine⟨(by (simp only[vb,lb,e,f1,f2,hc0,hc1,hI,hg,h2,hbd,hfl,hf];and_intros<;>first|omega|(simp<;>omega))),(by ((try dsimp only[go_sem]);(simp[vb,e,f1,f2,hc0,hc1,hI,hg,h2,hbd,hfl,hf]<;>omega))),?_⟩;iterate 5 first
  |refine⟨fun h=>by simp at h<;>omega,fun _=>?_⟩
  |refine⟨by simp[vb,e,f1,f2,hc0,hc1,hI,hg,h2,hbd,hfl,hf]<;>omega,by simp[vb,e,f1,f2,hc0,hc1,hI,hg,h2,hbd,hfl,hf]<;>omega,?_⟩
  |(refine aV [(149,fun _=>some (.int .i64 sm)),(150,fun _=>some (.int .i64 q))] [ξ 14 (.agg [.int .i64 x.lo,.int .i64 x.hi]),(18,{val:=some (.pv (.int .i64 k)),ro:=true}),ξ 27 (.int .i64 y.fac)] ?_;iterate 2 (try dsimp only[ar,aa,go_sem]))
 refine aV [(149,fun _=>some (.int .i64 sm)),(150,fun _=>some (.int .i64 q))] [ξ 14 (.agg [.int .i64 x.lo,.int .i64 x.hi]),(18,{val:=some (.pv (.int .i64 k)),ro:=true}),ξ 27 (.int .i64 y.fac)] ?_;dsimp only[ar,aa,go_sem];try dsimp only[ar,aa,go_sem]
 refine⟨(by (simp only[vb,lb,e,f1,f2,hc0,hc1,hI,hg,h2,hbd,hfl,hf];and_intros<;>first|omega|(simp<;>omega))),(by ((try dsimp only[go_sem]);(simp[vb,e,f1,f2,hc0,hc1,hI,hg,h2,hbd,hfl,hf]<;>omega))),?_⟩;refine aV [(149,fun _=>some (.int .i64 sm)),(150,fun _=>some (.int .i64 q))] [ξ 14 (.agg [.int .i64 x.lo,.int .i64 x.hi]),(18,{val:=some (.pv (.int .i64 k)),ro:=true}),ξ 27 (.int .i64 y.fac)] ?_;dsimp only[ar,aa,go_sem];try dsimp only[ar,aa,go_sem]
 refine⟨(by simp[vb,e,f1,f2,hc0,hc1,hI,hg,h2,hbd,hfl,hf]<;>omega),(by simp[vb,e,f1,f2,hc0,hc1,hI,hg,h2,hbd,hfl,hf]<;>omega),?_⟩;refine aV [(149,fun _=>some (.int .i64 sm)),(150,fun _=>some (.int .i64 q))] [ξ 14 (.agg [.int .i64 x.lo,.int .i64 x.hi]),(18,{val:=some (.pv (.int .i64 k)),ro:=true}),ξ 27 (.int .i64 y.fac)] ?_;dsimp only[ar,aa,go_sem];refine⟨fun h=>by simp at h<;>omega,fun _=>?_⟩
 refine lU (T:=[(149,fun _=>some (.int .i64 sm)),(150,fun _=>some (.int .i64 q))]) (H:=[ξ 14 (.agg [.int .i64 x.lo,.int .i64 x.hi]),(18,{val:=some (.pv (.int .i64 k)),ro:=true}),ξ 27 (.int .i64 y.fac)]) (by rfl) ?_;dsimp only[dy,ar,aa,go_sem];try dsimp only[ar,aa,go_sem]
 refine⟨(by simp[vb,e,f1,f2,hc0,hc1,hI,hg,h2,hbd,hfl,hf]<;>omega),(by simp[vb,e,f1,f2,hc0,hc1,hI,hg,h2,hbd,hfl,hf]<;>omega),?_⟩;repeat' (first|((with_reducible show az _);(simp only[vb,lb,hem,cA];and_intros<;>first|omega|(simp<;>omega)))|((with_reducible show aB _);first|exact True.intro|((try dsimp only[go_sem]);(simp[vb,hem,cA]<;>omega)))|exact(rfl:some _=_)|((fail_if_success refine aK ?_);refine du [(102,fun ps=>match ps with|[.agg [.int _ l,.int _ h]]=>some (.bool (decide (h<l)))|_=>none)] ?_;(repeat1' dsimp only[xJ,ar,aa,go_sem]);first|refine aL ?_ ?_ rfl ?_|apply aM|apply aN|(refine aO (fun hc=>?_) fun hc=>?_<;>first|(cases hc;done)|(try simp only[bn]at hc;try contradiction))|skip))
 ·rw[pw]at hc;rw[if_pos hc]
 rw[pw]at hc ⊢;rw[if_neg hc]
theorem zH (b:List Rg) (r:Rw) (c:Int) (hb:b.length≤1000000000) (hr:r.terms.length≤1000000000):aq ctx 107 [.agg [ar r.terms,.int .i64 r.bound],aa b,.int .i64 c] (.agg [.int .i64 (b9 r b c).lo,.int .i64 (b9 r b c).hi]):=by
 have hv:aq ctx 71 [.sl b.length (b.flatMap bS),.sl 1 [.sl r.terms.length (r.terms.flatMap gZ),.int .i64 r.bound]] (.bool (dN b [r])):=sY b [r] hb (by simp) fun x hx=>by simp at hx;subst hx;exact hr
 by_cases hc:dN b [r]=true∧0≤c∧c<b.length
 ·have ht:=xS b r c hc.1 hc.2.1 hc.2.2;rw[show b9 r b c=cB r b c by rw[b9,if_pos hc]];rw[hc.1]at hv;obtain⟨-,c1,c2⟩:=hc;generalize cB r b c=x at *;unfold ar aa at ht;refine an (C:=ctx) (Fn.of Ax rfl) rfl ?_;unfold c107;repeat' (first|((with_reducible show az _);first|exact True.intro|(simp only[vb,lb,hv,ht,c1,c2];and_intros<;>first|omega|(simp<;>omega)))|((with_reducible show aB _);first|exact True.intro|((try dsimp only[go_sem]);(simp[vb,hv,ht,c1,c2]<;>omega)))|exact(rfl:some _=_)|((fail_if_success refine aK ?_);refine du [(71,fun _=>some (.bool true)),(129,fun _=>some (.agg [.int .i64 x.lo,.int .i64 x.hi]))] ?_;(repeat1' dsimp only[c107,ar,aa,go_sem]);first|refine aL ?_ ?_ rfl ?_|apply aM|apply aN|(refine aO (fun hc=>?_) fun hc=>?_<;>first|(cases hc;done)|(exfalso;(simp at hc<;>omega))|(try simp only[bn]at hc;try contradiction))|skip))
 rw[show b9 r b c=zr by rw[b9,if_neg hc]];generalize dN b [r]=q at *;cases q with
 |false =>
  refine an (C:=ctx) (Fn.of Ax rfl) rfl ?_;unfold c107;repeat' (first|((with_reducible show az _);first|exact True.intro|(simp only[vb,lb,hv];and_intros<;>first|omega|(simp<;>omega)))|((with_reducible show aB _);first|exact True.intro|((try dsimp only[go_sem]);(simp[vb,hv]<;>omega)))|exact(rfl:some _=_)|((fail_if_success refine aK ?_);refine du [(71,fun _=>some (.bool false))] ?_;(repeat1' dsimp only[c107,ar,aa,go_sem]);first|refine aL ?_ ?_ rfl ?_|apply aM|apply aN|(refine aO (fun hc=>?_) fun hc=>?_<;>first|(cases hc;done)|(try simp only[bn]at hc;try contradiction))|skip))
 |true =>
  have hn:¬(0≤c∧c<b.length):=fun h=>hc ⟨rfl,h⟩
  clear hc;refine an (C:=ctx) (Fn.of Ax rfl) rfl ?_;unfold c107;repeat' (first|((with_reducible show az _);first|exact True.intro|(simp only[vb,lb,hv];and_intros<;>first|omega|(simp<;>omega)))|((with_reducible show aB _);first|exact True.intro|((try dsimp only[go_sem]);(simp[vb,hv]<;>omega)))|exact(rfl:some _=_)|((fail_if_success refine aK ?_);refine du [(71,fun _=>some (.bool true))] ?_;(repeat1' dsimp only[c107,ar,aa,go_sem]);first|refine aL ?_ ?_ rfl ?_|apply aM|apply aN|(refine aO (fun hc=>?_) fun hc=>?_<;>first|(cases hc;done)|(exfalso;(simp at hc<;>omega))|(try simp only[bn]at hc;try contradiction))|skip))
end
end Pur
end
section
namespace Rf
structure Ca (s:Sy):Prop where
 b:s.box.length≤1000000000
 r:s.rows.length≤1000000000
 g:s.graphs.length≤1000000000
 c:s.cases.length≤1000000000
 rt:∀x∈s.rows,x.terms.length≤1000000000
 gl:∀x∈s.graphs,x.least.length≤1000000000
 cl:∀l∈s.cases,l.length≤1000000000
 ct:∀l∈s.cases,∀x∈l,x.terms.length≤1000000000
theorem nz {n:Int} (h1:1≤n) (h2:n≤6):1≤n*n∧n*n≤36:=by
 have:n=1∨n=2∨n=3∨n=4∨n=5∨n=6:=by omega
 rcases this with rfl|rfl|rfl|rfl|rfl|rfl<;>decide
end Rf
namespace Pur
open Rf
def D1 (s:Sy):eN:=⟨[.pv (aa s.box),.pv (ae s.rows),.pv (ai s.graphs),.pv (ah s.cases)],0,4,36,false⟩
theorem Cb (k:Int):aq ctx 104 [.int .i64 k] (.bool (!fv k)):=by
 refine an (C:=ctx) (Fn.of GB rfl) rfl ?_;unfold Fs;repeat' (first|((with_reducible show az _);exact True.intro)|((with_reducible show aB _);first|exact True.intro|((try dsimp only[go_sem]);(simp[vb]<;>omega)))|exact(rfl:some _=_)|((fail_if_success refine aK ?_);refine bG ?_;(repeat1' dsimp only[Fs,go_sem]);first|refine aL ?_ ?_ rfl ?_|apply aM|apply aN|(refine aO (fun hc=>?_) fun hc=>?_<;>first|(cases hc;done)|(try simp only[bn]at hc;try contradiction))|skip))
 simp[fv,aC,Ag];rw[←decide_not,←decide_not];congr 1<;>exact decide_eq_decide.mpr (by omega)
theorem D2 (n:Int) (g:Gr) (hn:0≤n) (hn2:n≤1000000000) (hg:g.least.length≤1000000000):aq ctx 74 [.int .i64 n,.agg [.int .i64 g.first,.int .i64 g.size,au g.least]] (.bool (bj n g)):=by
 have hl:=BV 104 g.least hg (fun k=>!fv k) fun k _=>Cb k
 have e:g.least.all fv= !(g.least.any fun k=>!fv k):=by simp[List.any_eq_not_all_not]
 unfold bj;rw[e];clear e;generalize (g.least.any fun k=>!fv k)=q at *;obtain⟨fi,sz,le⟩:=g;simp only at *;unfold au at hl;by_cases h:1≤sz∧sz≤6
 ·obtain⟨q1,q2⟩:=nz h.1 h.2;rw[show aC sz 1 6=true by simp[aC,h],Bool.true_and];by_cases h2:0≤fi∧fi≤n-sz*sz∧(le.length:Int)=sz*sz
  ·rw[decide_eq_true h2.1,decide_eq_true h2.2.1,decide_eq_true h2.2.2];refine an (C:=ctx) (Fn.of Fk rfl) rfl ?_;unfold Gx;repeat' (first|((with_reducible show az _);first|exact True.intro|(simp only[vb,lb,hl,h,h2,q1,q2];and_intros<;>first|omega|(simp<;>omega)))|((with_reducible show aB _);first|exact True.intro|((try dsimp only[go_sem]);(simp[vb,hl,h,h2,q1,q2]<;>omega)))|exact(rfl:some _=_)|((fail_if_success refine aK ?_);refine du [(103,fun _=>some (.bool q))] ?_;(repeat1' dsimp only[Gx,au,go_sem]);first|refine aL ?_ ?_ rfl ?_|apply aM|apply aN|(refine aO (fun hc=>?_) fun hc=>?_<;>first|(cases hc;done)|(exfalso;(simp at hc<;>omega))|(try simp only[bn]at hc;try contradiction))|skip))
  have hr:(decide (0≤fi)&&decide (fi≤n-sz*sz)&&decide ((le.length:Int)=sz*sz))=false:=by
   rw[Bool.eq_false_iff];simp only[ne_eq,Bool.and_eq_true,decide_eq_true_eq];omega
  rw[hr];refine an (C:=ctx) (Fn.of Fk rfl) rfl ?_;unfold Gx;repeat' (first|((with_reducible show az _);first|exact True.intro|(simp only[vb,lb,hl,h,h2,q1,q2];and_intros<;>first|omega|(simp<;>omega)))|((with_reducible show aB _);first|exact True.intro|((try dsimp only[go_sem]);(simp[vb,hl,h,h2,q1,q2]<;>omega)))|exact(rfl:some _=_)|((fail_if_success refine aK ?_);refine du [(103,fun _=>some (.bool q))] ?_;(repeat1' dsimp only[Gx,au,go_sem]);first|refine aL ?_ ?_ rfl ?_|apply aM|apply aN|(refine aO (fun hc=>?_) fun hc=>?_<;>first|(cases hc;done)|(exfalso;(simp at hc<;>omega))|(try simp only[bn]at hc;try contradiction))|skip))
 rw[show aC sz 1 6=false by simp[aC];omega];refine an (C:=ctx) (Fn.of Fk rfl) rfl ?_;unfold Gx;repeat' (first|((with_reducible show az _);first|exact True.intro|(simp only[vb,lb,hl,h];and_intros<;>first|omega|(simp<;>omega)))|((with_reducible show aB _);first|exact True.intro|((try dsimp only[go_sem]);(simp[vb,hl,h]<;>omega)))|exact(rfl:some _=_)|((fail_if_success refine aK ?_);refine du [(103,fun _=>some (.bool q))] ?_;(repeat1' dsimp only[Gx,au,go_sem]);first|refine aL ?_ ?_ rfl ?_|apply aM|apply aN|(refine aO (fun hc=>?_) fun hc=>?_<;>first|(cases hc;done)|(exfalso;(simp at hc<;>omega))|(try simp only[bn]at hc;try contradiction))|skip))
theorem AN (s:Sy) (l:List Rw) (most:Int) (hb:s.box.length≤1000000000) (hl:l.length≤1000000000) (ht:∀x∈l,x.terms.length≤1000000000) :
  aq ctx 73 [.agg [aa s.box,ae s.rows,ai s.graphs,ah s.cases],ae l,.int .i64 most] (.bool (decide ((l.length:Int)≤most)&&dN s.box l)):=by
 have hv:=sY s.box l hb hl ht;generalize dN s.box l=q at *;unfold aa ae at hv;refine an (C:=ctx) (Fn.of H6 rfl) rfl ?_;unfold IM;repeat' (first|((with_reducible show az _);exact True.intro)|((with_reducible show aB _);first|exact True.intro|((try dsimp only[go_sem]);(simp[vb,hv]<;>omega)))|exact(rfl:some _=_)|((fail_if_success refine aK ?_);refine du [(71,fun _=>some (.bool q))] ?_;(repeat1' dsimp only[IM,aa,ae,ai,ah,go_sem]);first|refine aL ?_ ?_ rfl ?_|apply aM|apply aN|(refine aO (fun hc=>?_) fun hc=>?_<;>first|(cases hc;done)|(try simp only[bn]at hc;try contradiction))|skip))
 rw[kn]
theorem zI (s:Sy) (hs:Ca s) (l:List Rw) (hl:l.length≤1000000000) (ht:∀x∈l,x.terms.length≤1000000000) :
  aF ctx 76 [.pv (ae l),.ptr 0 0 0] [D1 s] (.pv (.bool (!fc s.box l))) [D1 s]:=by
 have hr:=AN s l 64 hs.b hl ht;have e:fc s.box l=(decide ((l.length:Int)≤64)&&dN s.box l):=by
  unfold fc;congr 1;exact decide_eq_decide.mpr (by omega)
 rw[e];generalize (decide ((l.length:Int)≤64)&&dN s.box l)=q at *;unfold aa ae ai ah at hr;refine bc (C:=ctx) (Fn.of H8 rfl) rfl (by simp) rfl rfl ?_;unfold c76 D1;repeat' (first|((with_reducible show az _);first|exact True.intro|(simp only[vb,lb,hr];and_intros<;>first|omega|(simp<;>omega)))|((with_reducible show aB _);first|exact True.intro|((try dsimp only[go_sem]);(simp[vb,hr]<;>omega)))|exact(rfl:some _=_)|((fail_if_success refine aK ?_);refine du [(73,fun _=>some (.bool q))] ?_;(repeat1' dsimp only[c76,aa,ae,ai,ah,go_sem]);first|refine aL ?_ ?_ rfl ?_|apply aM|apply aN|(refine aO (fun hc=>?_) fun hc=>?_<;>first|(cases hc;done)|(try simp only[bn]at hc;try contradiction))|skip))
 all_goals exact⟨⟨trivial,rfl⟩,_,rfl⟩
theorem xT (s:Sy) (hs:Ca s):aq ctx 46 [.agg [aa s.box,ae s.rows,ai s.graphs,ah s.cases]] (.bool (fC s)):=by
 have h1:=B4 s.box hs.b;have h2:=xO s.box hs.b;have h3:=AN s s.rows 1024 hs.b hs.r hs.rt;have h4:=DE 76 [D1 s] rfl 0 (by simp) s.cases hs.c (fun l=>!fc s.box l) fun l hl=>zI s hs l (hs.cl l hl) (hs.ct l hl)
 have e:s.cases.all (fc s.box)= !(s.cases.any fun l=>!fc s.box l):=by simp[List.any_eq_not_all_not]
 have f1:=pj s.graphs;have hgr:=fun g hg=>D2 s.box.length g (by omega) (by have:=hs.b;omega) (hs.gl g hg)
 have hsg:=hs.g;have hsc:=hs.c;have hsb:=hs.b;have e2:fC s=(bp s.box&& !bO s.box&&(decide ((s.rows.length:Int)≤1024)&&dN s.box s.rows)&&decide (s.graphs.length≤64)&&decide (s.cases.length≤1024)&&s.graphs.all (bj s.box.length)&&s.cases.all (fc s.box)):=by
  have:dN s.box s.rows=(bp s.box&&dN s.box s.rows):=by unfold dN;cases bp s.box<;>simp
  rw[fC,this];have:decide ((s.rows.length:Int)≤1024)=decide (s.rows.length≤1024):=decide_eq_decide.mpr (by omega);rw[this];cases bp s.box<;>cases dN s.box s.rows<;>cases bO s.box<;>cases decide (s.rows.length≤1024)<;>rfl
 rw[e2,e];clear e e2;generalize (s.cases.any fun l=>!fc s.box l)=q4 at *;generalize (decide ((s.rows.length:Int)≤1024)&&dN s.box s.rows)=q3 at *;generalize bO s.box=q2 at *;generalize bp s.box=q1 at *;obtain⟨b,rs,gs,cs⟩:=s;simp only at *;clear hs;unfold D1 aa ae ai ah at h4;unfold aa at h1 h2;unfold aa ae ai ah at h3;refine an (C:=ctx) (Fn.of H4 rfl) rfl ?_;unfold c46;repeat' (first|((with_reducible show az _);first|exact True.intro|(simp only[vb,lb,h1,h2,h3];and_intros<;>first|omega|(simp<;>omega)))|((with_reducible show aB _);first|exact True.intro|((try dsimp only[go_sem]);(simp[vb,h1,h2,h3]<;>omega)))|exact(rfl:some _=_)|((fail_if_success refine aK ?_);refine du [(71,fun _=>some (.bool q1)),(72,fun _=>some (.bool q2)),(73,fun _=>some (.bool q3))] ?_;(repeat1' dsimp only[c46,aa,ae,ai,ah,go_sem]);first|refine aL ?_ ?_ rfl ?_|apply aM|apply aN|(refine aO (fun hc=>?_) fun hc=>?_<;>first|(cases hc;done)|(try simp only[bn]at hc;try contradiction))|skip))
 ·have hr:(q1&& !q2&&q3&&decide (gs.length≤64)&&decide (cs.length≤1024))=false:=by
   rw[Bool.eq_false_iff];simp only[ne_eq,Bool.and_eq_true,decide_eq_true_eq,Bool.not_eq_true'];rintro⟨⟨⟨⟨a,b⟩,c⟩,d⟩,e⟩;subst a b c;simp at hc;omega
  rw[hr];rfl
 have hr:(q1&& !q2&&q3&&decide (gs.length≤64)&&decide (cs.length≤1024))=true:=by
  simp only[Bool.and_eq_true,decide_eq_true_eq,Bool.not_eq_true'];obtain⟨⟨⟨⟨a,b⟩,c⟩,d⟩,e⟩:=hc;exact⟨⟨⟨⟨a,b⟩,c⟩,by omega⟩,by omega⟩
 rw[hr,Bool.true_and];clear h1 h2 h3 hc hr;refine a7 gs.length (fun k=>(gs.take k).all (bj b.length)=true) (fun k=>[(1,.ptr 0 0 0),(34,.pv (ai gs)),(35,.pv (.int .i64 gs.length)),(36,.pv (.int .i64 k))]) (fun _=>[⟨[.pv (aa b),.pv (ae rs),.pv (ai gs),.pv (ah cs)],0,4,36,false⟩]) rfl (by (repeat' (first|exact trivial|refine And.intro (by first|rfl|(simp[get,Nat.beq]<;>omega)|(dsimp only[get];congr 1<;>first|rfl|omega|(simp<;>omega))) ?_))) ⟨_,rfl⟩ (fun _=>⟨Nat.zero_le _,rfl,rfl⟩) fun k hk hP=>?_
 by_cases hlt:k<gs.length
 ·have e:=bQ l6 gs k zg hlt;have i1:=eB (bj b.length) gs k zg hlt;have i2:=lZ (bj b.length) gs k zg hlt;have hx:=hgr _ (aQ (d:=zg) hlt);rw[i1,hP,Bool.true_and];clear i1 hgr;generalize gs.getD k zg=x at *;generalize bj b.length x=qx at *;unfold au at hx;repeat' (first|((with_reducible show az _);first|exact True.intro|(simp only[vb,lb,e,f1,hlt,hx,jK,au];and_intros<;>first|omega|(simp<;>omega)))|((with_reducible show aB _);first|exact True.intro|((try dsimp only[go_sem]);(simp[vb,e,f1,hlt,hx,jK,au]<;>omega)))|exact(rfl:some _=_)|((fail_if_success refine aK ?_);refine aV [(74,fun _=>some (.bool qx))] [ξ 39 (.agg [.int .i64 x.first,.int .i64 x.size,.sl x.least.length (x.least.flatMap aI)])] ?_;(repeat1' dsimp only[c46,aa,ae,ai,ah,go_sem]);first|refine aL ?_ ?_ rfl ?_|apply aM|apply aN|(refine aO (fun hc=>?_) fun hc=>?_<;>first|(cases hc;done)|(exfalso;(simp at hc<;>omega))|(try simp only[bn]at hc;try contradiction))|skip))
  ·rw[i2 hc];rfl
  exact⟨hlt,hc,by (repeat' (first|exact trivial|refine And.intro (by first|rfl|(simp[get,Nat.beq]<;>omega)|(dsimp only[get];congr 1<;>first|rfl|omega|(simp<;>omega))) ?_)),_,rfl⟩
 obtain rfl:k=gs.length:=by omega
 rw[List.take_length]at hP;rw[hP,Bool.true_and];repeat' (first|((with_reducible show az _);first|exact True.intro|(simp only[vb,lb,hlt,h4];and_intros<;>first|omega|(simp<;>omega)))|((with_reducible show aB _);first|exact True.intro|((try dsimp only[go_sem]);(simp[vb,hlt,h4]<;>omega)))|exact(rfl:some _=_)|((fail_if_success refine aK ?_);refine bw [(50,{val:=some (.pv (.bool q4)),ro:=true})] ?_;(repeat1' dsimp only[c46,aa,ae,ai,ah,go_sem]);first|refine aL ?_ ?_ rfl ?_|apply aM|apply aN|(refine aO (fun hc=>?_) fun hc=>?_<;>first|(cases hc;done)|(exfalso;(simp at hc<;>omega))|(try simp only[bn]at hc;try contradiction))|skip))
end Pur
end
section
namespace Rf
theorem mc (g:Gr) (b:List Rg):(cC g b).length=g.least.length:=by simp[cC]
theorem kQ (g:Gr) (b:List Rg) (j:Nat) (h:j<g.least.length):(cC g b).getD j false=decide (g.least.getD j 0≤(b.getD (g.first.toNat+j) zr).lo):=by
 simp[cC,List.getD,h]
open Classical in
theorem s6 (n:Nat) (l:List Bool) (u v:Nat):vF n l u v=true↔Reach n (bE n l) u v:=by
 unfold vF;rw[decide_eq_true_eq]
def nA (l:List Bool) (k:Nat):List Bool:=l.take k++List.replicate (l.length-k) false
theorem Cc (l:List Bool) (k:Nat) (h:k≤l.length):(nA l k).length=l.length:=by simp[nA];omega
theorem Ce (l:List Bool) (k:Nat) (h:k<l.length):(nA l k).set k (l.getD k false)=nA l (k+1):=by
 have h1:(l.take k).length=k:=by simp;omega
 have h2:l.length-k=(l.length-(k+1))+1:=by omega
 unfold nA;rw[h2,List.replicate_succ,List.set_append_right _ _ (by omega),h1,Nat.sub_self,List.set_cons_zero,Pur.aH l k false h,List.append_assoc];rfl
theorem Cf (l:List Bool):nA l l.length=l:=by simp[nA]
theorem zJ (l:List Bool):nA l 0=List.replicate l.length false:=by simp[nA]
end Rf
namespace Pur
open Rf
theorem FP (n:Nat) (es:List Bool) (hn:1≤n) (hn2:n≤6) (hlen:es.length=n*n):aq ctx 145 [.int .i64 n,bC es] (.tup [.agg [.int .i64 n,bC es],.bool true]):=by
 have hs:=nz (n:=(n:Int)) (by omega) (by omega);have hl:(es.length:Int)=(n:Int)*n:=by rw[hlen];simp
 refine an (C:=ctx) (Fn.of GL rfl) rfl ?_;unfold c145;repeat' (first|((with_reducible show az _);first|exact True.intro|(simp only[vb,lb,hs,hl,hn,hn2];and_intros<;>first|omega|(simp<;>omega)))|((with_reducible show aB _);first|exact True.intro|((try dsimp only[go_sem]);(simp[vb,hs,hl,hn,hn2]<;>omega)))|exact(rfl:some _=_)|((fail_if_success refine aK ?_);refine bG ?_;(repeat1' dsimp only[c145,bC,go_sem]);first|refine aL ?_ ?_ rfl ?_|apply aM|apply aN|(refine aO (fun hc=>?_) fun hc=>?_<;>first|(cases hc;done)|(try simp only[bn]at hc;try contradiction))|skip))
 simp;omega
theorem D3 (n:Nat) (es:List Bool) (fr tg:Nat) (hn:1≤n) (hn2:n≤6) (hlen:es.length=n*n) (hf:fr<n) (ht:tg<n) :
  aq ctx 128 [.int .i64 n,bC es,.int .i64 fr,.int .i64 tg] (zE (pn n (bE n es) tg (n+2) [[(fr:Int)]] (jA n fr))):=by
 have h1:=FP n es hn hn2 hlen;have h2:=DJ n es fr tg hlen hn2 hf ht;generalize hr:zE (pn n (bE n es) tg (n+2) [[(fr:Int)]] (jA n fr))=r at *;unfold bC at h1 h2;refine an (C:=ctx) (Fn.of GK rfl) rfl ?_;unfold Ft;repeat' (first|((with_reducible show az _);first|exact True.intro|(simp only[vb,lb,h1,h2,hf,ht];and_intros<;>first|omega|(simp<;>omega)))|((with_reducible show aB _);first|exact True.intro|((try dsimp only[go_sem]);(simp[vb,h1,h2,hf,ht]<;>omega)))|exact(rfl:some _=_)|((fail_if_success refine aK ?_);refine du [(145,fun _=>some (.tup [.agg [.int .i64 n,.sl es.length (es.flatMap dP)],.bool true])),(146,fun _=>some r)] ?_;(repeat1' dsimp only[Ft,bC,go_sem]);first|refine aL ?_ ?_ rfl ?_|apply aM|apply aN|(refine aO (fun hc=>?_) fun hc=>?_<;>first|(cases hc;done)|(exfalso;(simp at hc<;>omega))|(try simp only[bn]at hc;try contradiction))|skip))
def jC (s:Sy) (rows:List Rw) (b:List Rg) (ch:Bool):List PV:=[aa s.box,ae s.rows,ai s.graphs,ah s.cases,ae rows,aa b,.bool ch]
theorem nB (b:List Rg) (i:Nat) (h:i<b.length):(b.flatMap bS)[i*2]?.getD default= .int .i64 (b.getD i zr).lo:=by
 have:=bK ia b i zr 0 h (by omega);rw[Nat.add_zero]at this;rw[this];rfl
theorem FQ (l:List Bool) (k:Nat) (v:Bool):((l.flatMap dP).map AV.pv).set k (.pv (.bool v))=((l.set k v).flatMap dP).map AV.pv:=by
 rw[nw,nw,List.map_set,List.map_set]
theorem D4 (l:List Int):∃q:Bool,(q=true↔l≠[])∧((l=[]∧zE l= .nilsl∧q=false)∨(∃n c,zE l= .sl (n+1) c∧q=true)):=by
 cases l with
 |nil=>exact⟨false,by simp,.inl ⟨rfl,rfl,rfl⟩⟩
 |cons x r=>exact⟨true,by simp,.inr ⟨r.length,_,rfl,rfl⟩⟩
theorem Cg (s : Sy) (rows : List Rw) (b : List Rg) (ch : Bool) (g : Gr) (k : Nat) (hg : bj b.length g = true) (hb : b.length ≤ 1000000000) (hk : k < g.least.length) :
    aq ctx 106 [.agg (jC s rows b ch), .agg [.int .i64 g.first, .int .i64 g.size, au g.least], .int .i64 k] (.bool (gp g b k)) := by
  simp only [bj, aC, Bool.and_eq_true, decide_eq_true_eq] at hg
  obtain ⟨⟨⟨⟨⟨g1, g2⟩, g3⟩, g4⟩, g5⟩, g6⟩ := hg
  have hsq := nz g1 g2
  obtain ⟨n, hn⟩ : ∃ n : Nat, g.size = n := ⟨g.size.toNat, by omega⟩
  obtain ⟨fi, hfi⟩ : ∃ fi : Nat, g.first = fi := ⟨g.first.toNat, by omega⟩
  have hlen : g.least.length = n * n := by rw [hn] at g5; have : (n : Int) * n = ((n * n : Nat) : Int) := by simp
                                           omega
  have hpl := mc g b
  have hn1 : 0 < n := by omega
  have hpa := D3 n (cC g b) (k % n) (k / n) (by omega) (by omega) (by omega) (Nat.mod_lt _ hn1) (by rw [Nat.div_lt_iff_lt_mul hn1]; omega)
  have hcl : gp g b k = true ↔ pn n (bE n (cC g b)) (k / n) (n + 2) [[((k % n : Nat) : Int)]] (jA n (k % n)) ≠ [] := by
    unfold gp
    rw [hn, s6, Hk (Nat.mod_lt _ hn1)]
    rfl
  generalize hrs : pn n (bE n (cC g b)) (k / n) (n + 2) [[((k % n : Nat) : Int)]] (jA n (k % n)) = res at *
  generalize gp g b k = q at *
  have hat := kQ g b
  have f1 := cO g.least
  have f2 := bJ b
  have f4 := oE g.least.length
  have f5 : (dO [.bool false] g.least.length).length = g.least.length := by rw [f4, fH]; simp
  obtain ⟨_, _, le⟩ := g
  simp only at *
  subst hn hfi
  generalize cC ⟨fi, n, le⟩ b = ps at *
  simp only [jC]
  refine an (C := ctx) (Fn.of GD rfl) rfl ?_
  unfold zD
  repeat' (first
    | ((with_reducible show az _); first | exact True.intro | (simp only [vb, lb, f5]; and_intros <;> first | omega | (simp <;> omega)))
    | ((with_reducible show aB _); exact True.intro)
    | exact (rfl : some _ = _)
    | (
      fail_if_success refine aK ?_
      refine bG ?_
      repeat1' dsimp only [zD, au, aa, ae, ai, ah, go_sem]
      first
      | refine aL ?_ ?_ rfl ?_
      | apply aM
      | apply aN
      | (refine aO (fun hc => ?_) fun hc => ?_ <;> first | (cases hc; done) | (try simp only [bn] at hc; try contradiction))
      | skip))
  refine a7 le.length (fun _ => True) (fun j => [(2, .pv (.int .i64 k)), (3, .ptr 0 0 0), (4, .ptr 1 0 0), (7, .ref 2 0 0 le.length), (15, .pv (au le)), (16, .pv (.int .i64 le.length)), (17, .pv (.int .i64 j))])
    (fun j => [⟨[.pv (aa s.box), .pv (ae s.rows), .pv (ai s.graphs), .pv (ah s.cases), .pv (ae rows), .pv (aa b), .pv (.bool ch)], 0, 7, 73, false⟩, ⟨[.pv (.int .i64 fi), .pv (.int .i64 n), .pv (au le)], 0, 3, 99, false⟩, ⟨((nA ps j).flatMap dP).map .pv, 0, 1, 4, false⟩]) trivial (by (repeat' (first | exact trivial | refine And.intro (by first | rfl | (simp [get, Nat.beq]; done) | (simp [get, Nat.beq]; omega) | (dsimp only [get]; congr 1 <;> first | rfl | omega | (simp; done) | (simp; omega))) ?_))) ⟨[], ?_⟩ (fun j => ⟨Nat.zero_le _, rfl, by simp [aS, cZ]⟩) fun j hj _ => ?_
  · rw [zJ, hpl, ← f4]
    simp [aa, ae, ai, ah, au]
  by_cases hlt : j < le.length
  · have e1 := iP (g := aI) (fun _ => rfl) le j 0 default hlt
    have e2 := nB b (fi + j) (by omega)
    have e3 := hat j hlt
    have e4 := Ce ps j (by omega)
    have e5 := Cc ps j (by omega)
    have e6 : ((fi : Int) + (j : Int)) = ((fi + j : Nat) : Int) := by simp
    have e7 := fH (nA ps j)
    have hlt2 : fi + j < b.length := by omega
    rw [Int.toNat_natCast] at e3
    rw [e3] at e4
    generalize le.getD j 0 = lj at *
    generalize (b.getD (fi + j) zr).lo = lo at *
    repeat' (first
      | ((with_reducible show az _); first | exact True.intro | (simp only [vb, lb, e1, e2, e5, e7, hlt, hlt2, hpl, f1, f2]; and_intros <;> first | omega | (simp <;> omega)))
      | ((with_reducible show aB _); first | exact True.intro | ((try dsimp only [go_sem]); (simp only [vb, and_true, true_implies]; (repeat' (first | (with_reducible assumption) | (with_reducible apply And.intro) | intro _ | ((fail_if_success (with_reducible show (_ : Int) ≤ _)); assumption))) <;> first | rfl | (simp only [ab, e1, e2, e5, e7, hlt, hlt2, hpl, f1, f2]; done))))
      | exact (rfl : some _ = _)
      | (
        fail_if_success refine aK ?_
        refine bw [ξ 21 (.int .i64 lj), ξ 29 (.int .i64 (fi + j : Nat)), ξ 32 (.int .i64 lo)] ?_
        repeat1' dsimp only [zD, au, aa, ae, ai, ah, go_sem]
        first
        | refine aL ?_ ?_ rfl ?_
        | apply aM
        | apply aN
        | (refine aO (fun hc => ?_) fun hc => ?_ <;> first | (cases hc; done) | (exfalso; (simp at hc <;> omega)) | (try simp only [bn] at hc; try contradiction))
        | skip))
    refine ⟨hlt, trivial, by (repeat' (first | exact trivial | refine And.intro (by first | rfl | (simp [get, Nat.beq]; done) | (simp [get, Nat.beq]; omega) | (dsimp only [get]; congr 1 <;> first | rfl | omega | (simp; done) | (simp; omega))) ?_)), [], ?_⟩
    rw [← e4, ← FQ]
    simp
  obtain rfl : j = le.length := by omega
  rw [← hpl, Cf]
  unfold bC at hpa
  have f3 := fH ps
  have hz1 : ¬ n = 0 := by omega
  obtain ⟨q', hq', hqq⟩ := D4 res
  obtain rfl : q = q' := by rw [Bool.eq_iff_iff, hcl, hq']
  refine bq [(7, .ref 2 0 0 ps.length), (2, .pv (.int .i64 k)), (3, .ptr 0 0 0), (4, .ptr 1 0 0), (15, .pv (au le)), (16, .pv (.int .i64 ps.length)), (17, .pv (.int .i64 ps.length))] (by (repeat' (first | exact trivial | refine And.intro (by first | rfl | (simp [get, Nat.beq]; done) | (simp [get, Nat.beq]; omega) | (dsimp only [get]; congr 1 <;> first | rfl | omega | (simp; done) | (simp; omega))) ?_))) ?_
  refine (lW (μ := [_, _]) (ps := ps.flatMap dP) (n := ps.length) (g := 0) (t := 7) (sz := 1) (by simp [aS, cZ]) (Nat.zero_le _) (by omega) f3 (fun _ => rfl) rfl ?_)
  rcases hqq with ⟨-, hr, rfl⟩ | ⟨m, c, hr, rfl⟩
  · rw [hr] at hpa
    repeat' (first
      | ((with_reducible show az _); first | exact True.intro | (simp only [vb, lb, hn1, hpa, hz1]; and_intros <;> first | omega | (simp <;> omega)))
      | ((with_reducible show aB _); first | exact True.intro | ((try dsimp only [go_sem]); (simp only [vb, and_true, true_implies]; (repeat' (first | (with_reducible assumption) | (with_reducible apply And.intro) | intro _ | ((fail_if_success (with_reducible show (_ : Int) ≤ _)); assumption))) <;> rfl)))
      | exact (rfl : some _ = _)
      | (
        fail_if_success refine aK ?_
        refine aV [(128, fun _ => some .nilsl)] [ξ 43 (.int .i64 (k % n : Nat)), ξ 47 (.int .i64 (k / n : Nat))] ?_
        repeat1' dsimp only [zD, bC, go_sem]
        first
        | refine aL ?_ ?_ rfl ?_
        | apply aM
        | apply aN
        | (refine aO (fun hc => ?_) fun hc => ?_ <;> first | (cases hc; done) | (exfalso; (simp at hc <;> omega)) | (try simp only [bn] at hc; try contradiction))
        | skip))
  rw [hr] at hpa
  repeat' (first
    | ((with_reducible show az _); first | exact True.intro | (simp only [vb, lb, hn1, hpa, hz1]; and_intros <;> first | omega | (simp <;> omega)))
    | ((with_reducible show aB _); first | exact True.intro | ((try dsimp only [go_sem]); (simp only [vb, and_true, true_implies]; (repeat' (first | (with_reducible assumption) | (with_reducible apply And.intro) | intro _ | ((fail_if_success (with_reducible show (_ : Int) ≤ _)); assumption))) <;> rfl)))
    | exact (rfl : some _ = _)
    | (
      fail_if_success refine aK ?_
      refine aV [(128, fun _ => some (.sl (m + 1) c))] [ξ 43 (.int .i64 (k % n : Nat)), ξ 47 (.int .i64 (k / n : Nat))] ?_
      repeat1' dsimp only [zD, bC, go_sem]
      first
      | refine aL ?_ ?_ rfl ?_
      | apply aM
      | apply aN
      | (refine aO (fun hc => ?_) fun hc => ?_ <;> first | (cases hc; done) | (exfalso; (simp at hc <;> omega)) | (try simp only [bn] at hc; try contradiction))
      | skip))
  simp
end Pur
end
section
namespace Rf
open Pur (aC)
def jD (x y:Rg):Prop:=y.lo≤x.lo∧x.hi≤y.hi
structure fg (b b':List Rg):Prop where
 len:b.length=b'.length
 at_:∀k,k<b.length→jD (b.getD k zr) (b'.getD k zr)
structure GW (r r':Rw):Prop where
 t:r.terms=r'.terms
 b:r.bound≤r'.bound
structure im (l l':List Rw):Prop where
 len:l.length=l'.length
 at_:∀k,k<l.length→GW (l.getD k zw) (l'.getD k zw)
theorem jD.refl (x:Rg):jD x x:=⟨Int.le_refl _,Int.le_refl _⟩
theorem fg.refl (b:List Rg):fg b b:=⟨rfl,fun _ _=>jD.refl _⟩
theorem im.refl (l:List Rw):im l l:=⟨rfl,fun _ _=>⟨rfl,Int.le_refl _⟩⟩
theorem py {α:Type} (l:List α) (k:Nat) (d:α) (h:¬k<l.length):l.getD k d=d:=by
 rw[List.getD,List.getElem?_eq_none (by omega)];rfl
theorem fg.all {b b':List Rg} (h:fg b b') (k:Nat):jD (b.getD k zr) (b'.getD k zr):=by
 by_cases hk:k<b.length
 ·exact h.at_ k hk
 rw[py b k zr hk,py b' k zr (by rw[←h.len];exact hk)];exact jD.refl _
theorem j9 {b:List Rg} {c k:Nat} {x:Rg} (hc:c<b.length):(b.set c x).getD k zr=if k=c then x else b.getD k zr:=by
 rw[List.getD,List.getD];by_cases h:c=k
 ·subst h;simp[hc]
 rw[List.getElem?_set_ne h,if_neg (Ne.symm h)]
theorem fg.set {b b':List Rg} (h:fg b b') {c:Nat} {x y:Rg} (hc:c<b.length) (hxy:jD x y):fg (b.set c x) (b'.set c y):=by
 refine⟨by simp[h.len],fun k hk=>?_⟩;rw[j9 hc,j9 (by rw[←h.len];exact hc)];split
 ·exact hxy
 exact h.all k
theorem im.app {l l':List Rw} (h:im l l') (m:List Rw):im (l++m) (l'++m):=by
 refine⟨by simp[h.len],fun k hk=>?_⟩;by_cases h1:k<l.length
 ·have h2:=h.at_ k h1;rw[List.getD,List.getD,List.getElem?_append_left h1,List.getElem?_append_left (by rw[←h.len];exact h1)];exact h2
 rw[List.getD,List.getD,List.getElem?_append_right (by omega),List.getElem?_append_right (by rw[←h.len];omega),h.len];exact⟨rfl,Int.le_refl _⟩
theorem oH (b:List Rg):bO b=true↔∃k,k<b.length∧(b.getD k zr).hi<(b.getD k zr).lo:=by
 unfold bO;rw[List.any_eq_true];constructor
 ·rintro⟨x,hx,h⟩;obtain⟨k,hk,rfl⟩:=List.mem_iff_getElem.mp hx;exact⟨k,hk,by rw[List.getD,List.getElem?_eq_getElem hk];simpa [cA]using h⟩
 rintro⟨k,hk,h⟩;exact⟨_,Pur.aQ hk,by simpa [cA]using h⟩
theorem fg.empty {b b':List Rg} (h:fg b b') (he:bO b'=true):bO b=true:=by
 rw[oH]at he ⊢;obtain⟨k,hk,h1⟩:=he;have:=h.all k;exact⟨k,by rw[h.len];exact hk,by obtain⟨a,c⟩:=this;omega⟩
theorem FT {b b':List Rg} (h:fg b b') (t:Tm):tR b' t≤tR b t:=by
 obtain⟨h1,h2⟩:=h.all t.cell.toNat;unfold tR;split
 ·exact Int.mul_le_mul_of_nonneg_left h1 (by omega)
 exact Int.mul_le_mul_of_nonpos_left (by omega) h2
theorem xU {b b':List Rg} (h:fg b b') (c:Int):∀l:List Tm,dF b' c l≤dF b c l
 |[]=>Int.le_refl _
 |t::r=>by
  have h1:=xU h c r;have h2:=FT h t;simp only[dF];split<;>omega
theorem D5 {b b':List Rg} {r r':Rw} (hb:fg b b') (hr:GW r r') (c:Int):(cB r b c).hi<(cB r b c).lo∨jD (cB r b c) (cB r' b' c):=by
 obtain⟨h1,h2⟩:=hb.all c.toNat;have h3:=xU hb c r'.terms;have h4:=hr.b;unfold cB;rw[hr.t];dsimp only;generalize b.getD c.toNat zr=x at *;generalize b'.getD c.toNat zr=y at *;generalize dF b c r'.terms=s1 at *;generalize dF b' c r'.terms=s2 at *;generalize kr c r'.terms=f at *;by_cases hf:f=0
 ·rw[if_pos hf,if_pos hf];exact .inr ⟨h1,h2⟩
 rw[if_neg hf,if_neg hf];by_cases hp:0<f
 ·simp only[hp,if_true];have h5:(r.bound-s1) / f≤(r'.bound-s2) / f:=Int.ediv_le_ediv hp (by omega);generalize (r.bound-s1) / f=q1 at *;generalize (r'.bound-s2) / f=q2 at *;by_cases he:min x.hi q1<x.lo
  ·rw[if_pos he];exact .inl (by decide)
  rw[if_neg he,if_neg (by omega)];exact .inr ⟨h1,by show min x.hi q1≤min y.hi q2;omega⟩
 simp only[hp,if_false];have h5:(r.bound-s1) / -f≤(r'.bound-s2) / -f:=Int.ediv_le_ediv (by omega) (by omega);generalize (r.bound-s1) / -f=q1 at *;generalize (r'.bound-s2) / -f=q2 at *;by_cases he:x.hi<max x.lo (-q1)
 ·rw[if_pos he];exact .inl (by decide)
 rw[if_neg he,if_neg (by omega)];exact .inr ⟨by show max y.lo (-q2)≤max x.lo (-q1);omega,h2⟩
theorem nP {b:List Rg} {r:Rw} (c:Int) (h:¬(cB r b c).hi<(cB r b c).lo):jD (cB r b c) (b.getD c.toNat zr):=by
 unfold cB at h ⊢;dsimp only at h ⊢;generalize b.getD c.toNat zr=x at *;generalize (r.bound-dF b c r.terms)=rest at *;generalize kr c r.terms=f at *;by_cases hf:f=0
 ·rw[if_pos hf];exact jD.refl _
 rw[if_neg hf]at h ⊢;by_cases hp:0<f
 ·simp only[hp,if_true]at h ⊢;by_cases he:min x.hi (rest / f)<x.lo
  ·rw[if_pos he]at h;exact absurd (by decide) h
  rw[if_neg he];exact⟨Int.le_refl _,by show min _ _≤_;omega⟩
 simp only[hp,if_false]at h ⊢;by_cases he:x.hi<max x.lo (-(rest / -f))
 ·rw[if_pos he]at h;exact absurd (by decide) h
 rw[if_neg he];exact⟨by show _≤max _ _;omega,Int.le_refl _⟩
theorem zK {n:Nat} {e e':Nat→Nat→Bool} {a b:Nat} (h:∀u v,e u v=true→e' u v=true) (hr:Reach n e a b):Reach n e' a b:=by
 induction hr with
 |here=>exact .here
 |step _ h1 h2 ih=>exact .step ih h1 (h _ _ h2)
theorem vQ {b b':List Rg} (h:fg b b') (g:Gr) (n u v:Nat) (he:bE n (cC g b') u v=true):bE n (cC g b) u v=true:=by
 unfold bE at he ⊢;by_cases hk:u*n+v<g.least.length
 ·rw[kQ g b' _ hk,decide_eq_true_eq]at he;rw[kQ g b _ hk,decide_eq_true_eq];have:=(h.all (g.first.toNat+(u*n+v))).1;omega
 rw[py _ _ _ (by simp[cC];omega)]at he;cases he
open Classical in
theorem xV {b b':List Rg} (h:fg b b') (g:Gr) (k:Nat) (hc:gp g b' k=true):gp g b k=true:=by
 unfold gp vF at hc ⊢;rw[decide_eq_true_eq]at hc ⊢;exact zK (fun u v he=>vQ h g _ u v he) hc
theorem HC {b b':List Rg} (h:fg b b') (g:Gr) (k:Nat):jD (l5 g b k) (l5 g b' k):=by
 obtain⟨h1,h2⟩:=h.all (g.first.toNat+k);unfold l5;dsimp only;generalize b.getD (g.first.toNat+k) zr=x at *;generalize b'.getD (g.first.toNat+k) zr=y at *;by_cases hc:gp g b' k=true
 ·rw[if_pos hc,if_pos (xV h g k hc)];exact⟨h1,by show min _ _≤min _ _;omega⟩
 rw[if_neg hc];split
 ·exact⟨h1,by show min _ _≤_;omega⟩
 exact⟨h1,h2⟩
theorem vR (g:Gr) (b:List Rg) (k:Nat):jD (l5 g b k) (b.getD (g.first.toNat+k) zr):=by
 unfold l5;dsimp only;split
 ·exact⟨Int.le_refl _,by show min _ _≤_;omega⟩
 exact jD.refl _
theorem jE {x y:Rg} (hy:kW y=true) (h:jD x y) (he:¬x.hi<x.lo):kW x=true:=by
 obtain⟨h1,h2⟩:=h;have:=iQ hy;simp only[kW,aC,Bool.and_eq_true,decide_eq_true_eq];omega
theorem jl {b:List Rg} {c:Nat} {x:Rg} (hb:bp b=true) (hx:kW x=true):bp (b.set c x)=true:=by
 simp only[bp,Bool.and_eq_true,List.all_eq_true,decide_eq_true_eq,List.length_set]at hb ⊢;refine⟨fun y hy=>?_,hb.2⟩;rcases List.mem_or_eq_of_mem_set hy with h|h
 ·exact hb.1 y h
 rw[h];exact hx
def HD (p p':List Rg×Bool×Bool):Prop:=p'.2.1=true→p.2.1=true∧(p'.2.2=true→p.2.2=true)∧(p.2.2=true∨(fg p.1 p'.1∧bp p.1=true))
theorem AO {s s':Sy} (hg:s.graphs=s'.graphs) {rows rows':List Rw} (hr:im rows rows') {b b':List Rg} (hb:fg b b') (hok:bp b=true) (hok':bp b'=true) (hrow:∀r∈rows,cN b.length r=true) (hrow':∀r∈rows',cN b'.length r=true) (x:aJ) (hx:0≤x.index) (hgo:∀q∈s.graphs,bj b.length q=true) :
  HD (bR s rows b x) (bR s' rows' b' x):=by
 intro hp;unfold bR at hp ⊢;rw[←hg]at hp ⊢;by_cases hk:x.kind=1
 ·simp only[if_pos hk]at hp ⊢;by_cases h1:x.index<s.graphs.length
  ·simp only[if_pos h1]at hp ⊢;have hq:=hgo _ (Pur.aQ (d:=zg) (show x.index.toNat<s.graphs.length by omega));generalize s.graphs.getD x.index.toNat zg=g at *;(try dsimp only at hp ⊢)
   by_cases h2:g.first≤x.cell∧x.cell<g.first+g.least.length
   ·simp only[if_pos h2];simp only[bj,aC,Bool.and_eq_true,decide_eq_true_eq]at hq;obtain⟨⟨⟨⟨⟨g1,g2⟩,g3⟩,g4⟩,g5⟩,g6⟩:=hq;have hc:x.cell.toNat<b.length:=by omega
    have hfc:g.first.toNat+(x.cell-g.first).toNat=x.cell.toNat:=by omega
    have hle:=HC hb g (x.cell-g.first).toNat;have hsub:=vR g b (x.cell-g.first).toNat;rw[hfc]at hsub;refine⟨trivial,fun h=>?_,?_⟩
    ·have h:(l5 g b' (x.cell-g.first).toNat).hi<(l5 g b' (x.cell-g.first).toNat).lo:=of_decide_eq_true h;obtain⟨a1,a2⟩:=hle;exact decide_eq_true (by omega)
    by_cases he:(l5 g b (x.cell-g.first).toNat).hi<(l5 g b (x.cell-g.first).toNat).lo
    ·exact .inl (by simp[cA,he])
    exact .inr ⟨hb.set hc hle,jl hok (jE (cQ hok _) hsub he)⟩
   rw[if_neg h2]at hp;cases hp
  rw[if_neg h1]at hp;cases hp
 rw[if_neg hk]at hp ⊢;rw[if_neg hk];by_cases h1:x.index<rows'.length∧x.cell<b'.length
 ·rw[if_pos h1]at hp ⊢;have h2:x.index<rows.length∧x.cell<b.length:=by rw[hr.len,hb.len];exact h1
  rw[if_pos h2];have hi:x.index.toNat<rows.length:=by omega
  have hrl:=hr.at_ _ hi;have hro:=hrow _ (Pur.aQ (d:=zw) hi);have hro':=hrow' _ (Pur.aQ (d:=zw) (show x.index.toNat<rows'.length by omega));generalize rows.getD x.index.toNat zw=r at *;generalize rows'.getD x.index.toNat zw=r' at *;dsimp only at hp ⊢;by_cases h3:x.cell<0
  ·rw[if_pos h3]at hp ⊢;rw[if_pos h3];have hp:(r'.terms.isEmpty&&decide (r'.bound<0))=true:=hp;simp only[Bool.and_eq_true,decide_eq_true_eq]at hp;obtain⟨p1,p2⟩:=hp;have p3:=hrl.b;have p4:=hrl.t;have e:(r.terms.isEmpty&&decide (r.bound<0))=true:=by
    rw[p4,p1,decide_eq_true (by omega)];rfl
   exact⟨e,fun _=>e,.inl e⟩
  rw[if_neg h3,if_neg h3];have hc:x.cell.toNat<b.length:=by omega
  have t1:b9 r b x.cell=cB r b x.cell:=by
   unfold b9;rw[if_pos ⟨by simp[dN,hok,hro],by omega,by omega⟩]
  have t2:b9 r' b' x.cell=cB r' b' x.cell:=by
   unfold b9;rw[if_pos ⟨by simp[dN,hok',hro'],by omega,by omega⟩]
  rw[t1,t2];rcases D5 hb hrl x.cell with h|h
  ·exact⟨rfl,fun _=>by simp[cA,h],.inl (by simp[cA,h])⟩
  refine⟨rfl,fun h'=>?_,?_⟩
  ·have h':(cB r' b' x.cell).hi<(cB r' b' x.cell).lo:=of_decide_eq_true h';obtain⟨a1,a2⟩:=h;exact decide_eq_true (by omega)
  by_cases he:(cB r b x.cell).hi<(cB r b x.cell).lo
  ·exact .inl (by simp[cA,he])
  exact .inr ⟨hb.set hc h,jl hok (jE (cQ hok _) (nP x.cell he) he)⟩
 rw[if_neg h1]at hp;cases hp
theorem D6 (s:Sy) (rows:List Rw) (b:List Rg) (x:aJ):(bR s rows b x).2.2=true→(bR s rows b x).2.1=true:=by
 unfold bR;dsimp only;(repeat' split)<;>simp
theorem pz {s s':Sy} (hg:s.graphs=s'.graphs) {rows rows':List Rw} (hr:im rows rows') {n:Nat} (hrow:∀r∈rows,cN n r=true) (hrow':∀r∈rows',cN n r=true) (hgo:∀q∈s.graphs,bj n q=true) :
  ∀(l:List aJ),(∀x∈l,0≤x.index)→∀(b b':List Rg),fg b b'→b.length=n→bp b=true→bp b'=true →
   (bk s' rows' l b'= .error true→bk s rows l b= .error true)∧(∀c',bk s' rows' l b'= .ok c'→bk s rows l b= .error true∨∃c,bk s rows l b= .ok c∧fg c c'∧bp c=true∧bp c'=true)
 |[],_,b,b',hb,hn,hok,hok'=>⟨fun h=>(by cases h),fun c' h=>by injection h with h;subst h;exact .inr ⟨b,rfl,hb,hok,hok'⟩⟩
 |x::l,hx,b,b',hb,hn,hok,hok'=>by
  have h1:=AO hg hr hb hok hok' (by rw[hn];exact hrow) (by rw[←hb.len,hn];exact hrow') x (hx x (by simp)) (by rw[hn];exact hgo);have h2:=AO (s:=s') (s':=s') rfl (im.refl rows') (fg.refl b') hok' hok' (by rw[←hb.len,hn];exact hrow') (by rw[←hb.len,hn];exact hrow') x (hx x (by simp)) (by rw[←hg,←hb.len,hn];exact hgo);have hl:=lp s rows b x;have hcp:=D6 s' rows' b' x;rw[bk,bk];generalize bR s rows b x=p at *;generalize bR s' rows' b' x=p' at *;obtain⟨b1,pp,cc⟩:=p;obtain⟨b1',pp',cc'⟩:=p';simp only at hl;simp only at hcp;cases hpp:pp' with
  |false =>
   cases hcc:cc' with
   |false=>simp
   |true =>
    rw[hpp]at hcp;exact absurd (hcp hcc) (by simp)
  |true =>
   subst hpp;obtain⟨g1,g2,g3⟩:=h1 rfl;obtain⟨-,-,g4⟩:=h2 rfl;simp only at g1 g2 g3 g4;subst g1;cases cc' with
   |true =>
    have:=g2 rfl;subst this;simp
   |false =>
    simp only[Bool.false_eq_true,if_false,if_true];have g4:=(g4.resolve_left (by simp)).2;cases cc with
    |true=>simp
    |false =>
     simp only[Bool.false_eq_true,if_false];have g3:=g3.resolve_left (by simp);exact pz hg hr hrow hrow' hgo l (fun y hy=>hx y (by simp[hy])) b1 b1' g3.1 (hl.trans hn) g3.2 g4
structure mz (s:Sy) (n:Nat):Prop where
 g:∀q∈s.graphs,bj n q=true
 c:∀l∈s.cases,∀r∈l,cN n r=true
theorem fI {b:List Rg} {c:Nat} {x:Rg} (hc:c<b.length) (hok:bp b=true) (hx:jD x (b.getD c zr)):bO (b.set c x)=true∨bp (b.set c x)=true:=by
 by_cases he:x.hi<x.lo
 ·exact .inl ((oH _).mpr ⟨c,by simpa using hc,by rw[j9 hc,if_pos rfl];exact he⟩)
 exact .inr (jl hok (jE (cQ hok c) hx he))
theorem nC {s s':Sy} (hg:s.graphs=s'.graphs) (hcs:s.cases=s'.cases) {n:Nat} (hm:mz s n):∀(t:Tree),eA t=true→∀(rows rows':List Rw),im rows rows'→(∀r∈rows,cN n r=true)→(∀r∈rows',cN n r=true) →
  ∀(b b':List Rg) (ch:Bool),fg b b'→b.length=n→(bO b=true∨bp b=true)→(bO b'=true∨bp b'=true)→bf s' t rows' b' ch=true→bf s t rows b ch=true:=by
 refine Tree.ind fun k st c a l ih hf rows rows' hr hrow hrow' b b' ch hb hn hok hok' h=>?_
 rw[fw]at h ⊢;by_cases he:bO b=true
 ·rw[if_pos he]
 rw[if_neg he];have he':¬bO b'=true:=fun h=>he (hb.empty h)
 rw[if_neg he']at h;have hok:=hok.resolve_left he;have hok':=hok'.resolve_left he';rw[cY]at hf;simp only[Bool.and_eq_true]at hf;obtain⟨⟨hf1,hf2⟩,hf3⟩:=hf;obtain⟨s1,s2⟩:=pz hg hr hrow hrow' hm.g st (fun x hx=>by
  have:=List.all_eq_true.mp hf1 x hx;simp only[bL,aC,Bool.and_eq_true,decide_eq_true_eq]at this;omega) b b' hb hn hok hok'
 cases hs:bk s' rows' st b' with
 |error r =>
  rw[hs]at h;simp only at h;subst h;rw[s1 hs]
 |ok c' =>
  rw[hs]at h;simp only at h;rcases s2 c' hs with h1|⟨b1,h1,hb1,o1,o1'⟩
  ·rw[h1]
  rw[h1];simp only;have hn1:b1.length=n:=(nr _ _ _ _ _ h1).trans hn;unfold nW at h ⊢;by_cases hk:k=1
  ·rw[if_pos hk]at h ⊢;by_cases hc:c<c'.length
   ·rw[if_pos hc]at h;rw[if_pos (by rw[hb1.len];exact hc)];subst hk;simp[gT,aC]at hf2;obtain⟨⟨t1,t2,t3⟩,t4,t5⟩:=hf2;match l,t1,h with
    |[k0,k1],_,h =>
     simp only[List.map_cons,List.map_nil,Bool.and_eq_true]at h ⊢;have hc1:c.toNat<b1.length:=by rw[hb1.len];omega
     have hc2:c.toNat<c'.length:=by omega
     obtain⟨y1,y2⟩:=hb1.all c.toNat;have m1:jD ⟨(b1.getD c.toNat zr).lo,min (b1.getD c.toNat zr).hi a⟩ (b1.getD c.toNat zr):=⟨Int.le_refl _,by show min _ _≤_;omega⟩
     have m2:jD ⟨(c'.getD c.toNat zr).lo,min (c'.getD c.toNat zr).hi a⟩ (c'.getD c.toNat zr):=⟨Int.le_refl _,by show min _ _≤_;omega⟩
     have m3:jD ⟨max (b1.getD c.toNat zr).lo (a+1),(b1.getD c.toNat zr).hi⟩ (b1.getD c.toNat zr):=⟨by show _≤max _ _;omega,Int.le_refl _⟩
     have m4:jD ⟨max (c'.getD c.toNat zr).lo (a+1),(c'.getD c.toNat zr).hi⟩ (c'.getD c.toNat zr):=⟨by show _≤max _ _;omega,Int.le_refl _⟩
     simp only[List.all_cons,List.all_nil,Bool.and_true,Bool.and_eq_true]at hf3;exact⟨ih k0 (by simp) hf3.1 rows rows' hr hrow hrow' _ _ ch (hb1.set hc1 (y:=⟨(c'.getD c.toNat zr).lo,min (c'.getD c.toNat zr).hi a⟩) ⟨y1,by show min _ _≤min _ _;omega⟩) (by simpa using hn1) (fI hc1 o1 m1) (fI hc2 o1' m2) h.1,
      ih k1 (by simp) hf3.2 rows rows' hr hrow hrow' _ _ ch (hb1.set hc1 (y:=⟨max (c'.getD c.toNat zr).lo (a+1),(c'.getD c.toNat zr).hi⟩) ⟨by show max _ _≤max _ _;omega,y2⟩) (by simpa using hn1) (fI hc1 o1 m3) (fI hc2 o1' m4) h.2⟩
   rw[if_neg hc]at h;cases h
  rw[if_neg hk]at h ⊢;by_cases hk2:k=2
  ·rw[if_pos hk2]at h ⊢;simp only[Bool.and_eq_true,List.length_map]at h ⊢;rw[←hcs]at h;refine⟨h.1,?_⟩;have key:∀(l:List Tree) (cs:List (List Rw)),(∀t∈l,∀(rows rows':List Rw),im rows rows'→(∀r∈rows,cN n r=true)→(∀r∈rows',cN n r=true)→bf s' t rows' c' true=true→bf s t rows b1 true=true)→(∀q∈cs,∀r∈q,cN n r=true) →
     kE rows' c' (l.map (bf s')) cs=true→kE rows b1 (l.map (bf s)) cs=true:=by
    intro l;induction l with
    |nil=>intro cs _ _ _;cases cs<;>rfl
    |cons t r ihr =>
     intro cs h1 h2 h3;cases cs with
     |nil=>rfl
     |cons q cs =>
      simp only[List.map_cons,kE,Bool.and_eq_true]at h3 ⊢;refine⟨h1 t (by simp) _ _ (hr.app q) (fun r hr=>?_) (fun r hr=>?_) h3.1,ihr cs (fun t ht=>h1 t (by simp[ht])) (fun q hq=>h2 q (by simp[hq])) h3.2⟩
      ·rcases List.mem_append.mp hr with h|h
       ·exact hrow r h
       exact h2 q (by simp) r h
      rcases List.mem_append.mp hr with h|h
      ·exact hrow' r h
      exact h2 q (by simp) r h
   refine key l s.cases (fun t ht R R' g1 g2 g3 g4=>?_) hm.c h.2;exact ih t ht (List.all_eq_true.mp hf3 t ht) R R' g1 g2 g3 b1 c' true hb1 hn1 (.inr o1) (.inr o1') g4
  rw[if_neg hk2]at h;cases h
end Rf
end
section
namespace Rf
def bD (st:List aJ) (n:Int):List aJ:=if 0≤n then st.eraseIdx n.toNat else st
def HE:List (Nat×(Int→Tree))→Int→List Tree
 |[],_=>[]
 |(m,f)::r,n=>f n::HE r (n-m)
def dG:Tree→Int→Tree
 | .node k st c a l=>fun n=>.node k (bD st n) c a (HE (l.attach.map fun x=>(aT x.1,dG x.1)) (n-st.length))
decreasing_by
 have:=List.sizeOf_lt_of_mem x.2;simp;omega
def cp (l:List Tree) (n:Int):List Tree:=HE (l.map fun x=>(aT x,dG x)) n
theorem dA (k:Int) (st:List aJ) (c a:Int) (l:List Tree) (n:Int):dG (.node k st c a l) n= .node k (bD st n) c a (cp l (n-st.length)):=by
 rw[dG,cp];simp only[List.attach_map_subtype_val,List.map_attach_eq_pmap,List.pmap_eq_map]
theorem Ch (n:Int):cp [] n=[]:=rfl
theorem cj (t:Tree) (r:List Tree) (n:Int):cp (t::r) n=dG t n::cp r (n-aT t):=rfl
theorem cD:∀(l:List Tree) (n:Int),(cp l n).length=l.length
 |[],_=>rfl
 |t::r,n=>by rw[cj,List.length_cons,List.length_cons,cD r]
theorem dH (st:List aJ) (n:Int) (h:n<0∨(st.length:Int)≤n):bD st n=st:=by
 unfold bD;split
 ·exact List.eraseIdx_of_length_le (by omega)
 rfl
theorem qw (st:List aJ) (n:Int) (h:0≤n) (h2:n<st.length):(bD st n).length+1=st.length:=by
 unfold bD;rw[if_pos h,List.length_eraseIdx,if_pos (by omega)];omega
theorem qy (st:List aJ) (n:Int):(bD st n).length≤st.length:=by
 unfold bD;split
 ·exact List.length_eraseIdx_le _ _
 exact Nat.le_refl _
theorem s7 {st:List aJ} {n:Int} {x:aJ} (h:x∈bD st n):x∈st:=by
 unfold bD at h;split at h
 ·exact List.mem_of_mem_eraseIdx h
 exact h
theorem erase_comm {α:Type}:∀(l:List α) (a j:Nat),a≤j→(l.eraseIdx a).eraseIdx j=(l.eraseIdx (j+1)).eraseIdx a
 |[],_,_,_=>by simp
 |x::l,0,j,_=>rfl
 |x::l,a+1,0,h=>by omega
 |x::l,a+1,j+1,h=>by
  simp only[List.eraseIdx_cons_succ];rw[erase_comm l a j (by omega)]
theorem xW (st:List aJ) (a j:Int) (h0:0≤a) (h:a≤j):bD (bD st a) j=bD (bD st (j+1)) a:=by
 simp only[bD,if_pos h0,if_pos (show 0≤j by omega),if_pos (show 0≤j+1 by omega)];rw[erase_comm st a.toNat j.toNat (by omega),show(j+1).toNat=j.toNat+1 by omega]
theorem j4:∀(t:Tree) (n:Int),(n<0∨(aT t:Int)≤n)→dG t n=t:=by
 refine Tree.ind fun k st c a l ih n h=>?_
 have key:∀(l:List Tree),(∀t∈l,∀n:Int,(n<0∨(aT t:Int)≤n)→dG t n=t)→∀n:Int,(n<0∨(aW l:Int)≤n)→cp l n=l:=by
  intro l;induction l with
  |nil=>intro _ _ _;rfl
  |cons t r ihr =>
   intro h1 n h2;rw[aW]at h2;rw[cj,h1 t (by simp) n (by omega),ihr (fun t ht=>h1 t (by simp[ht])) _ (by omega)]
 rw[ey]at h;rw[dA,dH st n (by omega),key l ih _ (by omega)]
theorem iS:∀(l:List Tree) (n:Int),(n<0∨(aW l:Int)≤n)→cp l n=l
 |[],_,_=>rfl
 |t::r,n,h=>by
  rw[aW]at h;rw[cj,j4 t n (by omega),iS r _ (by omega)]
theorem me:∀(t:Tree) (n:Int),0≤n→n<aT t→aT (dG t n)+1=aT t:=by
 refine Tree.ind fun k st c a l ih n h0 h=>?_
 have key:∀(l:List Tree),(∀t∈l,∀n:Int,0≤n→n<aT t→aT (dG t n)+1=aT t)→∀n:Int,0≤n→n<aW l→aW (cp l n)+1=aW l:=by
  intro l;induction l with
  |nil=>intro _ n h0 h;simp[aW]at h;omega
  |cons t r ihr =>
   intro h1 n h0 h2;rw[aW]at h2;rw[cj,aW,aW];by_cases hn:n<aT t
   ·rw[iS r _ (by omega)];have:=h1 t (by simp) n h0 hn;omega
   rw[j4 t n (by omega)];have:=ihr (fun t ht=>h1 t (by simp[ht])) (n-aT t) (by omega) (by omega);omega
 rw[ey]at h;rw[dA,ey,ey];by_cases hn:n<st.length
 ·rw[iS l _ (by omega)];have:=qw st n h0 hn;omega
 rw[dH st n (by omega)];have:=key l ih (n-st.length) (by omega) (by omega);omega
theorem Ci:∀(t:Tree) (a j:Int),0≤a→a≤j→dG (dG t a) j=dG (dG t (j+1)) a:=by
 refine Tree.ind fun k st c p l ih a j h0 h=>?_
 have key:∀(l:List Tree),(∀t∈l,∀a j:Int,0≤a→a≤j→dG (dG t a) j=dG (dG t (j+1)) a)→∀a j:Int,0≤a→a≤j→cp (cp l a) j=cp (cp l (j+1)) a:=by
  intro l;induction l with
  |nil=>intro _ _ _ _ _;rfl
  |cons t r ihr =>
   intro h1 a j h0 h2;rw[cj,cj,cj,cj,h1 t (by simp) a j h0 h2];congr 1;by_cases ha:a<aT t
   ·have e1:=me t a h0 ha;rw[iS r (a-aT t) (by omega),show j-(aT (dG t a):Int)=j+1-aT t by omega];by_cases hj:j+1<aT t
    ·have e2:=me t (j+1) (by omega) hj;rw[iS (cp r (j+1-aT t)) (a-aT (dG t (j+1))) (by omega)]
    rw[j4 t (j+1) (by omega),iS (cp r (j+1-aT t)) (a-aT t) (by omega)]
   rw[j4 t a (by omega),j4 t (j+1) (by omega),ihr (fun t ht=>h1 t (by simp[ht])) (a-aT t) (j-aT t) (by omega) (by omega),show j-(aT t:Int)+1=j+1-aT t by omega]
 rw[dA,dA,dA,dA,xW st a j h0 h];congr 1;by_cases ha:a<st.length
 ·have e1:=qw st a h0 ha;rw[iS l (a-st.length) (by omega),show j-((bD st a).length:Int)=j+1-st.length by omega];by_cases hj:j+1<st.length
  ·have e2:=qw st (j+1) (by omega) hj;rw[iS (cp l (j+1-st.length)) (a-(bD st (j+1)).length) (by omega)]
  rw[dH st (j+1) (by omega),iS (cp l (j+1-st.length)) (a-st.length) (by omega)]
 rw[dH st a (by omega),dH st (j+1) (by omega),key l (fun t _=>ih t ‹_›) (a-st.length) (j-st.length) (by omega) (by omega),show j-(st.length:Int)+1=j+1-st.length by omega]
theorem rz:∀(t:Tree) (n:Int),wt (dG t n)≤wt t:=by
 refine Tree.ind fun k st c a l ih n=>?_
 have key:∀(l:List Tree),(∀t∈l,∀n:Int,wt (dG t n)≤wt t)→∀n:Int,iA (cp l n)≤iA l:=by
  intro l;induction l with
  |nil=>intro _ _;exact Nat.le_refl _
  |cons t r ihr =>
   intro h1 n;have e1:=h1 t (by simp) n;have e2:=ihr (fun t ht=>h1 t (by simp[ht])) (n-aT t);rw[cj,iA,iA];omega
 have e1:=key l ih (n-st.length);have e2:=qy st n;rw[dA,cz,cz];omega
theorem zL:∀(t:Tree) (n:Int),c7 (dG t n)=c7 t:=by
 refine Tree.ind fun k st c a l ih n=>?_
 have key:∀(l:List Tree),(∀t∈l,∀n:Int,c7 (dG t n)=c7 t)→∀n:Int,cK (cp l n)=cK l:=by
  intro l;induction l with
  |nil=>intro _ _;rfl
  |cons t r ihr =>
   intro h1 n;rw[cj,cK,cK,h1 t (by simp) n,ihr (fun t ht=>h1 t (by simp[ht]))]
 rw[dA,iy,iy,key l ih]
theorem xX:∀(t:Tree) (n:Int),eA t=true→eA (dG t n)=true:=by
 refine Tree.ind fun k st c a l ih n h=>?_
 have key:∀(l:List Tree),(∀t∈l,∀n:Int,eA t=true→eA (dG t n)=true)→∀n:Int,l.all eA=true→(cp l n).all eA=true:=by
  intro l;induction l with
  |nil=>intro _ _ _;rfl
  |cons t r ihr =>
   intro h1 n h2;simp only[List.all_cons,Bool.and_eq_true]at h2;rw[cj,List.all_cons,h1 t (by simp) n h2.1,ihr (fun t ht=>h1 t (by simp[ht])) _ h2.2];rfl
 rw[cY]at h;rw[dA,cY];simp only[Bool.and_eq_true]at h ⊢;obtain⟨⟨h1,h2⟩,h3⟩:=h;refine⟨⟨?_,?_⟩,key l ih _ h3⟩
 ·rw[List.all_eq_true]at h1 ⊢;exact fun x hx=>h1 x (s7 hx)
 rw[cD];exact h2
theorem s8 (t:Tree) (n:Int) (h:gC t=true):gC (dG t n)=true:=by
 have h1:=zL t n;have h2:=rz t n;simp only[gC,Bool.and_eq_true,decide_eq_true_eq]at h ⊢;obtain⟨⟨a,b⟩,c⟩:=h;exact⟨⟨by omega,by omega⟩,xX t n c⟩
noncomputable def mA (s:Sy):Nat→Tree→Tree
 |0,t=>t
 |i+1,t=>mA s i (if iO s (dG t i)=true then dG t i else t)
noncomputable def pA (s:Sy) (t:Tree):Tree:=mA s (aT t) t
end Rf
end
section
namespace Rf
open Pur (aC)
structure xY (b:List Rg) (v:List Int):Prop where
 len:v.length=b.length
 at_:∀k,k<b.length→(b.getD k zr).lo≤v.getD k 0∧v.getD k 0≤(b.getD k zr).hi
theorem xY.set {b:List Rg} {v:List Int} (h:xY b v) {c:Nat} {x:Rg} (hc:c<b.length) (h1:x.lo≤v.getD c 0) (h2:v.getD c 0≤x.hi):xY (b.set c x) v:=by
 refine⟨by simp[h.len],fun k hk=>?_⟩;rw[j9 hc];split
 ·rename_i e;subst e;exact⟨h1,h2⟩
 exact h.at_ k (by simpa using hk)
theorem xZ {rows:List Rw} {b:List Rg}:∀{fs:List Acc} {cs:List (List Rw)} (i:Nat) (h1:i<fs.length) (h2:i<cs.length),kE rows b fs cs=true→fs[i] (rows++cs[i]) b true=true
 |f::r,c::cs,0,_,_,h=>by
  simp only[kE,Bool.and_eq_true]at h;exact h.1
 |f::r,c::cs,i+1,h1,h2,h=>by
  simp only[kE,Bool.and_eq_true]at h;exact xZ (fs:=r) (cs:=cs) i (by simpa using h1) (by simpa using h2) h.2
end Rf
end
section
namespace Rf
open Pur (aC)
def nD (s:Sy) (rows:List Rw) (n:Nat) (x:aJ):Bool :=
 if x.kind=1 then decide (x.index<s.graphs.length∧(s.graphs.getD x.index.toNat zg).first≤x.cell∧x.cell<(s.graphs.getD x.index.toNat zg).first+(s.graphs.getD x.index.toNat zg).least.length)
 else decide (x.index<rows.length∧x.cell<n)&&(decide (0≤x.cell)||((rows.getD x.index.toNat zw).terms.isEmpty&&decide ((rows.getD x.index.toNat zw).bound<0)))
theorem x6 (s:Sy) (rows:List Rw) (b:List Rg) (x:aJ):(bR s rows b x).2.1=nD s rows b.length x:=by
 unfold bR nD;by_cases hk:x.kind=1
 ·simp only[if_pos hk];by_cases h1:x.index<s.graphs.length
  ·simp only[if_pos h1,h1,true_and];generalize s.graphs.getD x.index.toNat zg=g;by_cases h2:g.first≤x.cell∧x.cell<g.first+g.least.length
   ·simp[if_pos h2,h2]
   rw[if_neg h2,decide_eq_false h2];simp
  rw[if_neg h1,decide_eq_false (fun h=>h1 h.1)]
 rw[if_neg hk,if_neg hk];by_cases h1:x.index<rows.length∧x.cell<b.length
 ·rw[if_pos h1,decide_eq_true h1];generalize rows.getD x.index.toNat zw=r;dsimp only;by_cases h3:x.cell<0
  ·rw[if_pos h3,decide_eq_false (show ¬0≤x.cell by omega)];simp
  rw[if_neg h3,decide_eq_true (show 0≤x.cell by omega)];simp
 rw[if_neg h1,decide_eq_false h1];simp
def zM (s:Sy) (k:Int) (rows:List Rw) (i:Nat):List Rw:=if k=2 then rows++s.cases.getD i [] else rows
inductive lr (s:Sy) (n:Nat):Tree→List Rw→Prop
 |node {k:Int} {st:List aJ} {c a:Int} {l:List Tree} {rows:List Rw}:(∀x∈st,nD s rows n x=true)→(∀i (h:i<l.length),lr s n l[i] (zM s k rows i))→lr s n (.node k st c a l) rows
theorem qz:∀(l:List Tree) (m:Int) (i:Nat) (h:i<(cp l m).length) (h':i<l.length),∃m':Int,(cp l m)[i]=dG l[i] m'
 |t::r,m,0,_,_=>⟨m,rfl⟩
 |t::r,m,i+1,h,h'=>by
  obtain⟨m',e⟩:=qz r (m-aT t) i (by rw[cD];simpa using h') (by simpa using h');exact⟨m',by simpa [cj]using e⟩
theorem lr.cut {s:Sy} {n:Nat}:∀(t:Tree) (rows:List Rw) (m:Int),lr s n t rows→lr s n (dG t m) rows:=by
 refine Tree.ind fun k st c a l ih rows m h=>?_
 cases h with
 |node h1 h2 =>
  rw[dA];refine .node (fun x hx=>h1 x (s7 hx)) fun i hi=>?_
  have hi':i<l.length:=by rw[cD]at hi;exact hi
  obtain⟨m',e⟩:=qz l (m-st.length) i hi hi';rw[e];exact ih _ (List.getElem_mem hi') _ m' (h2 i hi')
theorem D7 {b:List Rg} {c:Nat} {x:Rg} (hc:c<b.length) (h:jD x (b.getD c zr)):fg (b.set c x) b:=by
 refine⟨by simp,fun k _=>?_⟩;rw[j9 hc];split
 ·rename_i e;subst e;exact h
 exact jD.refl _
theorem D8 {s:Sy} {rows:List Rw} {b:List Rg} (hok:bp b=true) (hrow:∀r∈rows,cN b.length r=true) (hgo:∀q∈s.graphs,bj b.length q=true) (x:aJ) (hx:0≤x.index) (hp:(bR s rows b x).2.1=true) :
  (bR s rows b x).2.2=true∨(fg (bR s rows b x).1 b∧bp (bR s rows b x).1=true):=by
 unfold bR at hp ⊢;by_cases hk:x.kind=1
 ·simp only[if_pos hk]at hp ⊢;by_cases h1:x.index<s.graphs.length
  ·simp only[if_pos h1]at hp ⊢;have hq:=hgo _ (Pur.aQ (d:=zg) (show x.index.toNat<s.graphs.length by omega));generalize s.graphs.getD x.index.toNat zg=g at *;by_cases h2:g.first≤x.cell∧x.cell<g.first+g.least.length
   ·simp only[if_pos h2];have hsub:=vR g b (x.cell-g.first).toNat;simp only[bj,aC,Bool.and_eq_true,decide_eq_true_eq]at hq;obtain⟨⟨⟨⟨⟨g1,g2⟩,g3⟩,g4⟩,g5⟩,g6⟩:=hq;have hc:x.cell.toNat<b.length:=by omega
    rw[show g.first.toNat+(x.cell-g.first).toNat=x.cell.toNat by omega]at hsub;by_cases he:(l5 g b (x.cell-g.first).toNat).hi<(l5 g b (x.cell-g.first).toNat).lo
    ·exact .inl (by simp[cA,he])
    exact .inr ⟨D7 hc hsub,jl hok (jE (cQ hok _) hsub he)⟩
   rw[if_neg h2]at hp;cases hp
  rw[if_neg h1]at hp;cases hp
 rw[if_neg hk]at hp ⊢;by_cases h1:x.index<rows.length∧x.cell<b.length
 ·rw[if_pos h1]at hp ⊢;have hro:=hrow _ (Pur.aQ (d:=zw) (show x.index.toNat<rows.length by omega));generalize rows.getD x.index.toNat zw=r at *;dsimp only at hp ⊢;by_cases h3:x.cell<0
  ·rw[if_pos h3]at hp ⊢;exact .inl hp
  rw[if_neg h3];have hc:x.cell.toNat<b.length:=by omega
  have t1:b9 r b x.cell=cB r b x.cell:=by
   unfold b9;rw[if_pos ⟨by simp[dN,hok,hro],by omega,by omega⟩]
  rw[t1];by_cases he:(cB r b x.cell).hi<(cB r b x.cell).lo
  ·exact .inl (by simp[cA,he])
  exact .inr ⟨D7 hc (nP x.cell he),jl hok (jE (cQ hok _) (nP x.cell he) he)⟩
 rw[if_neg h1]at hp;cases hp
theorem x7 (x:aJ) (l:List aJ):bD (x::l) 0=l:=rfl
theorem x8 (x:aJ) (l:List aJ) (m:Int) (h:0<m):bD (x::l) m=x::bD l (m-1):=by
 unfold bD;rw[if_pos (by omega),if_pos (by omega),show m.toNat=(m-1).toNat+1 by omega];rfl
theorem uJ {s:Sy} {rows:List Rw} {n:Nat} (hrow:∀r∈rows,cN n r=true) (hgo:∀q∈s.graphs,bj n q=true) :
  ∀(l:List aJ),(∀x∈l,0≤x.index)→(∀x∈l,nD s rows n x=true)→∀(m:Int) (b:List Rg),b.length=n→bp b=true →
   (bk s rows (bD l m) b= .error true→bk s rows l b= .error true)∧(∀c',bk s rows (bD l m) b= .ok c'→bk s rows l b= .error true∨∃c,bk s rows l b= .ok c∧fg c c'∧bp c=true∧bp c'=true)
 |[],_,_,m,b,hn,hok=>by
  have:bD [] m=[]:=by unfold bD;split<;>simp
  rw[this];exact⟨fun h=>h,fun c' h=>by injection h with h;subst h;exact .inr ⟨b,rfl,fg.refl b,hok,hok⟩⟩
 |x::l,hx,hp,m,b,hn,hok=>by
  have h1:=D8 hok (by rw[hn];exact hrow) (by rw[hn];exact hgo) x (hx x (by simp)) (by rw[x6,hn];exact hp x (by simp));have h0:=x6 s rows b x;rw[hn,hp x (by simp)]at h0;have hl:=lp s rows b x;by_cases hm:m<0
  ·rw[dH _ _ (.inl hm)];exact pz rfl (im.refl rows) hrow hrow hgo (x::l) hx b b (fg.refl b) hn hok hok
  by_cases hm0:m=0
  ·subst hm0;rw[x7,bk];generalize bR s rows b x=p at *;obtain⟨b1,pp,cc⟩:=p;simp only at h1 h0 hl;subst h0;cases cc with
   |true=>simp
   |false =>
    obtain⟨h2,h3⟩:=h1.resolve_left (by simp);simp only[Bool.false_eq_true,if_false,if_true];exact pz rfl (im.refl rows) hrow hrow hgo l (fun y hy=>hx y (by simp[hy])) b1 b h2 (hl.trans hn) h3 hok
  rw[x8 x l m (by omega),bk,bk];generalize bR s rows b x=p at *;obtain⟨b1,pp,cc⟩:=p;simp only at h1 h0 hl;subst h0;cases cc with
  |true=>simp
  |false =>
   obtain⟨h2,h3⟩:=h1.resolve_left (by simp);simp only[Bool.false_eq_true,if_false,if_true];exact uJ hrow hgo l (fun y hy=>hx y (by simp[hy])) (fun y hy=>hp y (by simp[hy])) (m-1) b1 (hl.trans hn) h3
theorem vT {rows:List Rw} {b:List Rg}:∀{fs:List Acc} {cs:List (List Rw)},(∀i (h1:i<fs.length) (h2:i<cs.length),fs[i] (rows++cs[i]) b true=true)→kE rows b fs cs=true
 |[],_,_=>by simp[kE]
 |f::r,[],_=>by simp[kE]
 |f::r,c::cs,h=>by
  simp only[kE,Bool.and_eq_true];exact⟨h 0 (by simp) (by simp),vT fun i h1 h2=>h (i+1) (by simpa using h1) (by simpa using h2)⟩
theorem zN {s:Sy} {n:Nat} (hm:mz s n):∀(t:Tree),eA t=true→∀(rows:List Rw),(∀r∈rows,cN n r=true)→lr s n t rows →
  ∀(m:Int) (b:List Rg) (ch:Bool),b.length=n→(bO b=true∨bp b=true)→bf s (dG t m) rows b ch=true→bf s t rows b ch=true:=by
 refine Tree.ind fun k st c a l ih hf rows hrow hp m b ch hn hok h=>?_
 rw[dA,fw]at h;rw[fw];by_cases he:bO b=true
 ·rw[if_pos he]
 rw[if_neg he]at h ⊢;have hok:=hok.resolve_left he;rw[cY]at hf;simp only[Bool.and_eq_true]at hf;obtain⟨⟨hf1,hf2⟩,hf3⟩:=hf;cases hp with
 |node hp1 hp2 =>
 obtain⟨s1,s2⟩:=uJ hrow hm.g st (fun x hx=>by
  have:=List.all_eq_true.mp hf1 x hx;simp only[bL,aC,Bool.and_eq_true,decide_eq_true_eq]at this;omega) hp1 m b hn hok
 cases hs:bk s rows (bD st m) b with
 |error r =>
  rw[hs]at h;simp only at h;subst h;rw[s1 hs]
 |ok c' =>
  rw[hs]at h;simp only at h;rcases s2 c' hs with h1|⟨b1,h1,hb1,o1,o1'⟩
  ·rw[h1]
  rw[h1];simp only;have hn1:b1.length=n:=(nr _ _ _ _ _ h1).trans hn;have hn2:c'.length=n:=hb1.len▸hn1;unfold nW at h ⊢;by_cases hk:k=1
  ·rw[if_pos hk]at h ⊢;by_cases hc:c<c'.length
   ·rw[if_pos hc]at h;rw[if_pos (by rw[hb1.len];exact hc)];subst hk;simp[gT,aC]at hf2;obtain⟨⟨t1,t2,t3⟩,t4,t5⟩:=hf2;match l,t1,h with
    |[k0,k1],_,h =>
     simp only[cj,Ch,List.map_cons,List.map_nil,Bool.and_eq_true]at h ⊢;have hc1:c.toNat<b1.length:=by rw[hb1.len];omega
     have hc2:c.toNat<c'.length:=by omega
     obtain⟨y1,y2⟩:=hb1.all c.toNat;have m1:jD ⟨(b1.getD c.toNat zr).lo,min (b1.getD c.toNat zr).hi a⟩ (b1.getD c.toNat zr):=⟨Int.le_refl _,by show min _ _≤_;omega⟩
     have m2:jD ⟨(c'.getD c.toNat zr).lo,min (c'.getD c.toNat zr).hi a⟩ (c'.getD c.toNat zr):=⟨Int.le_refl _,by show min _ _≤_;omega⟩
     have m3:jD ⟨max (b1.getD c.toNat zr).lo (a+1),(b1.getD c.toNat zr).hi⟩ (b1.getD c.toNat zr):=⟨by show _≤max _ _;omega,Int.le_refl _⟩
     have m4:jD ⟨max (c'.getD c.toNat zr).lo (a+1),(c'.getD c.toNat zr).hi⟩ (c'.getD c.toNat zr):=⟨by show _≤max _ _;omega,Int.le_refl _⟩
     simp only[List.all_cons,List.all_nil,Bool.and_true,Bool.and_eq_true]at hf3;have p0:lr s n k0 rows:=hp2 0 (by simp);have p1:lr s n k1 rows:=hp2 1 (by simp);have u0:=ih k0 (by simp) hf3.1 rows hrow p0 _ _ ch (by simpa using hn2) (fI hc2 o1' m2) h.1;have u1:=ih k1 (by simp) hf3.2 rows hrow p1 _ _ ch (by simpa using hn2) (fI hc2 o1' m4) h.2
     exact⟨nC rfl rfl hm k0 hf3.1 rows rows (im.refl _) hrow hrow _ _ ch (hb1.set hc1 (y:=⟨(c'.getD c.toNat zr).lo,min (c'.getD c.toNat zr).hi a⟩) ⟨y1,by show min _ _≤min _ _;omega⟩) (by simpa using hn1) (fI hc1 o1 m1) (fI hc2 o1' m2) u0,
      nC rfl rfl hm k1 hf3.2 rows rows (im.refl _) hrow hrow _ _ ch (hb1.set hc1 (y:=⟨max (c'.getD c.toNat zr).lo (a+1),(c'.getD c.toNat zr).hi⟩) ⟨by show max _ _≤max _ _;omega,y2⟩) (by simpa using hn1) (fI hc1 o1 m3) (fI hc2 o1' m4) u1⟩
   rw[if_neg hc]at h;cases h
  rw[if_neg hk]at h ⊢;by_cases hk2:k=2
  ·rw[if_pos hk2]at h ⊢;simp only[Bool.and_eq_true,List.length_map,cD]at h ⊢;refine⟨h.1,vT fun i h1 h2=>?_⟩;have hi:i<l.length:=by simpa using h1
   have hi':i<(cp l (m-st.length)).length:=by rw[cD];exact hi
   have hg:=xZ (fs:=(cp l (m-st.length)).map (bf s)) (cs:=s.cases) i (by simpa using hi') h2 h.2;obtain⟨m',e⟩:=qz l (m-st.length) i hi' hi;rw[List.getElem_map,e]at hg;rw[List.getElem_map];have hrr:∀r∈rows++s.cases[i],cN n r=true:=fun r hr=>by
    rcases List.mem_append.mp hr with q|q
    ·exact hrow r q
    exact hm.c _ (List.getElem_mem h2) r q
   have hpi:=hp2 i hi;rw[zM,if_pos hk2,List.getD,List.getElem?_eq_getElem h2]at hpi;have hfi:=List.all_eq_true.mp hf3 _ (List.getElem_mem hi);have u:=ih _ (List.getElem_mem hi) hfi _ hrr hpi m' c' true hn2 (.inr o1') hg;exact nC rfl rfl hm _ hfi _ _ (im.refl _) hrr hrr b1 c' true hb1 hn1 (.inr o1) (.inr o1') u
  rw[if_neg hk2]at h;cases h
theorem mz.sys {s:Sy} (h:fC s=true):mz s s.box.length∧bp s.box=true∧(∀r∈s.rows,cN s.box.length r=true):=by
 simp only[fC,dN,Bool.and_eq_true,decide_eq_true_eq]at h;obtain⟨⟨⟨⟨⟨⟨⟨h1,h1'⟩,h2⟩,h3⟩,h4⟩,h5⟩,h6⟩,h7⟩:=h;refine⟨⟨fun q hq=>List.all_eq_true.mp h6 q hq,fun l hl r hr=>?_⟩,h1,fun r hr=>List.all_eq_true.mp h1' r hr⟩;have:=List.all_eq_true.mp h7 l hl;simp only[fc,dN,Bool.and_eq_true]at this;exact List.all_eq_true.mp this.2.2 r hr
theorem Cj {s:Sy} {t:Tree} (hv:gC t=true) (hp:lr s s.box.length t s.rows) (m:Int) (h:iO s (dG t m)=true):iO s t=true:=by
 simp only[iO,Bool.and_eq_true]at h ⊢;obtain⟨⟨h1,h2⟩,h3⟩:=h;obtain⟨m1,m2,m3⟩:=mz.sys h1;refine⟨⟨h1,hv⟩,?_⟩;simp only[gC,Bool.and_eq_true]at hv;exact zN m1 t hv.2 s.rows m3 hp m s.box false rfl (.inr m2) h3
def AP (s:Sy) (i:Nat) (t:Tree):Prop:=∀j:Nat,i≤j→j<aT t→¬iO s (dG t j)=true
structure s9 (s:Sy) (t:Tree):Prop where
 v:gC t=true
 p:lr s s.box.length t s.rows
 c:iO s t=true
theorem nE {s:Sy}:∀(i:Nat) (t:Tree),s9 s t→AP s i t→s9 s (mA s i t)∧AP s 0 (mA s i t)∧aT (mA s i t)≤aT t∧wt (mA s i t)≤wt t
 |0,t,h,hg=>⟨h,hg,Nat.le_refl _,Nat.le_refl _⟩
 |i+1,t,h,hg=>by
  rw[mA];by_cases hc:iO s (dG t i)=true
  ·rw[if_pos hc];have hw:=rz t i;have hs:aT (dG t i)≤aT t:=by
    by_cases hi:i<aT t
    ·have:=me t i (by omega) (by omega);omega
    rw[j4 t i (by omega)];exact Nat.le_refl _
   obtain⟨a,b,c,d⟩:=nE i (dG t i) ⟨s8 t i h.v,lr.cut t _ i h.p,hc⟩ fun j hj hjl hcj=>by
    by_cases hi:i<aT t
    ·have:=me t i (by omega) (by omega);have e:=Ci t i j (by omega) (by omega);rw[e]at hcj;exact hg (j+1) (by omega) (by omega) (Cj (s8 t _ h.v) (lr.cut t _ _ h.p) _ hcj)
    rw[j4 t i (by omega)]at hjl;omega
   exact⟨a,b,by omega,by omega⟩
  rw[if_neg hc];exact nE i t h fun j hj hjl=>by
   by_cases hij:j=i
   ·subst hij;exact hc
   exact hg j (by omega) hjl
theorem x9 {s:Sy} {t:Tree} (h:s9 s t):s9 s (pA s t)∧AP s 0 (pA s t)∧aT (pA s t)≤aT t∧wt (pA s t)≤wt t :=
 nE _ t h fun j h1 h2=>by omega
theorem oI {s:Sy}:∀(i:Nat) (t:Tree),AP s 0 t→mA s i t=t
 |0,t,_=>rfl
 |i+1,t,h=>by
  rw[mA];by_cases hi:i<aT t
  ·rw[if_neg (h i (by omega) hi)];exact oI i t h
  rw[j4 t i (by omega),ite_self];exact oI i t h
end Rf
end
section
namespace Rf
open Pur (aC)
structure Bx where
 steps:List aJ
 box:List Rg
 opn:Bool
 fine:Bool
def ta (b:List Rg) (c:Int) (r:Rg):List Rg:=if 0≤c then b.set c.toNat r else b
def eM (x:Bx) (k i c:Int) (r:Rg) (bud:Int):Bx :=
 if bud≤x.steps.length then ⟨x.steps,x.box,false,false⟩
 else if c<0∨r.hi<r.lo then ⟨x.steps++[⟨k,i,c⟩],x.box,false,x.fine⟩
 else ⟨x.steps++[⟨k,i,c⟩],ta x.box c r,x.opn,x.fine⟩
def mf (i:Nat) (row:Rw) (bud:Int) (x:Bx):Bx:=if x.opn=true∧row.terms=[]∧row.bound<0 then eM x 0 i (-1) zr bud else x
def qP (i:Nat) (row:Rw) (bud:Int) (t:Tm) (x:Bx):Bx:=if x.opn=true∧b9 row x.box t.cell≠x.box.getD t.cell.toNat zr then eM x 0 i t.cell (b9 row x.box t.cell) bud else x
def gL (i:Nat) (row:Rw) (bud:Int) (x:Bx):Nat→Bx
 |0=>mf i row bud x
 |k+1=>qP i row bud (row.terms.getD k zm) (gL i row bud x k)
def jM (rows:List Rw) (bud:Int) (x:Bx):Nat→Bx
 |0=>x
 |k+1=>gL k (rows.getD k zw) bud (jM rows bud x k) (rows.getD k zw).terms.length
noncomputable def qQ (i:Nat) (g:Gr) (bud:Int) (k:Nat) (x:Bx):Bx:=if x.opn=true∧l5 g x.box k≠x.box.getD (g.first.toNat+k) zr then eM x 1 i (g.first+k) (l5 g x.box k) bud else x
noncomputable def gM (i:Nat) (g:Gr) (bud:Int) (x:Bx):Nat→Bx
 |0=>x
 |k+1=>qQ i g bud k (gM i g bud x k)
noncomputable def fD (gs:List Gr) (bud:Int) (x:Bx):Nat→Bx
 |0=>x
 |k+1=>gM k (gs.getD k zg) bud (fD gs bud x k) (gs.getD k zg).least.length
noncomputable def hU (rows:List Rw) (gs:List Gr) (bud:Int) (x:Bx):Bx:=fD gs bud (jM rows bud x rows.length) gs.length
noncomputable def runN (rows:List Rw) (gs:List Gr) (bud:Int):Nat→Bx→Bx
 |0,x=>x
 |f+1,x=>if (hU rows gs bud x).opn=false∨(hU rows gs bud x).steps.length=x.steps.length then hU rows gs bud x else runN rows gs bud f (hU rows gs bud x)
noncomputable def oJ (b:List Rg):Bx:=⟨[],b,true,true⟩
noncomputable def mg (rows:List Rw) (gs:List Gr) (bud:Int) (b:List Rg):Bx:=runN rows gs bud (bud.toNat+1) (oJ b)
structure ky (s:Sy) (rows:List Rw) (n:Nat) (bud:Int) (b0:List Rg) (x:Bx):Prop where
 len:x.box.length=n
 ok:bp x.box=true
 ne:bO x.box=false
 le:(x.steps.length:Int)≤max bud 0
 fm:∀y∈x.steps,bL y=true∧nD s rows n y=true
 op:x.opn=true→x.fine=true∧bk s rows x.steps b0= .ok x.box
 cl:x.opn=false→x.fine=true→bk s rows x.steps b0= .error true
structure fx (s:Sy) (rows:List Rw) (n:Nat):Prop where
 row:∀r∈rows,cN n r=true
 len:rows.length≤2049
 g:∀q∈s.graphs,bj n q=true
 gl:s.graphs.length≤64
 n1:n≤128
theorem tb {b:List Rg} {c:Nat} {r:Rg} (hc:c<b.length) (h:bO b=false) (hr:¬r.hi<r.lo):bO (b.set c r)=false:=by
 rw[Bool.eq_false_iff]at h ⊢;rw[ne_eq,oH]at h ⊢;rintro⟨k,hk,e⟩;rw[j9 hc]at e;split at e
 ·exact hr e
 exact h ⟨k,by simpa using hk,e⟩
theorem vU {s:Sy} {rows:List Rw} {n:Nat} {bud:Int} {b0:List Rg} {x:Bx} (h:ky s rows n bud b0 x) (ho:x.opn=true) (k i c:Int) (r:Rg) (hs:bL ⟨k,i,c⟩=true) (hp:nD s rows n ⟨k,i,c⟩=true)
  (hneg:c<0→(bR s rows x.box ⟨k,i,c⟩).2.2=true) (hst:¬c<0→bR s rows x.box ⟨k,i,c⟩=(x.box.set c.toNat r,true,cA r)) (hc:c<n) (hok:¬c<0→¬r.hi<r.lo→kW r=true):ky s rows n bud b0 (eM x k i c r bud):=by
 obtain⟨o1,o2⟩:=h.op ho;unfold eM;by_cases h1:bud≤x.steps.length
 ·rw[if_pos h1];exact⟨h.len,h.ok,h.ne,h.le,h.fm,fun q=>(by cases q),fun _ q=>(by cases q)⟩
 rw[if_neg h1];have hle:=h.le;have happ:=nq s rows x.steps [⟨k,i,c⟩] b0;rw[o2]at happ;simp only[bk]at happ;have hfm:∀y∈x.steps++[(⟨k,i,c⟩:aJ)],bL y=true∧nD s rows n y=true:=fun y hy=>by
  rcases List.mem_append.mp hy with q|q
  ·exact h.fm y q
  simp at q;subst q;exact⟨hs,hp⟩
 by_cases h2:c<0∨r.hi<r.lo
 ·rw[if_pos h2];refine⟨h.len,h.ok,h.ne,by simp;omega,hfm,fun q=>(by cases q),fun _ _=>?_⟩;show bk s rows (x.steps++[⟨k,i,c⟩]) b0=_;rw[happ];have hcc:(bR s rows x.box ⟨k,i,c⟩).2.2=true:=by
   by_cases hcn:c<0
   ·exact hneg hcn
   rw[hst hcn];simp[cA,h2.resolve_left hcn]
  generalize bR s rows x.box ⟨k,i,c⟩=q at *;obtain⟨q1,q2,q3⟩:=q;simp only at hcc;subst hcc;rfl
 rw[if_neg h2];have hcn:¬c<0:=fun q=>h2 (.inl q)
 have hrn:¬r.hi<r.lo:=fun q=>h2 (.inr q)
 have hct:c.toNat<x.box.length:=by rw[h.len];omega
 have hsb:ta x.box c r=x.box.set c.toNat r:=by rw[ta,if_pos (by omega)]
 rw[hsb];refine⟨by simp[h.len],jl h.ok (hok hcn hrn),tb hct h.ne hrn,by simp;omega,hfm,fun q=>⟨o1,?_⟩,fun q=>by rw[ho]at q;cases q⟩;show bk s rows (x.steps++[⟨k,i,c⟩]) b0=_;rw[happ,hst hcn,show cA r=false by simp[cA,hrn]];rfl
theorem gE (x:Bx) (k i c:Int) (r:Rg) (bud:Int):x.steps.length≤(eM x k i c r bud).steps.length∧((eM x k i c r bud).opn=true→x.steps.length<(eM x k i c r bud).steps.length):=by
 unfold eM;split
 ·exact⟨Nat.le_refl _,fun h=>by cases h⟩
 split<;>simp
theorem D9 {s:Sy} {rows:List Rw} {n:Nat} (hr:fx s rows n) {b:List Rg} (hb:bp b=true) (hl:b.length=n) {i:Nat} (hi:i<rows.length) (c:Int) (h0:0≤c) (h1:c<n):b9 (rows.getD i zw) b c=cB (rows.getD i zw) b c:=by
 have:=hr.row _ (Pur.aQ (d:=zw) hi);unfold b9;rw[if_pos ⟨by simp only[dN,hb,Bool.true_and,List.all_cons,List.all_nil,Bool.and_true,hl];exact this,h0,by omega⟩]
theorem Ck {s:Sy} {rows:List Rw} {n:Nat} {bud:Int} {b0:List Rg} {x:Bx} (hr:fx s rows n) (h:ky s rows n bud b0 x) {i:Nat} (hi:i<rows.length):ky s rows n bud b0 (mf i (rows.getD i zw) bud x):=by
 unfold mf;have hlen:=hr.len;split
 ·rename_i q;obtain⟨q1,q2,q3⟩:=q;refine vU h q1 0 i (-1) zr ?_ ?_ (fun _=>?_) (fun q=>absurd (by decide) q) (by omega) (fun q=>absurd (by decide) q)
  ·simp[bL,aC];omega
  ·unfold nD;rw[if_neg (show ¬(0:Int)=1 by decide)];dsimp only;rw[Int.toNat_natCast,q2,decide_eq_true q3,decide_eq_true (show(i:Int)<rows.length∧(-1:Int)<n from ⟨by omega,by omega⟩)];simp
  have hl:=h.len;unfold bR;rw[if_neg (show ¬(0:Int)=1 by decide),if_pos (show(i:Int)<rows.length∧(-1:Int)<x.box.length from ⟨by omega,by omega⟩)];dsimp only;rw[if_pos (show(-1:Int)<0 by decide),Int.toNat_natCast,q2,decide_eq_true q3];rfl
 exact h
theorem Ea {s:Sy} {rows:List Rw} {n:Nat} {bud:Int} {b0:List Rg} {x:Bx} (hr:fx s rows n) (h:ky s rows n bud b0 x) {i:Nat} (hi:i<rows.length) (t:Tm) (h0:0≤t.cell) (h1:t.cell<n):ky s rows n bud b0 (qP i (rows.getD i zw) bud t x):=by
 unfold qP;have hlen:=hr.len;have hn:=hr.n1;have hl:=h.len;have ht:=D9 hr h.ok h.len hi t.cell h0 h1;have hsub:=fun q=>nP (b:=x.box) (r:=rows.getD i zw) t.cell q
 split
 ·rename_i q;refine vU h q.1 0 i t.cell _ ?_ ?_ (fun q=>by omega) (fun _=>?_) h1 (fun _ q=>?_)
  ·simp[bL,aC];omega
  ·simp[nD,hi,h0,h1]
  ·have hc:¬t.cell<0:=by omega
   have hi':(i:Int)<rows.length:=by omega
   have hc':t.cell<x.box.length:=by omega
   simp[bR,hi',hc,hc']
  rw[ht]at q ⊢;exact jE (cQ h.ok _) (hsub q) q
 exact h
theorem qA {s:Sy} {rows:List Rw} {n:Nat} {bud:Int} {b0:List Rg} {x:Bx} (hr:fx s rows n) (h:ky s rows n bud b0 x) {i:Nat} (hi:i<rows.length):∀k,k≤(rows.getD i zw).terms.length→ky s rows n bud b0 (gL i (rows.getD i zw) bud x k)
 |0,_=>Ck hr h hi
 |k+1,hk=>by
  have hro:=hr.row _ (Pur.aQ (d:=zw) hi);simp only[cN,Bool.and_eq_true]at hro;have hm:=(gD n _ (-1) (by omega) hro.1).2 _ (Pur.aQ (d:=zm) (show k<(rows.getD i zw).terms.length by omega));exact Ea hr (qA hr h hi k (by omega)) hi _ hm.1 hm.2.2.1
theorem td {s:Sy} {rows:List Rw} {n:Nat} {bud:Int} {b0:List Rg} {x:Bx} (hr:fx s rows n) (h:ky s rows n bud b0 x):∀k,k≤rows.length→ky s rows n bud b0 (jM rows bud x k)
 |0,_=>h
 |k+1,hk=>qA hr (td hr h k (by omega)) (by omega) _ (Nat.le_refl _)
theorem Eb {s:Sy} {rows:List Rw} {n:Nat} {bud:Int} {b0:List Rg} {x:Bx} (hr:fx s rows n) (h:ky s rows n bud b0 x) {i:Nat} (hi:i<s.graphs.length) {k:Nat} (hk:k<(s.graphs.getD i zg).least.length):ky s rows n bud b0 (qQ i (s.graphs.getD i zg) bud k x):=by
 unfold qQ;have hgl:=hr.gl;have hn:=hr.n1;have hl:=h.len;have hgo:=hr.g _ (Pur.aQ (d:=zg) hi);generalize hgg:s.graphs.getD i zg=g at *;simp only[bj,aC,Bool.and_eq_true,decide_eq_true_eq]at hgo;obtain⟨⟨⟨⟨⟨g1,g2⟩,g3⟩,g4⟩,g5⟩,g6⟩:=hgo;have hsub:=vR g x.box k;split
 ·rename_i q;refine vU h q.1 1 i (g.first+k) _ ?_ ?_ (fun q=>by omega) (fun _=>?_) (by omega) (fun _ q=>?_)
  ·simp[bL,aC];omega
  ·unfold nD;rw[if_pos rfl];dsimp only;rw[Int.toNat_natCast,hgg];exact decide_eq_true ⟨by omega,by omega,by omega⟩
  ·have h1:(i:Int)<s.graphs.length:=by omega
   have h2:g.first≤g.first+k∧g.first+k<g.first+g.least.length:=by omega
   have h3:g.first+k-g.first=(k:Int):=by omega
   simp only[bR,if_true,if_pos h1,Int.toNat_natCast,hgg,if_pos h2,h3]
  exact jE (cQ h.ok _) hsub q
 exact h
theorem qB {s:Sy} {rows:List Rw} {n:Nat} {bud:Int} {b0:List Rg} {x:Bx} (hr:fx s rows n) (h:ky s rows n bud b0 x) {i:Nat} (hi:i<s.graphs.length):∀k,k≤(s.graphs.getD i zg).least.length→ky s rows n bud b0 (gM i (s.graphs.getD i zg) bud x k)
 |0,_=>h
 |k+1,hk=>Eb hr (qB hr h hi k (by omega)) hi (by omega)
theorem oK {s:Sy} {rows:List Rw} {n:Nat} {bud:Int} {b0:List Rg} {x:Bx} (hr:fx s rows n) (h:ky s rows n bud b0 x):∀k,k≤s.graphs.length→ky s rows n bud b0 (fD s.graphs bud x k)
 |0,_=>h
 |k+1,hk=>qB hr (oK hr h k (by omega)) (by omega) _ (Nat.le_refl _)
theorem te {s:Sy} {rows:List Rw} {n:Nat} {bud:Int} {b0:List Rg} {x:Bx} (hr:fx s rows n) (h:ky s rows n bud b0 x):ky s rows n bud b0 (hU rows s.graphs bud x) :=
 oK hr (td hr h _ (Nat.le_refl _)) _ (Nat.le_refl _)
theorem AQ {s:Sy} {rows:List Rw} {n:Nat} {bud:Int} {b0:List Rg} (hr:fx s rows n):∀(f:Nat) (x:Bx),ky s rows n bud b0 x→ky s rows n bud b0 (runN rows s.graphs bud f x)
 |0,x,h=>h
 |f+1,x,h=>by
  rw[runN];split
  ·exact te hr h
  exact AQ hr f _ (te hr h)
theorem vV {s:Sy} {rows:List Rw} {n:Nat} {bud:Int} {b:List Rg} (hr:fx s rows n) (hl:b.length=n) (hb:bp b=true) (he:bO b=false):ky s rows n bud b (mg rows s.graphs bud b) :=
 AQ hr _ _ ⟨hl,hb,he,by simp[oJ];omega,by simp[oJ],fun _=>⟨rfl,rfl⟩,fun q=>by cases q⟩
theorem vW (i:Nat) (row:Rw) (bud:Int) (x:Bx):x.steps.length≤(mf i row bud x).steps.length:=by
 unfold mf;split
 ·exact(gE _ _ _ _ _ _).1
 exact Nat.le_refl _
theorem kX (i:Nat) (row:Rw) (bud:Int) (x:Bx):∀k,x.steps.length≤(gL i row bud x k).steps.length
 |0=>vW i row bud x
 |k+1=>by
  refine Nat.le_trans (kX i row bud x k) ?_;rw[gL,qP];split
  ·exact(gE _ _ _ _ _ _).1
  exact Nat.le_refl _
theorem mh (rows:List Rw) (bud:Int) (x:Bx):∀k,x.steps.length≤(jM rows bud x k).steps.length
 |0=>Nat.le_refl _
 |k+1=>Nat.le_trans (mh rows bud x k) (kX _ _ _ _ _)
theorem kY (i:Nat) (g:Gr) (bud:Int) (x:Bx):∀k,x.steps.length≤(gM i g bud x k).steps.length
 |0=>Nat.le_refl _
 |k+1=>by
  refine Nat.le_trans (kY i g bud x k) ?_;rw[gM,qQ];split
  ·exact(gE _ _ _ _ _ _).1
  exact Nat.le_refl _
theorem kz (gs:List Gr) (bud:Int) (x:Bx):∀k,x.steps.length≤(fD gs bud x k).steps.length
 |0=>Nat.le_refl _
 |k+1=>Nat.le_trans (kz gs bud x k) (kY _ _ _ _ _)
theorem nF (rows:List Rw) (gs:List Gr) (bud:Int) (x:Bx):x.steps.length≤(hU rows gs bud x).steps.length :=
 Nat.le_trans (mh rows bud x _) (kz gs bud _ _)
end Rf
end
section
namespace Rf
open Pur (aC)
structure oN where
 kind:Int
 case:Int
 vals:List Int
 tree:Tree
 steps:Int
def Cl:oN:=⟨2,0,[],zt,0⟩
def cE (b:List Rg):Nat→Int
 |0=> -1
 |j+1=>if (b.getD (b.length-1-j) zr).lo<(b.getD (b.length-1-j) zr).hi then ((b.length-1-j:Nat):Int) else cE b j
theorem nQ (b:List Rg):∀j,j≤b.length→0≤cE b j→cE b j<b.length∧(b.getD (cE b j).toNat zr).lo<(b.getD (cE b j).toNat zr).hi
 |0,_,h=>by simp[cE]at h
 |j+1,hj,h=>by
  rw[cE]at h ⊢;split
  ·rename_i q;rw[Int.toNat_natCast];exact⟨by omega,q⟩
  rename_i q;rw[if_neg q]at h;exact nQ b j (by omega) h
theorem uK (b:List Rg):∀j,-1≤cE b j
 |0=>by simp[cE]
 |j+1=>by
  rw[cE];split
  ·omega
  exact uK b j
def fF (cs:Bool) (mk:List Tree→Tree) (bud:Int):List (Int→oN)→Nat→Int→List Tree→oN
 |[],_,st,ks=>⟨1,0,[],mk ks,st⟩
 |f::r,i,st,ks =>
  if (f (bud-st)).kind=2 then f (bud-st)
  else if (f (bud-st)).kind=0 then ⟨0,if cs=true then (i:Int) else 0,(f (bud-st)).vals,zt,st+(f (bud-st)).steps⟩
  else fF cs mk bud r (i+1) (st+(f (bud-st)).steps) (ks++[(f (bud-st)).tree])
def pC (x:Rg):Int:=(x.lo+x.hi) / 2
noncomputable def bW (s:Sy):Nat→List Rw→List Rg→Bool→Int→oN
 |0,_,_,_,_=>Cl
 |f+1,rows,b,root,bud =>
  if bud<1 then Cl
  else if (mg rows s.graphs (bud-1) b).fine=false then Cl
  else if (mg rows s.graphs (bud-1) b).opn=false then ⟨1,0,[],.node 0 (mg rows s.graphs (bud-1) b).steps 0 0 [],1+(mg rows s.graphs (bud-1) b).steps.length⟩
  else if root=true∧0<s.cases.length then
   fF true (.node 2 (mg rows s.graphs (bud-1) b).steps 0 0) bud (s.cases.map fun c bu=>bW s f (rows++c) (mg rows s.graphs (bud-1) b).box false bu) 0 (1+(mg rows s.graphs (bud-1) b).steps.length) []
  else if cE (mg rows s.graphs (bud-1) b).box (mg rows s.graphs (bud-1) b).box.length<0 then ⟨0,0,(mg rows s.graphs (bud-1) b).box.map Rg.lo,zt,1+(mg rows s.graphs (bud-1) b).steps.length⟩
  else
   let x:=mg rows s.graphs (bud-1) b
   let c:=cE x.box x.box.length
   let r:=x.box.getD c.toNat zr
   fF false (.node 1 x.steps c (pC r)) bud [fun bu=>bW s f rows (x.box.set c.toNat ⟨r.lo,pC r⟩) false bu,fun bu=>bW s f rows (x.box.set c.toNat ⟨pC r+1,r.hi⟩) false bu] 0 (1+x.steps.length) []
def oN.K (y:oN):Prop:=y.kind=0∨y.kind=1∨y.kind=2
theorem qC (cs:Bool) (mk:List Tree→Tree) (bud:Int):∀(fs:List (Int→oN)) (i:Nat) (st:Int) (ks:List Tree),(∀f∈fs,∀bu,(f bu).K)→(fF cs mk bud fs i st ks).kind=1 →
  ∃ts:List Tree,(fF cs mk bud fs i st ks).tree=mk (ks++ts)∧ts.length=fs.length∧∀(j:Nat) (h:j<fs.length) (h':j<ts.length),∃bu,(fs[j] bu).kind=1∧ts[j]=(fs[j] bu).tree
 |[],i,st,ks,_,_=>⟨[],by simp[fF],rfl,fun j h=>by simp at h⟩
 |f::r,i,st,ks,hk,h=>by
  rw[fF]at h ⊢;by_cases h1:(f (bud-st)).kind=2
  ·rw[if_pos h1]at h;omega
  rw[if_neg h1]at h ⊢;by_cases h2:(f (bud-st)).kind=0
  ·rw[if_pos h2]at h;cases h
  rw[if_neg h2]at h ⊢;obtain⟨ts,e1,e2,e3⟩:=qC cs mk bud r _ _ _ (fun f hf=>hk f (by simp[hf])) h;have h3:(f (bud-st)).kind=1:=by
   have:=hk f (by simp) (bud-st);unfold oN.K at this;omega
  refine⟨(f (bud-st)).tree::ts,by rw[e1,List.append_assoc];rfl,by simp[e2],fun j hj hj'=>?_⟩;cases j with
  |zero=>exact⟨bud-st,h3,rfl⟩
  |succ j=>exact e3 j (by simpa using hj) (by simpa using hj')
theorem vX (cs:Bool) (mk:List Tree→Tree) (bud:Int):∀(fs:List (Int→oN)) (i:Nat) (st:Int) (ks:List Tree),(∀f∈fs,∀bu,(f bu).K)→(fF cs mk bud fs i st ks).K
 |[],i,st,ks,_=>.inr (.inl rfl)
 |f::r,i,st,ks,hk=>by
  rw[fF];split
  ·exact hk f (by simp) _
  split
  ·exact .inl rfl
  exact vX cs mk bud r _ _ _ fun f hf=>hk f (by simp[hf])
def oN.C (y:oN) (bud:Int):Prop:=y.kind≠2→1≤y.steps∧y.steps≤bud
theorem vY (cs:Bool) (mk:List Tree→Tree) (bud:Int):∀(fs:List (Int→oN)) (i:Nat) (st:Int) (ks:List Tree),(∀f∈fs,∀bu,(f bu).C bu)→1≤st→st≤bud→(fF cs mk bud fs i st ks).C bud
 |[],i,st,ks,_,h1,h2=>fun _=>⟨h1,h2⟩
 |f::r,i,st,ks,hk,h1,h2=>by
  have h0:=hk f (by simp) (bud-st);rw[fF];split
  ·rename_i q;exact fun q2=>absurd q q2
  rename_i q;have h0:=h0 q;split
  ·exact fun _=>⟨by show 1≤st+_;omega,by show st+_≤bud;omega⟩
  exact vY cs mk bud r _ _ _ (fun f hf=>hk f (by simp[hf])) (by omega) (by omega)
theorem mi (s:Sy):∀(f:Nat) (rows:List Rw) (b:List Rg) (root:Bool) (bud:Int),(bW s f rows b root bud).K
 |0,_,_,_,_=>.inr (.inr rfl)
 |f+1,rows,b,root,bud=>by
  rw[bW];split
  ·exact .inr (.inr rfl)
  split
  ·exact .inr (.inr rfl)
  split
  ·exact .inr (.inl rfl)
  split
  ·refine vX _ _ _ _ _ _ _ fun g hg bu=>?_
   obtain⟨c,-,rfl⟩:=List.mem_map.mp hg;exact mi s f _ _ _ _
  split
  ·exact .inl rfl
  refine vX _ _ _ _ _ _ _ fun g hg bu=>?_
  simp only[List.mem_cons,List.not_mem_nil,or_false]at hg;rcases hg with rfl|rfl<;>exact mi s f _ _ _ _
structure kZ (s:Sy) (n:Nat) (rows:List Rw) (b:List Rg):Prop where
 r:fx s rows n
 l:b.length=n
 o:bp b=true
 e:bO b=false
theorem ka {b:List Rg} {c:Nat} {x:Rg} (hc:c<b.length) (hb:bp b=true) (he:bO b=false) (hx:jD x (b.getD c zr)) (hn:¬x.hi<x.lo):bp (b.set c x)=true∧bO (b.set c x)=false :=
 ⟨jl hb (jE (cQ hb c) hx hn),tb hc he hn⟩
theorem zO {x:Rg} (h:x.lo<x.hi):x.lo≤pC x∧pC x<x.hi:=by
 unfold pC;omega
theorem fx.app {s:Sy} {n:Nat} {rows:List Rw} (h:fx s rows n) (hm:mz s n) {c:List Rw} (hc:c∈s.cases) (hl:rows.length≤1024) (hcl:c.length≤64):fx s (rows++c) n:=by
 refine⟨fun r hr=>?_,by rw[List.length_append];omega,h.g,h.gl,h.n1⟩;rcases List.mem_append.mp hr with q|q
 ·exact h.row r q
 exact hm.c c hc r q
structure AR (s:Sy) (n:Nat) (rows:List Rw) (b:List Rg) (ch:Bool) (t:Tree):Prop where
 f:eA t=true
 p:lr s n t rows
 a:bf s t rows b ch=true
theorem pD {s:Sy} {n:Nat} (hm:mz s n) (hcc:s.cases.length≤1024) (hcl:∀c∈s.cases,c.length≤64):∀(f:Nat) (rows:List Rw) (b:List Rg) (root:Bool) (bud:Int),kZ s n rows b→(root=true→rows.length≤1024)→∀ch:Bool,(root=true→ch=false)→(bW s f rows b root bud).kind=1→AR s n rows b ch (bW s f rows b root bud).tree
 |0,_,_,_,_,_,_,_,_,h=>by cases h
 |f+1,rows,b,root,bud,ho,hrl,ch,hch,h=>by
  have hx:=vV (bud:=bud-1) ho.r ho.l ho.o ho.e;have hK:=fun r b bu=>mi s f r b false bu
  have hn1:=ho.r.n1;rw[bW]at h ⊢;generalize hrb:mg rows s.graphs (bud-1) b=x at *;by_cases h1:bud<1
  ·rw[if_pos h1]at h;cases h
  rw[if_neg h1]at h ⊢;by_cases h2:x.fine=false
  ·rw[if_pos h2]at h;cases h
  rw[if_neg h2]at h ⊢;have hst:∀y∈x.steps,bL y=true:=fun y hy=>(hx.fm y hy).1
  have hps:∀y∈x.steps,nD s rows n y=true:=fun y hy=>(hx.fm y hy).2
  by_cases h3:x.opn=false
  ·rw[if_pos h3];refine⟨?_,.node hps fun i hi=>by simp at hi,?_⟩
   ·rw[cY];simp only[Bool.and_eq_true];exact⟨⟨List.all_eq_true.mpr hst,rfl⟩,rfl⟩
   rw[fw,if_neg (by rw[ho.e];decide),hx.cl h3 (by simpa using h2)]
  rw[if_neg h3]at h ⊢;obtain⟨o1,o2⟩:=hx.op (by simpa using h3);by_cases h4:root=true∧0<s.cases.length
  ·rw[if_pos h4]at h ⊢;obtain⟨ts,e1,e2,e3⟩:=qC _ _ _ _ _ _ _ (fun g hg bu=>by
    obtain⟨c,-,rfl⟩:=List.mem_map.mp hg;exact hK _ _ _) h
   rw[List.length_map]at e2;have hkid:∀(j:Nat) (hj:j<ts.length) (hj':j<s.cases.length),AR s n (rows++s.cases[j]) x.box true ts[j]:=fun j hj hj'=>by
    obtain⟨bu,q1,q2⟩:=e3 j (by simpa using hj') hj;rw[List.getElem_map]at q1 q2;rw[q2];exact pD hm hcc hcl f _ _ _ _ ⟨ho.r.app hm (List.getElem_mem hj') (hrl h4.1) (hcl _ (List.getElem_mem hj')),hx.len,hx.ok,hx.ne⟩ (fun q=>by cases q) true (fun q=>by cases q) q1
   refine⟨?_,?_,?_⟩
   ·rw[e1,List.nil_append,cY];simp only[Bool.and_eq_true];refine⟨⟨List.all_eq_true.mpr hst,?_⟩,List.all_eq_true.mpr fun t ht=>?_⟩
    ·simp[gT];omega
    obtain⟨j,hj,rfl⟩:=List.mem_iff_getElem.mp ht;exact(hkid j hj (by omega)).f
   ·rw[e1,List.nil_append];refine .node hps fun i hi=>?_
    have q2:=hkid i hi (by omega);rw[zM,if_pos rfl,List.getD,List.getElem?_eq_getElem (show i<s.cases.length by omega)];exact q2.p
   rw[e1,List.nil_append,fw,if_neg (by rw[ho.e];decide),o2];show nW s 2 0 0 (ts.map (bf s)) rows x.box ch=true;rw[nW,if_neg (by decide),if_pos rfl,hch h4.1];simp only[Bool.not_false,Bool.true_and,Bool.and_eq_true,List.length_map,decide_eq_true_eq];refine⟨e2,vT fun i i1 i2=>?_⟩;have q2:=hkid i (by simpa using i1) i2;rw[List.getElem_map];exact q2.a
  rw[if_neg h4]at h ⊢;dsimp only at h ⊢;have hsp:=nQ x.box x.box.length (Nat.le_refl _);generalize cE x.box x.box.length=c at *;by_cases h5:c<0
  ·rw[if_pos h5]at h;cases h
  rw[if_neg h5]at h ⊢;obtain⟨c1,c2⟩:=hsp (by omega);have hct:c.toNat<x.box.length:=by omega
  have hrg:=iQ (cQ hx.ok c.toNat);generalize hr:x.box.getD c.toNat zr=r at *;obtain⟨m1,m2⟩:=zO c2;generalize hmid:pC r=m at *;obtain⟨ts,e1,e2,e3⟩:=qC _ _ _ _ _ _ _ (fun g hg bu=>by
   simp only[List.mem_cons,List.not_mem_nil,or_false]at hg;rcases hg with rfl|rfl<;>exact hK _ _ _) h
  match ts,e2 with
  |[t0,t1],_ =>
   obtain⟨bu0,q0,r0⟩:=e3 0 (by simp) (by simp);obtain⟨bu1,q1,r1⟩:=e3 1 (by simp) (by simp);simp only[List.getElem_cons_zero,List.getElem_cons_succ]at q0 r0 q1 r1;have b0:=ka (x:=⟨r.lo,m⟩) hct hx.ok hx.ne (by rw[hr];exact⟨Int.le_refl _,by show m≤r.hi;omega⟩) (by show ¬m<r.lo;omega);have b1:=ka (x:=⟨m+1,r.hi⟩) hct hx.ok hx.ne (by rw[hr];exact⟨by show r.lo≤m+1;omega,Int.le_refl _⟩) (by show ¬r.hi<m+1;omega);have n0:=pD hm hcc hcl f rows _ false bu0 ⟨ho.r,by simp[hx.len],b0.1,b0.2⟩ (fun q=>by cases q) ch (fun q=>by cases q) q0
   have n1:=pD hm hcc hcl f rows _ false bu1 ⟨ho.r,by simp[hx.len],b1.1,b1.2⟩ (fun q=>by cases q) ch (fun q=>by cases q) q1;rw[←r0]at n0;rw[←r1]at n1;have hlen:=hx.len;refine⟨?_,?_,?_⟩
   ·rw[e1,List.nil_append,cY];simp only[Bool.and_eq_true];refine⟨⟨List.all_eq_true.mpr hst,?_⟩,?_⟩
    ·simp[gT,aC];omega
    simp[n0.f,n1.f]
   ·rw[e1,List.nil_append];refine .node hps fun i hi=>?_
    have hi2:i=0∨i=1:=by simp at hi;omega
    rcases hi2 with rfl|rfl
    ·exact n0.p
    exact n1.p
   rw[e1,List.nil_append,fw,if_neg (by rw[ho.e];decide),o2];show nW s 1 c m [bf s t0,bf s t1] rows x.box ch=true;rw[nW,if_pos rfl,if_pos c1];dsimp only;rw[hr,show min r.hi m=m by omega,show max r.lo (m+1)=m+1 by omega,n0.a,n1.a];rfl
noncomputable def n8 (s:Sy) (bud:Int):oN:=if (bW s bud.toNat s.rows s.box true bud).kind=2 then ⟨2,0,[],zt,bud⟩ else bW s bud.toNat s.rows s.box true bud
theorem Cm {s:Sy} (hs:fC s=true) (bud:Int) (h:(n8 s bud).kind=1) (hw:wt (n8 s bud).tree≤60):s9 s (n8 s bud).tree:=by
 unfold n8 at h hw ⊢;by_cases hk:(bW s bud.toNat s.rows s.box true bud).kind=2
 ·rw[if_pos hk]at h;cases h
 rw[if_neg hk]at h hw ⊢;obtain⟨m1,m2,m3⟩:=mz.sys hs;have hs':=hs;simp only[fC,dN,Bool.and_eq_true,decide_eq_true_eq,Bool.not_eq_true']at hs';obtain⟨⟨⟨⟨⟨⟨⟨h1,h1'⟩,h2⟩,h3⟩,h4⟩,h5⟩,h6⟩,h7⟩:=hs';have hb:s.box.length≤128:=by
  simp only[bp,Bool.and_eq_true,decide_eq_true_eq]at h1;exact h1.2
 have hr:=pD m1 h5 (fun c hc=>by
  have:=List.all_eq_true.mp h7 c hc;simp only[fc,Bool.and_eq_true,decide_eq_true_eq]at this;exact this.1) bud.toNat s.rows s.box true bud ⟨⟨m3,by omega,m1.g,h4,hb⟩,rfl,h1,h2⟩ (fun _=>h3) false (fun _=>rfl) h
 have hv:gC (bW s bud.toNat s.rows s.box true bud).tree=true:=by
  have:=BG (bW s bud.toNat s.rows s.box true bud).tree;simp only[gC,Bool.and_eq_true,decide_eq_true_eq];exact⟨⟨by omega,by omega⟩,hr.f⟩
 refine⟨hv,hr.p,?_⟩;simp only[iO,Bool.and_eq_true];exact⟨⟨hs,hv⟩,hr.a⟩
end Rf
end
section
open Go.Shelf
def AS:Go.Shelf.Ren:=⟨fun|4=>108|n=>n,fun|0=>0|3=>3|4=>4|9=>9|20=>20|22=>32|25=>62|n=>n,fun|n=>n⟩
theorem yd:Go.Proofs.Lays8.n4 Tryz.prog AS:={
 mixed:=by kernel_rfl
 f4 := ⟨"slices.Grow[[]confluent/api.Row,confluent/api.Row]", by rfl, Tryz.func108.trans (congrArg some (by kernel_rfl))⟩
 t0:=Tryz.underlying0
 a0:=Tryz.isAgg0
 z0:=Tryz.sizeOf0
 v0:=Tryz.zeroValue0
 t3:=Tryz.underlying3
 a3:=Tryz.isAgg3
 z3:=Tryz.sizeOf3
 v3:=Tryz.zeroValue3
 t4:=Tryz.underlying4
 a4:=Tryz.isAgg4
 z4:=Tryz.sizeOf4
 v4:=Tryz.zeroValue4
 t9:=Tryz.underlying9
 a9:=Tryz.isAgg9
 z9:=Tryz.sizeOf9
 v9:=Tryz.zeroValue9
 t20:=Tryz.underlying20
 a20:=Tryz.isAgg20
 z20:=Tryz.sizeOf20
 v20:=Tryz.zeroValue20
 t22:=Tryz.underlying32
 a22:=Tryz.isAgg32
 z22:=Tryz.sizeOf32
 v22:=Tryz.zeroValue32}
namespace Pur
open Rf
theorem Ec:∃i0 z,Tryz.prog.info? 62=some i0∧i0.zero=some z∧i0.size=2∧i0.bytes=32∧z.cells.size=2:=by
 have h:(Tryz.prog.info? 62).map (fun i=>(i.size,i.bytes,i.zero.map fun z=>z.cells.size))=some (2,32,some 2):=by kernel_rfl
 cases hi:Tryz.prog.info? 62 with
 |none=>rw[hi]at h;cases h
 |some i0 =>
  rw[hi]at h;simp only[Option.map_some,Option.some.injEq,Prod.mk.injEq]at h;obtain⟨h1,h2,h3⟩:=h;cases hz:i0.zero with
  |none=>rw[hz]at h3;cases h3
  |some z =>
   rw[hz]at h3;exact⟨i0,z,rfl,hz,h1,h2,by simpa using h3⟩
theorem Ed:aq ctx 108 [.nilsl,.int .i64 0] .nilsl:=by
 refine aq.sK (by kernel_rfl) fun w S vs hE hl hp=>?_
 obtain⟨v,u,rfl,h1,h2⟩:=JL hp;cases h1;obtain rfl:=sL h2;refine(Any8.slices_Grow_room yd none 0 0 0 w (by omega) (by omega) (by omega) (by omega)).mono fun e w' hh=>?_
 obtain⟨rfl,rfl⟩:=hh;exact⟨_,rfl,Below.refl _ _,fun _ _=>.nilsl⟩
theorem FU (n:Nat) (h0:0<n) (hn:n≤1000000000) (μ:AM):aF ctx 108 [.pv .nilsl,.pv (.int .i64 n)] μ (.ref μ.length 0 0 0) (μ++[⟨[],0,2,62,false⟩]):=by
 refine⟨by kernel_rfl,fun w0 S γ w vs hW hp=>?_⟩;obtain⟨i0,z,hi,hz,hs,hb,hzc⟩:=Ec;have hvs:vs=[.slice none 0 0,.int .i64 n]:=by
  have hl:=hp.len;match vs,hl with
  |[v,u],_ =>
   have h1:=jd (hp.at_ 0 _ _ rfl rfl);have h2:=fO (hp.at_ 1 _ _ rfl rfl);rw[h1,h2]
 subst hvs;refine(Any8.slices_Grow_grow yd i0 z hi hz (by omega) none 0 0 n [] w (by omega) (by omega) (by rw[hb];omega) (by omega) (by simp) (fun _=>rfl) (fun a h=>by cases h)).mono fun e w' hh=>?_
 obtain⟨he,hw⟩:=hh;rw[show AS.t 25=62 from rfl]at he hw;obtain⟨hW1,hE1⟩:=hW.drew;have hge:=grownCap_ge w (0+n) 0 62;have hgm:=grownCap_le_maxLen w (0+n) 0 62 (by simp only[maxLen];omega);generalize hG:grownCap w (0+n) 0 62=G at *;obtain⟨hW2,hE2⟩:=hW1.ET (avs:=[]) (cs:=(Builtin.zeroCells z.cells (0+n-0)++Builtin.zeroCells z.cells (G-(0+n))).toList) (elem:=62) 2 (by omega) (Nat.zero_le _) fun i x hx=>by simp at hx
 have hco:(Builtin.zeroCells z.cells (0+n-0)++Builtin.zeroCells z.cells (G-(0+n))).toList.toArray=[].toArray++Builtin.zeroCells z.cells (0+n-0)++Builtin.zeroCells z.cells (G-(0+n)):=by simp
 have hcl:(Builtin.zeroCells z.cells (0+n-0)++Builtin.zeroCells z.cells (G-(0+n))).toList.length=G*2:=by
  rw[Array.length_toList,Array.size_append,size_zeroCells,size_zeroCells,hzc];omega
 rw[hco,hcl]at hW2 hE2;subst he hw;exact⟨_,S,_,rfl,hE1.trans hE2,hW2,.ref _ _ _ _ _ _ ⟨w.heap.size,0,none⟩ G (fj _ _ _) (Nat.le_refl _) ⟨rfl,Nat.zero_le _⟩ fun _=>.inl ⟨G,rfl,Nat.zero_add _,Nat.zero_le _,hgm⟩⟩
def c80:av:=(⟨_,by conv=>(lhs;reduce;try simp only[G4,Int.cast_ofNat_Int,Int.reduceNegSucc,UInt8.reduceOfNat])⟩:{x // codeOf Tryz.prog 80 (fun _=>false)=some x}).1
theorem Im:bo Tryz.prog 80 (fun _=>false)=some (c80,[.t 2],36,true):=by kernel_rfl
def j5 (L:List (List Rw)):Nat:=(L.map List.length).sum
theorem nR (L:List (List Rw)) (k:Nat) (h:k<L.length):j5 (L.take (k+1))=j5 (L.take k)+(L.getD k []).length:=by
 rw[j5,aH L k [] h];simp[j5]
theorem FV (L:List (List Rw)) (k:Nat):j5 (L.take k)≤j5 L:=by
 have:=congrArg j5 (List.take_append_drop k L);simp only[j5,List.map_append,List.sum_append]at this ⊢;omega
theorem Cn (L:List (List Rw)) (k:Nat) (h:k<L.length):(L.take (k+1)).flatten=(L.take k).flatten++L.getD k []:=by
 rw[aH L k [] h];simp
theorem ye (L:List (List Rw)):L.flatten.length=j5 L:=by
 rw[List.length_flatten];rfl
theorem mj (L:List (List Rw)) (k:Nat) (hk:k<L.length) (h:k<(L.flatMap sR).length):(L.flatMap sR)[k]'h= .sl (L.getD k []).length ((L.getD k []).flatMap cg):=by
 have:=bK xG L k [] 0 hk (by omega);rw[Nat.mul_one,Nat.add_zero,List.getElem?_eq_getElem h]at this;exact Option.some.inj this
theorem uL (L:List (List Rw)) (hL:L.length≤1000000) (hS:j5 L≤1000000000):aq ctx 80 [ah L] (ae L.flatten):=by
 have f1:=kP L;have hle:=FV L;have hfl:=ye L;have loop1:∀{R:Exit→AF→AM→Prop} {x:av} {f:AF},Sub [(0,.pv (ah L)),(3,.pv (.int .i64 0)),(9,.pv (ah L)),(10,.pv (.int .i64 L.length)),(11,.pv (.int .i64 0))] f →
   (∀k,k≤L.length→Aw ctx (fun _=>false) 36 0 x (cW (fun f' μ'=>k<L.length∧True∧Sub [(0,.pv (ah L)),(3,.pv (.int .i64 (j5 (L.take (k+1))))),(9,.pv (ah L)),(10,.pv (.int .i64 L.length)),(11,.pv (.int .i64 (k+1:Nat)))] f'∧∃junk,μ'=[]++junk) R) [(0,.pv (ah L)),(3,.pv (.int .i64 (j5 (L.take k)))),(9,.pv (ah L)),(10,.pv (.int .i64 L.length)),(11,.pv (.int .i64 k))] [])→Aw ctx (fun _=>false) 36 0 (.loop x) R f []:=fun hs st =>
  a7 L.length (fun _=>True) (fun k=>[(0,.pv (ah L)),(3,.pv (.int .i64 (j5 (L.take k)))),(9,.pv (ah L)),(10,.pv (.int .i64 L.length)),(11,.pv (.int .i64 k))]) (fun _=>[]) trivial hs ⟨[],rfl⟩ (fun _=>⟨Nat.zero_le _,rfl,rfl⟩) fun k hk _=>st k hk
 by_cases h0:j5 L=0
 ·have:aq ctx 80 [ah L] .nilsl:=by
   have hg:=Ed;have hz:∀k,j5 (L.take k)=0:=fun k=>by have:=hle k;omega
   refine an (C:=ctx) (Fn.of Im rfl) rfl ?_;unfold c80;repeat' (first|((with_reducible first|show az _|show aB _);simp[vb]<;>omega)|exact(rfl:some _=_)|((fail_if_success refine aK ?_);refine bG ?_;(repeat1' dsimp only[c80,ah,go_sem]);first|refine aL ?_ ?_ rfl ?_|apply aM|apply aN|(refine aO (fun hc=>?_) fun hc=>?_<;>first|(cases hc;done)|(exfalso;simp at hc<;>omega)|(try simp only[bn]at hc;try contradiction))|skip))
   refine loop1 (by (repeat' (first|exact trivial|refine And.intro (by first|rfl|(simp[get,Nat.beq]<;>omega)|(dsimp only[get];congr 1<;>first|rfl|omega|(simp<;>omega))) ?_))) fun k hk=>?_
   by_cases hlt:k<L.length
   ·have e:=mj L k hlt;clear loop1;have hl:=nR L k hlt;rw[hz,hz]at hl;rw[hz,hz];generalize L.getD k []=l at *;obtain rfl:l=[]:=List.eq_nil_of_length_eq_zero (by omega);repeat' (first|((with_reducible show az _);first|exact True.intro|(simp only[vb,lb,e,f1,hlt];and_intros<;>first|omega|(simp<;>omega)))|((with_reducible show aB _);first|exact True.intro|((try dsimp only[go_sem]);(simp[vb,e,f1,hlt]<;>omega)))|exact(rfl:some _=_)|((fail_if_success refine aK ?_);refine bw [ξ 14 (.sl 0 [])] ?_;(repeat1' dsimp only[c80,ah,go_sem]);first|refine aL ?_ ?_ rfl ?_|apply aM|apply aN|(refine aO (fun hc=>?_) fun hc=>?_<;>first|(cases hc;done)|(exfalso;(simp at hc<;>omega))|(try simp only[bn]at hc;try contradiction))|skip))
    exact⟨hlt,trivial,by (repeat' (first|exact trivial|refine And.intro (by first|rfl|(simp[get,Nat.beq]<;>omega)|(dsimp only[get];congr 1<;>first|rfl|omega|(simp<;>omega))) ?_)),_,rfl⟩
   obtain rfl:k=L.length:=by omega
   rw[hz];repeat' (first|((with_reducible show az _);exact True.intro)|((with_reducible show aB _);first|exact True.intro|((try dsimp only[go_sem]);(simp only[vb,and_true,true_implies];(repeat' (first|(with_reducible assumption)|(with_reducible apply And.intro)|intro _|((fail_if_success (with_reducible show(_:Int)≤_));assumption)))<;>(simp_all;done))))|exact(rfl:some _=_)|((fail_if_success refine aK ?_);refine du [(108,fun _=>some .nilsl)] ?_;(repeat1' dsimp only[c80,ah,go_sem]);first|refine aL ?_ ?_ rfl ?_|apply aM|apply aN|(refine aO (fun hc=>?_) fun hc=>?_<;>first|(cases hc;done)|(exfalso;(simp at hc<;>omega))|(try simp only[bn]at hc;try contradiction))|skip))
   refine a7 L.length (fun _=>True) (fun k=>[(6,.pv .nilsl),(25,.pv (ah L)),(26,.pv (.int .i64 L.length)),(27,.pv (.int .i64 k))]) (fun _=>[]) trivial (by (repeat' (first|exact trivial|refine And.intro (by first|rfl|(simp[get,Nat.beq]<;>omega)|(dsimp only[get];congr 1<;>first|rfl|omega|(simp<;>omega))) ?_))) ⟨[],rfl⟩ (fun _=>⟨Nat.zero_le _,rfl,rfl⟩) fun k hk _=>?_
   by_cases hlt:k<L.length
   ·have e:=mj L k hlt;clear loop1;have hl:=nR L k hlt;rw[hz,hz]at hl;generalize L.getD k []=l at *;obtain rfl:l=[]:=List.eq_nil_of_length_eq_zero (by omega);repeat' (first|((with_reducible show az _);first|exact True.intro|(simp only[vb,lb,e,f1,hlt];and_intros<;>first|omega|(simp<;>omega)))|((with_reducible show aB _);first|exact True.intro|((try dsimp only[go_sem]);(simp[vb,e,f1,hlt]<;>omega)))|exact(rfl:some _=_)|((fail_if_success refine aK ?_);refine bw [ξ 30 (.sl 0 []),(33,{mode:=2})] ?_;(repeat1' dsimp only[c80,ah,go_sem]);first|refine aL ?_ ?_ rfl ?_|apply aM|apply aN|(refine aO (fun hc=>?_) fun hc=>?_<;>first|(cases hc;done)|(exfalso;(simp at hc<;>omega))|(try simp only[bn]at hc;try contradiction))|skip))
    exact⟨hlt,trivial,by (repeat' (first|exact trivial|refine And.intro (by first|rfl|(simp[get,Nat.beq]<;>omega)|(dsimp only[get];congr 1<;>first|rfl|omega|(simp<;>omega))) ?_)),_,rfl⟩
   obtain rfl:k=L.length:=by omega
   repeat' (first|((with_reducible show az _);exact True.intro)|((with_reducible show aB _);exact True.intro)|exact(rfl:some _=_)|((fail_if_success refine aK ?_);refine bG ?_;(repeat1' dsimp only[c80,ah,go_sem]);first|refine aL ?_ ?_ rfl ?_|apply aM|apply aN|(refine aO (fun hc=>?_) fun hc=>?_<;>first|(cases hc;done)|(exfalso;(simp at hc<;>omega))|(try simp only[bn]at hc;try contradiction))|skip))
  have hc:=this.uw 1;have hn:L.flatten=[]:=List.eq_nil_of_length_eq_zero (by omega);rw[hn];exact hc
 have hg:=FU (j5 L) (by omega) hS [];refine an (C:=ctx) (Fn.of Im rfl) rfl ?_;unfold c80;repeat' (first|((with_reducible first|show az _|show aB _);simp[vb]<;>omega)|exact(rfl:some _=_)|((fail_if_success refine aK ?_);refine bG ?_;(repeat1' dsimp only[c80,ah,go_sem]);first|refine aL ?_ ?_ rfl ?_|apply aM|apply aN|(refine aO (fun hc=>?_) fun hc=>?_<;>first|(cases hc;done)|(exfalso;simp at hc<;>omega)|(try simp only[bn]at hc;try contradiction))|skip))
 refine loop1 (by (repeat' (first|exact trivial|refine And.intro (by first|rfl|(simp[get,Nat.beq]<;>omega)|(dsimp only[get];congr 1<;>first|rfl|omega|(simp<;>omega))) ?_))) fun k hk=>?_
 by_cases hlt:k<L.length
 ·have e:=mj L k hlt;clear loop1;have hl:=nR L k hlt;have hl2:=hle (k+1);rw[hl]at hl2 ⊢;clear hl hle hfl;generalize L.getD k []=l at *;generalize j5 (L.take k)=sm at *;repeat' (first|((with_reducible show az _);first|exact True.intro|(simp only[vb,lb,e,f1,hlt];and_intros<;>first|omega|(simp<;>omega)))|((with_reducible show aB _);first|exact True.intro|((try dsimp only[go_sem]);(simp[vb,e,f1,hlt]<;>omega)))|exact(rfl:some _=_)|((fail_if_success refine aK ?_);refine bw [ξ 14 (.sl l.length (l.flatMap cg))] ?_;(repeat1' dsimp only[c80,ah,go_sem]);first|refine aL ?_ ?_ rfl ?_|apply aM|apply aN|(refine aO (fun hc=>?_) fun hc=>?_<;>first|(cases hc;done)|(exfalso;(simp at hc<;>omega))|(try simp only[bn]at hc;try contradiction))|skip))
  exact⟨hlt,trivial,by (repeat' (first|exact trivial|refine And.intro (by first|rfl|(simp[get,Nat.beq]<;>omega)|(dsimp only[get];congr 1<;>first|rfl|omega|(simp<;>omega))) ?_)),_,rfl⟩
 obtain rfl:k=L.length:=by omega
 rw[List.take_length];repeat' (first|((with_reducible show az _);exact True.intro)|((with_reducible show aB _);first|exact True.intro|((try dsimp only[go_sem]);(simp only[vb,and_true,true_implies];(repeat' (first|(with_reducible assumption)|(with_reducible apply And.intro)|intro _|((fail_if_success (with_reducible show(_:Int)≤_));assumption))))))|exact(rfl:some _=_)|((fail_if_success refine aK ?_);refine bw [(24,{val:=some (.ref 0 0 0 0),mem:=some [⟨[],0,2,62,false⟩]})] ?_;(repeat1' dsimp only[c80,ah,go_sem]);first|refine aL ?_ ?_ rfl ?_|apply aM|apply aN|(refine aO (fun hc=>?_) fun hc=>?_<;>first|(cases hc;done)|(exfalso;(simp at hc<;>omega))|(try simp only[bn]at hc;try contradiction))|skip))
 refine a7 L.length (fun _=>True) (fun k=>[(6,.ref 0 k 0 (L.take k).flatten.length),(25,.pv (ah L)),(26,.pv (.int .i64 L.length)),(27,.pv (.int .i64 k))]) (fun k=>[⟨((L.take k).flatten.flatMap cg).map .pv,k,2,62,false⟩]) trivial (by (repeat' (first|exact trivial|refine And.intro (by first|rfl|(simp[get,Nat.beq]<;>omega)|(dsimp only[get];congr 1<;>first|rfl|omega|(simp<;>omega))) ?_))) ⟨[],rfl⟩ (fun _=>⟨Nat.zero_le _,rfl,by simp[aS,cZ]⟩) fun k hk _=>?_
 by_cases hlt:k<L.length
 ·have e:=mj L k hlt;clear loop1;have hl:=nR L k hlt;have hl2:=hle (k+1);have hf:=Cn L k hlt;have f2:=da (L.take k).flatten;have f3:=ye (L.take k);generalize L.getD k []=l at *;have f4:=da l;rw[hf];generalize (L.take k).flatten=m at *;repeat' (first|((with_reducible show az _);first|exact True.intro|(simp only[vb,lb,e,f1,f2,f4,hlt];and_intros<;>first|omega|(simp<;>omega)))|((with_reducible show aB _);first|exact True.intro|((try dsimp only[go_sem]);(simp[vb,e,f1,f2,f4,hlt]<;>omega)))|exact(rfl:some _=_)|((fail_if_success refine aK ?_);refine bw [ξ 30 (.sl l.length (l.flatMap cg)),(33,{mode:=1})] ?_;(repeat1' dsimp only[c80,ah,go_sem]);first|refine aL ?_ ?_ rfl ?_|apply aM|apply aN|(refine aO (fun hc=>?_) fun hc=>?_<;>first|(cases hc;done)|(exfalso;(simp at hc<;>omega))|(try simp only[bn]at hc;try contradiction))|skip))
  exact⟨hlt,trivial,by simp only[List.length_append];(repeat' (first|exact trivial|refine And.intro (by first|rfl|(simp[get,Nat.beq]<;>omega)|(dsimp only[get];congr 1<;>first|rfl|omega|(simp<;>omega))) ?_)),[],by simp[List.flatMap_append]⟩
 obtain rfl:k=L.length:=by omega
 rw[List.take_length];repeat' (first|((with_reducible show az _);exact True.intro)|((with_reducible show aB _);exact True.intro)|exact(rfl:some _=_)|((fail_if_success refine aK ?_);refine bG ?_;(repeat1' dsimp only[c80,ah,go_sem]);first|refine aL ?_ ?_ rfl ?_|apply aM|apply aN|(refine aO (fun hc=>?_) fun hc=>?_<;>first|(cases hc;done)|(exfalso;(simp at hc<;>omega))|(try simp only[bn]at hc;try contradiction))|skip))
 have f2:=da L.flatten;exact mV rfl rfl rfl (by rw[List.drop_zero,List.take_of_length_le (by simp only[List.length_map];omega)]) (by simp only[List.length_map];omega)
end Pur
end
section
namespace Rf
open Pur (aC)
def iX (b:List Rg):List Int:=b.map Rg.lo
theorem FW (b:List Rg) (k:Nat) (h:k<b.length):(iX b).getD k 0=(b.getD k zr).lo:=by
 simp[iX,List.getD,h]
end Rf
end
section
namespace Rf
theorem yg (l:List aJ) (x:aJ) (n:Int):bD (l++[x]) n=if (l.length:Int)=n then bD l n else bD l n++[x]:=by
 by_cases h1:(l.length:Int)=n
 ·rw[if_pos h1,dH l n (by omega)];unfold bD;rw[if_pos (by omega),List.eraseIdx_append_of_length_le (by omega),show n.toNat-l.length=0 by omega];simp
 rw[if_neg h1];by_cases h2:0≤n∧n<l.length
 ·unfold bD;rw[if_pos h2.1,if_pos h2.1,List.eraseIdx_append_of_lt_length (by omega)]
 rw[dH l n (by omega),dH _ n (by rw[List.length_append,List.length_singleton];omega)]
theorem yh:∀(l:List Tree) (m:Int) (k:Nat),k<l.length→(cp l m).getD k zt=dG (l.getD k zt) (m-aW (l.take k))
 |t::r,m,0,_=>by simp[cj,aW]
 |t::r,m,k+1,h=>by
  have:=yh r (m-aT t) k (by simpa using h);rw[cj,List.getD_cons_succ,List.getD_cons_succ,this,List.take_succ_cons,aW];congr 1;omega
theorem tf (l:List Tree) (m:Int) (k:Nat) (h:k<l.length):(cp l m).take (k+1)=(cp l m).take k++[dG (l.getD k zt) (m-aW (l.take k))]:=by
 rw[Pur.aH _ k zt (by rw[cD];exact h),yh l m k h]
theorem qR (st:List aJ) (n:Int) (k:Nat) (h:k<st.length):bD (st.take (k+1)) n=if (k:Int)=n then bD (st.take k) n else bD (st.take k) n++[st.getD k zs]:=by
 rw[Pur.aH st k zs h,yg];rw[show((st.take k).length:Int)=k by rw[List.length_take];omega]
end Rf
namespace Pur
open Rf
def vS (i:Nat) (k c a:Int):List aJ→eN
 |[]=>⟨[.pv (.int .i64 k),.pv .nilsl,.pv (.int .i64 c),.pv (.int .i64 a),.pv .nilsl],0,5,25,false⟩
 |_::l=>⟨[.pv (.int .i64 k),.ref i l.length 0 (l.length+1),.pv (.int .i64 c),.pv (.int .i64 a),.pv .nilsl],0,5,25,false⟩
theorem vZ (i:Nat) (k c a:Int):vS i k c a []=⟨[.pv (.int .i64 k),.pv .nilsl,.pv (.int .i64 c),.pv (.int .i64 a),.pv .nilsl],0,5,25,false⟩:=rfl
theorem nS (i:Nat) (k c a:Int) (x:aJ) (l:List aJ):vS i k c a (x::l)=⟨[.pv (.int .i64 k),.ref i l.length 0 (l.length+1),.pv (.int .i64 c),.pv (.int .i64 a),.pv .nilsl],0,5,25,false⟩:=rfl
def FX (J:aJ→AM):List aJ→AM
 |[]=>[]
 |x::l=>J x++[⟨(x::l).flatMap af |>.map .pv,l.length,3,66,false⟩]
theorem rA (J:aJ→AM):FX J []=[]:=rfl
theorem lu (J:aJ→AM) (x:aJ) (l:List aJ):FX J (x::l)=J x++[⟨(x::l).flatMap af |>.map .pv,l.length,3,66,false⟩]:=rfl
def vK (i:Nat) (k c a:Int) (S:List aJ):List Tree→eN
 |[]=>⟨[.pv (.int .i64 k),.pv (aj S),.pv (.int .i64 c),.pv (.int .i64 a),.pv .nilsl],0,5,25,false⟩
 |_::l=>⟨[.pv (.int .i64 k),.pv (aj S),.pv (.int .i64 c),.pv (.int .i64 a),.ref i l.length 0 (l.length+1)],0,5,25,false⟩
theorem v7 (i:Nat) (k c a:Int) (S:List aJ):vK i k c a S []=⟨[.pv (.int .i64 k),.pv (aj S),.pv (.int .i64 c),.pv (.int .i64 a),.pv .nilsl],0,5,25,false⟩:=rfl
theorem rB (i:Nat) (k c a:Int) (S:List aJ) (t:Tree) (l:List Tree):vK i k c a S (t::l)=⟨[.pv (.int .i64 k),.pv (aj S),.pv (.int .i64 c),.pv (.int .i64 a),.ref i l.length 0 (l.length+1)],0,5,25,false⟩:=rfl
def EK (J:Tree→AM):List Tree→AM
 |[]=>[]
 |t::l=>J t++[⟨(t::l).flatMap aD |>.map .pv,l.length,5,25,false⟩]
theorem AT (J:Tree→AM):EK J []=[]:=rfl
theorem pE (J:Tree→AM) (t:Tree) (l:List Tree):EK J (t::l)=J t++[⟨(t::l).flatMap aD |>.map .pv,l.length,5,25,false⟩]:=rfl
abbrev Ee (x:aJ):eN:=⟨[.pv (.int .i64 x.kind),.pv (.int .i64 x.index),.pv (.int .i64 x.cell)],0,3,66,false⟩
theorem FY {n':Nat} {x:av} {R:Exit→AF→AM→Prop} {F:AF} (t:Tree) (kd c a:Int) (S:List aJ) (hF:gu [0,1,2,4] F=F) (hs:∀M,iW M 3 F=F) (hof:cu F 3=true)
  (h:Aw ctx (fun _=>false) n' 0 x R F [ax t,aY,vK 5 kd c a S []]):Aw ctx (fun _=>false) n' 0 x R F ([ax t,aY,vS 4 kd c a S]++FX (fun x=>[Ee x]) S):=by
 cases S with
 |nil=>exact ew (μ':=[ax t,aY,vK 5 kd c a [] []]) (MW.last (μ:=[ax t,aY]) ⟨(PW.refl CW.refl [AV.pv (.int .i64 kd)]).kG (PW.cons CW.nil (PW.refl CW.refl [AV.pv (.int .i64 c),.pv (.int .i64 a),.pv .nilsl])),rfl,rfl,rfl,rfl⟩) h
 |cons x l =>
  refine iM [0,1,2,4] rfl ?_;have e:gW [0,1,2,4] ([ax t,aY,vS 4 kd c a (x::l)]++FX (fun x=>[Ee x]) (x::l))=[ax t,aY,⟨[.pv (.int .i64 kd),.ref 3 l.length 0 (l.length+1),.pv (.int .i64 c),.pv (.int .i64 a),.pv .nilsl],0,5,25,false⟩,⟨(((x::l).flatMap af).map AV.pv).map (dx [0,1,2,4] 3),l.length,3,66,false⟩]:=rfl;rw[e,l8,hF];exact eH (μ:=[ax t,aY]) (c1:=[.int .i64 kd]) (c2:=[.int .i64 c,.int .i64 a,.nilsl]) (ps:=(x::l).flatMap af) (by simp[aS,cZ,aY,ax]) (by simp) (by simp) (de _) hs hof h
theorem FZ {n':Nat} {x:av} {R:Exit→AF→AM→Prop} {F:AF} (t:Tree) (o:Tree) (kd c a:Int) (S:List aJ) (ks:List Tree) (hF:gu [0,1,2,5] F=F) (hs:∀M,iW M 3 F=F) (hof:cu F 3=true)
  (h:Aw ctx (fun _=>false) n' 0 x R F [ax t,aY,ax (.node kd S c a ks)]):Aw ctx (fun _=>false) n' 0 x R F ([ax t,aY,vK 5 kd c a S ks]++EK (fun t0=>[ax o,ax t0]) ks):=by
 cases ks with
 |nil=>exact ew (μ':=[ax t,aY,ax (.node kd S c a [])]) (MW.last (μ:=[ax t,aY]) ⟨(PW.refl CW.refl [AV.pv (.int .i64 kd),.pv (aj S),.pv (.int .i64 c),.pv (.int .i64 a)]).kG (PW.cons CW.nil PW.nil),rfl,rfl,rfl,rfl⟩) h
 |cons t0 l =>
  refine iM [0,1,2,5] rfl ?_;have e:gW [0,1,2,5] ([ax t,aY,vK 5 kd c a S (t0::l)]++EK (fun t0=>[ax o,ax t0]) (t0::l))=[ax t,aY,⟨[.pv (.int .i64 kd),.pv (aj S),.pv (.int .i64 c),.pv (.int .i64 a),.ref 3 l.length 0 (l.length+1)],0,5,25,false⟩,⟨(((t0::l).flatMap aD).map AV.pv).map (dx [0,1,2,5] 3),l.length,5,25,false⟩]:=rfl;rw[e,l8,hF];exact eH (μ:=[ax t,aY]) (c1:=[.int .i64 kd,aj S,.int .i64 c,.int .i64 a]) (c2:=[]) (ps:=(t0::l).flatMap aD) (by simp[aS,cZ,aY,ax]) (by simp) (by simp) (fa _) hs hof h
def Io:av:=(⟨_,by conv=>(lhs;reduce;try simp only[G4,Int.cast_ofNat_Int,Int.reduceNegSucc,UInt8.reduceOfNat])⟩:{x // codeOf Tryz.prog 49 (fun _=>false)=some x}).1
theorem Ip:bo Tryz.prog 49 (fun _=>false)=some (Io,[.cell 4 5 true,.t 5],69,true):=by kernel_rfl
theorem th:∀(t:Tree),wt t≤1000000000→∀(n:Int),(wt t:Int)-1000000000000≤n→n≤1000000000000 →
  aq ctx 49 [aE t,.int .i64 n] (.tup [aE (dG t n),.int .i64 (aT t:Nat)]):=by
 refine Tree.ind fun kd st c a l ih hw n hn1 hn2=>?_
 rw[cz]at hw hn1;have hl:=j3 l;have hsw:=jz l;rw[dA,ey];have f1:=de st;have f2:=fa l;refine an (C:=ctx) (Fn.of Ip rfl) rfl ?_;unfold Io;repeat' (first|((with_reducible show az _);first|exact True.intro|(simp[vb]<;>omega))|((with_reducible show aB _);exact True.intro)|exact(rfl:some _=_)|((fail_if_success refine aK ?_);refine bG ?_;(repeat1' dsimp only[c49,aE,Tree.kind,Tree.steps,Tree.cell,Tree.pos,Tree.kids,aj,aw,go_sem]);first|refine aL ?_ ?_ rfl ?_|apply aM|apply aN|(refine aO (fun hc=>?_) fun hc=>?_<;>first|(cases hc;done)|(try simp only[bn]at hc;try contradiction))|skip))
 refine a7 st.length (fun _=>True) (fun k=>[(1,.pv (.int .i64 n)),(2,.ptr 0 0 0),(4,.ptr 1 0 0),(6,.ptr 2 0 0),(7,.pv (.int .i64 st.length)),(25,.pv (aj st)),(26,.pv (.int .i64 st.length)),(27,.pv (.int .i64 k))])
  (fun k=>[ax (.node kd st c a l),aY,vS 4 kd c a (bD (st.take k) n)]++FX (fun x=>[Ee x]) (bD (st.take k) n)) trivial (by (repeat' (first|exact trivial|refine And.intro (by first|rfl|(simp[get,Nat.beq]<;>omega)|(dsimp only[get];congr 1<;>first|rfl|omega|(simp<;>omega))) ?_))) ⟨[],by rw[List.take_zero,dH [] n (by simp;omega)];rfl⟩ (fun k=>?_) fun k hk _=>?_
 ·generalize bD (st.take k) n=S;cases S with
  |nil=>exact⟨Nat.zero_le _,rfl,rfl⟩
  |cons x S=>exact⟨Nat.zero_le _,rfl,by simp[vS,FX,aS,aY,ax,cZ]⟩
 by_cases hlt:k<st.length
 ·have e:=bQ bI st k zs hlt;have hd:=qR st n k hlt;have hdl:=qy (st.take k) n;rw[List.length_take]at hdl;rw[hd];clear hd;generalize st.getD k zs=x at *;generalize bD (st.take k) n=S at *;by_cases hkn:(k:Int)=n
  ·rw[if_pos hkn];obtain rfl:n=(k:Int):=hkn.symm;clear hkn;cases S with
   |nil =>
    simp only[vZ,rA,List.append_nil];repeat' (first|((with_reducible show az _);first|exact True.intro|(simp only[vb,lb,e,f1,hlt,af];and_intros<;>first|omega|(simp<;>omega)))|((with_reducible show aB _);first|exact True.intro|((try dsimp only[go_sem]);(simp[vb,e,f1,hlt,af]<;>omega)))|exact(rfl:some _=_)|((fail_if_success refine aK ?_);refine bw [ξ 31 (.agg [.int .i64 x.kind,.int .i64 x.index,.int .i64 x.cell])] ?_;(repeat1' dsimp only[c49,ax,aY,Tree.kind,Tree.steps,Tree.cell,Tree.pos,Tree.kids,aj,aw,go_sem]);first|refine aL ?_ ?_ rfl ?_|apply aM|apply aN|(refine aO (fun hc=>?_) fun hc=>?_<;>first|(cases hc;done)|(exfalso;(simp at hc<;>omega))|(try simp only[bn]at hc;try contradiction))|skip))
    exact⟨hlt,trivial,by (repeat' (first|exact trivial|refine And.intro (by first|rfl|(simp[get,Nat.beq]<;>omega)|(dsimp only[get];congr 1<;>first|rfl|omega|(simp<;>omega))) ?_)),_,rfl⟩
   |cons s0 l0 =>
    simp only[nS,lu,List.append_nil,List.cons_append,List.nil_append];repeat' (first|((with_reducible show az _);first|exact True.intro|(simp only[vb,lb,e,f1,hlt,af];and_intros<;>first|omega|(simp<;>omega)))|((with_reducible show aB _);first|exact True.intro|((try dsimp only[go_sem]);(simp[vb,e,f1,hlt,af]<;>omega)))|exact(rfl:some _=_)|((fail_if_success refine aK ?_);refine bw [ξ 31 (.agg [.int .i64 x.kind,.int .i64 x.index,.int .i64 x.cell])] ?_;(repeat1' dsimp only[c49,ax,aY,Tree.kind,Tree.steps,Tree.cell,Tree.pos,Tree.kids,aj,aw,go_sem]);first|refine aL ?_ ?_ rfl ?_|apply aM|apply aN|(refine aO (fun hc=>?_) fun hc=>?_<;>first|(cases hc;done)|(exfalso;(simp at hc<;>omega))|(try simp only[bn]at hc;try contradiction))|skip))
    exact⟨hlt,trivial,by (repeat' (first|exact trivial|refine And.intro (by first|rfl|(simp[get,Nat.beq]<;>omega)|(dsimp only[get];congr 1<;>first|rfl|omega|(simp<;>omega))) ?_)),_,rfl⟩
  rw[if_neg hkn];cases S with
  |nil =>
   simp only[vZ,rA,List.append_nil,List.nil_append,nS,lu,List.length_nil];repeat' (first|((with_reducible show az _);first|exact True.intro|(simp only[vb,lb,e,f1,hlt,af,hkn];and_intros<;>first|omega|(simp<;>omega)))|((with_reducible show aB _);first|exact True.intro|((try dsimp only[go_sem]);(simp[vb,e,f1,hlt,af,hkn]<;>omega)))|exact(rfl:some _=_)|((fail_if_success refine aK ?_);refine bw [ξ 31 (.agg [.int .i64 x.kind,.int .i64 x.index,.int .i64 x.cell])] ?_;(repeat1' dsimp only[c49,ax,aY,Tree.kind,Tree.steps,Tree.cell,Tree.pos,Tree.kids,aj,aw,go_sem]);first|refine aL ?_ ?_ rfl ?_|apply aM|apply aN|(refine aO (fun hc=>?_) fun hc=>?_<;>first|(cases hc;done)|(exfalso;(simp at hc<;>omega))|(try simp only[bn]at hc;try contradiction))|skip))
   exact⟨hlt,trivial,by (repeat' (first|exact trivial|refine And.intro (by first|rfl|(simp[get,Nat.beq]<;>omega)|(dsimp only[get];congr 1<;>first|rfl|omega|(simp<;>omega))) ?_)),[],by simp[af]⟩
  |cons s0 l0 =>
   simp only[List.length_cons]at hdl;simp only[nS,lu,List.append_nil,List.cons_append,List.nil_append];repeat' (first|((with_reducible show az _);first|exact True.intro|(simp only[vb,lb,e,f1,hlt,af,hkn,bI,rf,hdl];and_intros<;>first|omega|(simp<;>omega))|(simp[vb,e,f1,hlt,af,hkn,bI,rf,hdl]<;>omega))|((with_reducible show aB _);first|exact True.intro|((try dsimp only[go_sem]);(simp[vb,e,f1,hlt,af,hkn,bI,rf,hdl]<;>omega)))|exact(rfl:some _=_)|((fail_if_success refine aK ?_);refine bw [ξ 31 (.agg [.int .i64 x.kind,.int .i64 x.index,.int .i64 x.cell])] ?_;(repeat1' dsimp only[c49,ax,aY,Tree.kind,Tree.steps,Tree.cell,Tree.pos,Tree.kids,aj,aw,go_sem]);first|refine aL ?_ ?_ rfl ?_|apply aM|apply aN|(refine aO (fun hc=>?_) fun hc=>?_<;>first|(cases hc;done)|(exfalso;(simp at hc<;>omega))|(try simp only[bn]at hc;try contradiction))|skip))
   exact⟨hlt,trivial,by (repeat' (first|exact trivial|refine And.intro (by first|rfl|(simp[get,Nat.beq]<;>omega)|(dsimp only[get];congr 1<;>first|rfl|omega|(simp<;>omega))) ?_)),_,by simp[af];rfl⟩
 obtain rfl:k=st.length:=by omega
 rw[List.take_of_length_le (Nat.le_refl _)];generalize hS:bD st n=S at *;refine FY (.node kd st c a l) kd c a S rfl (fun _=>rfl) rfl ?_;rw[v7];repeat' (first|((with_reducible show az _);first|exact True.intro|(simp only[vb,lb,f1,hlt];and_intros<;>first|omega|(simp<;>omega)))|((with_reducible show aB _);exact True.intro)|exact(rfl:some _=_)|((fail_if_success refine aK ?_);refine bG ?_;(repeat1' dsimp only[c49,ax,aY,Tree.kind,Tree.steps,Tree.cell,Tree.pos,Tree.kids,aj,aw,go_sem]);first|refine aL ?_ ?_ rfl ?_|apply aM|apply aN|(refine aO (fun hc=>?_) fun hc=>?_<;>first|(cases hc;done)|(exfalso;(simp at hc<;>omega))|(try simp only[bn]at hc;try contradiction))|skip))
 refine a7 l.length (fun _=>True) (fun k=>[(2,.ptr 0 0 0),(4,.ptr 1 0 0),(6,.ptr 2 0 0),(1,.pv (.int .i64 n)),(7,.pv (.int .i64 (st.length+aW (l.take k):Nat))),(43,.pv (aw l)),(44,.pv (.int .i64 l.length)),(45,.pv (.int .i64 k))])
  (fun k=>[ax (.node kd st c a l),aY,vK 5 kd c a S ((cp l (n-st.length)).take k)]++EK (fun t0=>[ax (l.getD 0 zt),ax t0]) ((cp l (n-st.length)).take k)) trivial (by (repeat' (first|exact trivial|refine And.intro (by first|rfl|(simp[get,Nat.beq,aW]<;>omega)|(dsimp only[get];congr 1<;>first|rfl|omega|(simp<;>omega))) ?_))) ⟨[],rfl⟩ (fun k=>?_) fun k hk _=>?_
 ·generalize (cp l (n-st.length)).take k=ks;cases ks with
  |nil=>exact⟨Nat.zero_le _,rfl,rfl⟩
  |cons x S=>exact⟨Nat.zero_le _,rfl,by simp[vK,EK,aS,aY,ax,cZ]⟩
 by_cases hlk:k<l.length
 ·have e:=gY l k hlk;have hmem:=aQ (d:=zt) hlk;have hwk:=lY hmem;have hta:=tf l (n-st.length) k hlk;have hkl:((cp l (n-st.length)).take k).length=k:=by rw[List.length_take,cD];omega
  have hs1:=kq (l.take k) [l.getD k zt];rw[←aH l k zt hlk,aW,aW]at hs1;have hs2:=jj (l.take k) [l.getD k zt];rw[←aH l k zt hlk,iA,iA]at hs2;have hs3:=sO l (k+1);have hs4:=jz (l.take k);have hs5:=jk (l.getD k zt);have hih:=ih _ hmem (by omega) (n-st.length-aW (l.take k)) (by omega) (by omega);rw[hta,hs1];have hor:k=0→l.getD 0 zt=l.getD k zt:=fun h=>by rw[h]
  clear ih hta hs1;generalize l.getD k zt=x at *;generalize dG x (n-st.length-aW (l.take k))=y at *;generalize aT x=m at *;generalize aW (l.take k)=cnt at *;generalize (cp l (n-st.length)).take k=ks at *;obtain⟨a0,a1,a2,a3,a4⟩:=x;obtain⟨y0,y1,y2,y3,y4⟩:=y;simp only[aE,Tree.kind,Tree.steps,Tree.cell,Tree.pos,Tree.kids]at hih e;unfold aw aj at hih e;rw[show n-(st.length:Int)-cnt=n-((st.length+cnt:Nat):Int) by omega]at hih;clear hlt;have hlt:=hlk;cases ks with
  |nil =>
   simp only[v7,AT,List.append_nil,List.nil_append,rB,pE,List.length_nil];simp only[List.length_nil]at hkl;subst hkl;try rw[hor rfl]
   repeat' (first|((with_reducible show az _);first|exact True.intro|(simp only[vb,lb,e,f2,hlt,hih];and_intros<;>first|omega|(simp<;>omega)))|((with_reducible show aB _);first|exact True.intro|((try dsimp only[go_sem]);(simp only[vb,and_true,true_implies];(repeat' (first|(with_reducible assumption)|(with_reducible apply And.intro)|intro _|((fail_if_success (with_reducible show(_:Int)≤_));assumption)))<;>(simp only[ab,e,f2,hlt,hih];done))))|exact(rfl:some _=_)|((fail_if_success refine aK ?_);refine aV [(49,fun _=>some (.tup [.agg [.int .i64 y0,.sl y1.length (y1.flatMap af),.int .i64 y2,.int .i64 y3,.sl y4.length (y4.flatMap aD)],.int .i64 (m:Nat)]))] [ξ 48 (.agg [.int .i64 a0,.sl a1.length (a1.flatMap af),.int .i64 a2,.int .i64 a3,.sl a4.length (a4.flatMap aD)])] ?_;(repeat1' dsimp only[c49,ax,aY,Tree.kind,Tree.steps,Tree.cell,Tree.pos,Tree.kids,aj,aw,go_sem]);first|refine aL ?_ ?_ rfl ?_|apply aM|apply aN|(refine aO (fun hc=>?_) fun hc=>?_<;>first|(cases hc;done)|(exfalso;(simp[e,f2,hlt,hih]at hc;done))|(try simp only[bn]at hc;try contradiction))|skip))
   exact⟨hlt,trivial,by (repeat' (first|exact trivial|refine And.intro (by first|rfl|(simp[get,Nat.beq]<;>omega)|(dsimp only[get];congr 1<;>first|rfl|omega|(simp<;>omega))) ?_)),[],by simp[fu,ax,Tree.kind,Tree.steps,Tree.cell,Tree.pos,Tree.kids,aj,aw]⟩
  |cons t0 l0 =>
   simp only[List.length_cons]at hkl;clear hor;simp only[rB,pE,List.append_nil,List.cons_append,List.nil_append];repeat' (first|((with_reducible show az _);first|exact True.intro|(simp only[vb,lb,e,f2,hlt,hih,ck,qp,hkl];and_intros<;>first|omega|(simp<;>omega))|(simp[vb,e,f2,hlt,hih,ck,qp,hkl]<;>omega))|((with_reducible show aB _);first|exact True.intro|((try dsimp only[go_sem]);first|(simp[vb,e,f2,hlt,hih,ck,qp,hkl]<;>omega)|(simp only[vb,and_true,true_implies];(repeat' (first|(with_reducible assumption)|(with_reducible apply And.intro)|intro _|((fail_if_success (with_reducible show(_:Int)≤_));assumption))))))|exact(rfl:some _=_)|((fail_if_success refine aK ?_);refine aV [(49,fun _=>some (.tup [.agg [.int .i64 y0,.sl y1.length (y1.flatMap af),.int .i64 y2,.int .i64 y3,.sl y4.length (y4.flatMap aD)],.int .i64 (m:Nat)]))] [ξ 48 (.agg [.int .i64 a0,.sl a1.length (a1.flatMap af),.int .i64 a2,.int .i64 a3,.sl a4.length (a4.flatMap aD)])] ?_;(repeat1' dsimp only[c49,ax,aY,Tree.kind,Tree.steps,Tree.cell,Tree.pos,Tree.kids,aj,aw,go_sem]);first|refine aL ?_ ?_ rfl ?_|apply aM|apply aN|(refine aO (fun hc=>?_) fun hc=>?_<;>first|(cases hc;done)|(exfalso;(simp at hc<;>omega))|(try simp only[bn]at hc;try contradiction))|skip))
   exact⟨hlt,trivial,by (repeat' (first|exact trivial|refine And.intro (by first|rfl|(simp[get,Nat.beq]<;>omega)|(dsimp only[get];congr 1<;>first|rfl|omega|(simp<;>omega))) ?_)),_,by simp[fu,ax,Tree.kind,Tree.steps,Tree.cell,Tree.pos,Tree.kids,aj,aw];rfl⟩
 obtain rfl:k=l.length:=by omega
 rw[List.take_of_length_le (show(cp l (n-st.length)).length≤l.length by rw[cD];exact Nat.le_refl _),List.take_of_length_le (Nat.le_refl l.length)];generalize cp l (n-st.length)=ks at *;refine FZ (.node kd st c a l) (l.getD 0 zt) kd c a S ks rfl (fun _=>rfl) rfl ?_;repeat' (first|((with_reducible show az _);first|exact True.intro|(simp only[vb,lb,f2,hlk];and_intros<;>first|omega|(simp<;>omega)))|((with_reducible show aB _);exact True.intro)|exact(rfl:some _=_)|((fail_if_success refine aK ?_);refine bG ?_;(repeat1' dsimp only[c49,ax,aY,aE,Tree.kind,Tree.steps,Tree.cell,Tree.pos,Tree.kids,aj,aw,go_sem]);first|refine aL ?_ ?_ rfl ?_|apply aM|apply aN|(refine aO (fun hc=>?_) fun hc=>?_<;>first|(cases hc;done)|(exfalso;(simp at hc<;>omega))|(try simp only[bn]at hc;try contradiction))|skip))
end Pur
end
section
namespace Pur
section
open Rf
theorem JW:Tryz.prog.cellsOf 57=2:=by kernel_rfl
theorem JX:Tryz.prog.cellsOf 107=2:=by kernel_rfl
theorem Jt:Tryz.prog.cellsOf 62=2:=by kernel_rfl
theorem JY:Tryz.prog.cellsOf 99=3:=by kernel_rfl
theorem J8:Tryz.prog.cellsOf 36=4:=by kernel_rfl
theorem J9:Tryz.prog.cellsOf 31=1:=by kernel_rfl
theorem JZ:Tryz.prog.cellsOf 32=1:=by kernel_rfl
theorem Ka:Tryz.prog.cellsOf 33=1:=by kernel_rfl
theorem Kb:Tryz.prog.cellsOf 34=1:=by kernel_rfl
theorem Kc:Tryz.prog.cellsOf 60=1:=by kernel_rfl
theorem Kd:Tryz.prog.cellsOf 49=1:=by kernel_rfl
theorem Ke {n B:Nat} {l:List PV} (h:Typed Tryz.prog B n 57 l):∃x,l=bS x∧True:=by
 obtain⟨hl,m,rfl,hf⟩:=ll h Tryz.underlying57;rw[JW]at hl;match l,hl with
 |[a,b],_ =>
  obtain⟨x,hx⟩:=xI (piece hf 0 0 3 Gw rfl);obtain⟨y,hy⟩:=xI (piece hf 1 1 3 Gw rfl);simp at hx hy;subst hx hy;exact⟨⟨x,y⟩,rfl,trivial⟩
theorem Kf {n B:Nat} {l:List PV} (h:Typed Tryz.prog B n 107 l):∃x,l=gZ x∧True:=by
 obtain⟨hl,m,rfl,hf⟩:=ll h Tryz.underlying107;rw[JX]at hl;match l,hl with
 |[a,b],_ =>
  obtain⟨x,hx⟩:=xI (piece hf 0 0 3 Gw rfl);obtain⟨y,hy⟩:=xI (piece hf 1 1 3 Gw rfl);simp at hx hy;subst hx hy;exact⟨⟨x,y⟩,rfl,trivial⟩
theorem J0 {n B:Nat} {l:List PV} (h:Typed Tryz.prog B n 62 l):∃x,l=cg x∧x.terms.length≤B:=by
 obtain⟨hl,m,rfl,hf⟩:=ll h Tryz.underlying62;rw[Jt]at hl;match l,hl with
 |[a,b],_ =>
  obtain⟨x,hx,lx,-⟩:=kp (piece hf 0 0 60 Kc rfl) Tryz.underlying60 JX gZ (fun _=>True) (fun _ _=>rfl) fun m c _ hc=>Kf hc
  obtain⟨y,hy⟩:=xI (piece hf 1 1 3 Gw rfl);simp at hx hy;subst hx hy;exact⟨⟨x,y⟩,rfl,lx⟩
theorem Kg {n B:Nat} {l:List PV} (h:Typed Tryz.prog B n 99 l):∃x,l=jK x∧x.least.length≤B:=by
 obtain⟨hl,m,rfl,hf⟩:=ll h Tryz.underlying99;rw[JY]at hl;match l,hl with
 |[a,b,c],_ =>
  obtain⟨x,hx⟩:=xI (piece hf 0 0 3 Gw rfl);obtain⟨y,hy⟩:=xI (piece hf 1 1 3 Gw rfl);obtain⟨z,hz,lz,-⟩:=kp (piece hf 2 2 49 Kd rfl) Tryz.underlying49 Gw aI (fun _=>True) (fun _ _=>rfl) fun m c _ hc=>by
   obtain⟨x,hx⟩:=xI hc;exact⟨x,hx,trivial⟩
  simp at hx hy hz;subst hx hy hz;exact⟨⟨x,y,z⟩,rfl,lz⟩
theorem Kh {B:Nat} (hB:B≤1000000000) {p:PV} (h:sI Tryz.prog B 36 p):∃s,p= .agg [aa s.box,ae s.rows,ai s.graphs,ah s.cases]∧Ca s:=by
 obtain⟨n,l,h',rfl⟩:=He h Tryz.underlying36;obtain⟨hl,m,rfl,hf⟩:=ll h' Tryz.underlying36;rw[J8]at hl;match l,hl with
 |[a,b,c,d],_ =>
  obtain⟨x0,e0,l0,-⟩:=kp (piece hf 0 0 31 J9 rfl) Tryz.underlying31 JW bS (fun _=>True) (fun _ _=>rfl) fun m c _ hc=>Ke hc
  obtain⟨x1,e1,l1,w1⟩:=kp (piece hf 1 1 32 JZ rfl) Tryz.underlying32 Jt cg (fun x=>x.terms.length≤B) (fun _ _=>rfl) fun m c _ hc=>J0 hc
  obtain⟨x2,e2,l2,w2⟩:=kp (piece hf 2 2 33 Ka rfl) Tryz.underlying33 JY jK (fun x=>x.least.length≤B) (fun _ _=>rfl) fun m c _ hc=>Kg hc
  obtain⟨x3,e3,l3,w3⟩:=kp (piece hf 3 3 34 Kb rfl) Tryz.underlying34 JZ sR (fun x=>x.length≤B∧∀r∈x,r.terms.length≤B) (fun _ _=>rfl) fun m c _ hc=>by
   obtain⟨x,e,lx,wx⟩:=kp hc Tryz.underlying32 Jt cg (fun x=>x.terms.length≤B) (fun _ _=>rfl) fun m c _ hc=>J0 hc
   exact⟨x,e,lx,wx⟩
  simp at e0 e1 e2 e3;subst e0 e1 e2 e3;exact⟨⟨x0,x1,x2,x3⟩,rfl,by show x0.length≤_;omega,by show x1.length≤_;omega,by show x2.length≤_;omega,by show x3.length≤_;omega,fun x hx=>Nat.le_trans (w1 x hx) hB,fun x hx=>Nat.le_trans (w2 x hx) hB,fun x hx=>Nat.le_trans (w3 x hx).1 hB,fun x hx r hr=>Nat.le_trans ((w3 x hx).2 r hr) hB⟩
end
section
open Rf
def Ju:av:=(⟨_,by conv=>(lhs;reduce;try simp only[G4,Int.cast_ofNat_Int,Int.reduceNegSucc,UInt8.reduceOfNat])⟩:{x // codeOf Tryz.prog 90 (fun _=>false)=some x}).1
theorem Jv:bo Tryz.prog 90 (fun _=>false)=some (Ju,[.t 6],15,true):=by kernel_rfl
def c91:av:=(⟨_,by conv=>(lhs;reduce;try simp only[G4,Int.cast_ofNat_Int,Int.reduceNegSucc,UInt8.reduceOfNat])⟩:{x // codeOf Tryz.prog 91 (fun _=>false)=some x}).1
theorem Jw:bo Tryz.prog 91 (fun _=>false)=some (c91,[.t 4],46,true):=by kernel_rfl
def F0:av:=(⟨_,by conv=>(lhs;reduce;try simp only[G4,Int.cast_ofNat_Int,Int.reduceNegSucc,UInt8.reduceOfNat])⟩:{x // codeOf Tryz.prog 60 (fun _=>false)=some x}).1
theorem Iq:bo Tryz.prog 60 (fun _=>false)=some (F0,[.t 4],46,true):=by kernel_rfl
def Ir:av:=(⟨_,by conv=>(lhs;reduce;try simp only[G4,Int.cast_ofNat_Int,Int.reduceNegSucc,UInt8.reduceOfNat])⟩:{x // codeOf Tryz.prog 61 (fun _=>false)=some x}).1
theorem Jx:bo Tryz.prog 61 (fun _=>false)=some (Ir,[.t 2],21,true):=by kernel_rfl
theorem rC (n lo hi:Int):aq ctx 90 [.int .i64 n,.int .i64 lo,.int .i64 hi] (.bool (aC n lo hi)):=by
 refine an (C:=ctx) (Fn.of Jv rfl) rfl ?_;unfold Ju;repeat' (first|((with_reducible first|show az _|show aB _);simp[vb]<;>omega)|exact(rfl:some _=_)|((fail_if_success refine aK ?_);refine bG ?_;(repeat1' dsimp only[Ju,go_sem]);first|refine aL ?_ ?_ rfl ?_|apply aM|apply aN|(refine aO (fun hc=>?_) fun hc=>?_<;>first|(cases hc;done)|(exfalso;simp at hc<;>omega)|(try simp only[bn]at hc;try contradiction))|skip))
 rw[kn];rfl
theorem Co (n : Int) (r : Rw) (hr : r.terms.length ≤ 1000000000) : aq ctx 91 [.agg [ar r.terms, .int .i64 r.bound], .int .i64 n] (.bool (cN n r)) := by
  obtain ⟨ts, bd⟩ := r
  unfold cN
  simp only at hr ⊢
  generalize hq : dM n (-1) ts = q
  have f1 := fG ts
  refine an (C := ctx) (Fn.of Jw rfl) rfl ?_
  unfold c91
  repeat' (first
    | ((with_reducible first | show az _ | show aB _); simp [vb] <;> omega)
    | exact (rfl : some _ = _)
    | (
      fail_if_success refine aK ?_
      refine bG ?_
      repeat1' dsimp only [c91, ar, go_sem]
      first
      | refine aL ?_ ?_ rfl ?_
      | apply aM
      | apply aN
      | (refine aO (fun hc => ?_) fun hc => ?_ <;> first | (cases hc; done) | (exfalso; simp at hc <;> omega) | (try simp only [bn] at hc; try contradiction))
      | skip))
  refine dD (σ := Nat × Int) (fun s => s.1 ≤ ts.length ∧ dM n s.2 (ts.drop s.1) = q) (fun s => [(1, .pv (.int .i64 n)), (2, .ptr 0 0 0), (5, .pv (.int .i64 s.2)), (6, .pv (.int .i64 s.1))]) (fun _ => [⟨[.pv (ar ts), .pv (.int .i64 bd)], 0, 2, 62, false⟩]) (fun s => ts.length - s.1) (0, -1) ⟨Nat.zero_le _, hq⟩ (by (repeat' (first | exact trivial | refine And.intro (by first | rfl | (simp [get, Nat.beq]; done) | (simp [get, Nat.beq]; omega) | (dsimp only [get]; congr 1 <;> first | rfl | omega | (simp; done) | (simp; omega))) ?_))) ⟨[], rfl⟩ (fun _ _ => ⟨Nat.zero_le _, rfl, rfl⟩) fun s hP => ?_
  obtain ⟨k, last⟩ := s
  obtain ⟨p1, p2⟩ := hP
  simp only at p1 p2
  by_cases hlt : k < ts.length
  · have e := bQ kO ts k zm hlt
    rw [dR ts k zm hlt, dM] at p2
    generalize ts.getD k zm = x at *
    have hin := rC x.fac (-1000) 1000
    generalize hq2 : dM n x.cell (ts.drop (k + 1)) = q2 at *
    generalize aC x.fac (-1000) 1000 = qi at *
    repeat' (first
      | ((with_reducible show az _); first | exact True.intro | (simp only [vb, lb, e, f1, hlt, gZ, hin]; and_intros <;> first | omega | (simp <;> omega)))
      | ((with_reducible show aB _); first | exact True.intro | ((try dsimp only [go_sem]); (simp [vb, e, f1, hlt, gZ, hin] <;> omega)))
      | exact (rfl : some _ = _)
      | (
        fail_if_success refine aK ?_
        refine aV [(90, fun _ => some (.bool qi))] [ξ 19 (.agg [.int .i64 x.cell, .int .i64 x.fac])] ?_
        repeat1' dsimp only [c91, ar, go_sem]
        first
        | refine aL ?_ ?_ rfl ?_
        | apply aM
        | apply aN
        | (refine aO (fun hc => ?_) fun hc => ?_ <;> first | (cases hc; done) | (exfalso; (simp at hc <;> omega)) | (try simp only [bn] at hc; try contradiction))
        | skip))
    all_goals first
      | (rw [← p2, show (decide (last < x.cell) && decide (x.cell < n) && decide (x.fac ≠ 0) && qi) = false from by
          rw [Bool.eq_false_iff]
          simp only [ne_eq, Bool.and_eq_true, decide_eq_true_eq]
          rintro ⟨⟨⟨a1, a2⟩, a3⟩, a4⟩
          subst a4
          simp at hc
          omega]; rfl)
      | (
        refine ⟨(k + 1, x.cell), by show ts.length - (k + 1) < ts.length - k; omega, ⟨by show k + 1 ≤ _; omega, ?_⟩, by (repeat' (first | exact trivial | refine And.intro (by first | rfl | (simp [get, Nat.beq]; done) | (simp [get, Nat.beq]; omega) | (dsimp only [get]; congr 1 <;> first | rfl | omega | (simp; done) | (simp; omega))) ?_)), _, rfl⟩
        show dM n x.cell (ts.drop (k + 1)) = q
        obtain ⟨⟨⟨a1, a2⟩, a3⟩, a4⟩ := hc
        rw [hq2, ← p2, show (decide (last < x.cell) && decide (x.cell < n) && decide (x.fac ≠ 0) && qi) = true from by
         simp only [ne_eq, Bool.and_eq_true, decide_eq_true_eq]
         exact ⟨⟨⟨by omega, by omega⟩, a3⟩, a4⟩, Bool.true_and])
  obtain rfl : k = ts.length := by omega
  rw [List.drop_length, dM] at p2
  subst p2
  have hin := rC bd (-1000000000) 1000000000
  generalize aC bd (-1000000000) 1000000000 = qi at *
  repeat' (first
    | ((with_reducible show az _); first | exact True.intro | (simp only [vb, lb, hlt, hin]; and_intros <;> first | omega | (simp <;> omega)))
    | ((with_reducible show aB _); first | exact True.intro | ((try dsimp only [go_sem]); (simp [vb, hlt, hin] <;> omega)))
    | exact (rfl : some _ = _)
    | (
      fail_if_success refine aK ?_
      refine du [(90, fun _ => some (.bool qi))] ?_
      repeat1' dsimp only [c91, ar, go_sem]
      first
      | refine aL ?_ ?_ rfl ?_
      | apply aM
      | apply aN
      | (refine aO (fun hc => ?_) fun hc => ?_ <;> first | (cases hc; done) | (exfalso; (simp at hc <;> omega)) | (try simp only [bn] at hc; try contradiction))
      | skip))
theorem jn (b:List Rg) (l:List Rw) (hb:b.length≤1000000000) (hl:l.length≤1000000000) (ht:∀r∈l,r.terms.length≤1000000000):aq ctx 60 [aa b,ae l] (.bool (dN b l)):=by
 have f1:=bJ b;have f2:=da l;unfold dN bp;by_cases h0:b.length≤128
 ·rw[decide_eq_true h0,Bool.and_true];refine an (C:=ctx) (Fn.of Iq rfl) rfl ?_;unfold F0;repeat' (first|((with_reducible first|show az _|show aB _);simp[vb,h0]<;>omega)|exact(rfl:some _=_)|((fail_if_success refine aK ?_);refine bG ?_;(repeat1' dsimp only[F0,aa,ae,go_sem]);first|refine aL ?_ ?_ rfl ?_|apply aM|apply aN|(refine aO (fun hc=>?_) fun hc=>?_<;>first|(cases hc;done)|(exfalso;simp[h0]at hc<;>omega)|(try simp only[bn]at hc;try contradiction))|skip))
  refine a7 b.length (fun k=>(b.take k).all kW=true) (fun k=>[(0,.pv (aa b)),(1,.pv (ae l)),(5,.pv (.int .i64 k))]) (fun _=>[]) rfl (by (repeat' (first|exact trivial|refine And.intro (by first|rfl|(simp[get,Nat.beq]<;>omega)|(dsimp only[get];congr 1<;>first|rfl|omega|(simp<;>omega))) ?_))) ⟨[],rfl⟩ (fun _=>⟨Nat.zero_le _,rfl,rfl⟩) fun k hk hP=>?_
  by_cases hlt:k<b.length
  ·have e1:=nB b k hlt;have e2:(b.flatMap bS)[k*2+1]?.getD default= .int .i64 (b.getD k zr).hi:=by rw[bK ia b k zr 1 hlt (by omega)];rfl
   have i1:=eB kW b k zr hlt;have i2:=lZ kW b k zr hlt;rw[i1,hP,Bool.true_and];clear i1;unfold kW at i2 ⊢;generalize b.getD k zr=x at *;have h1:=rC x.lo (-1000000) 1000000;have h2:=rC x.hi (-1000000) 1000000;generalize aC x.lo (-1000000) 1000000=q1 at *;generalize aC x.hi (-1000000) 1000000=q2 at *;repeat' (first|((with_reducible show az _);first|exact True.intro|(simp only[vb,lb,e1,e2,f1,hlt,h1,h2];and_intros<;>first|omega|(simp<;>omega)))|((with_reducible show aB _);first|exact True.intro|((try dsimp only[go_sem]);(simp only[vb,and_true,true_implies];(repeat' (first|(with_reducible assumption)|(with_reducible apply And.intro)|intro _|((fail_if_success (with_reducible show(_:Int)≤_));assumption)))<;>first|omega|(simp only[ab,e1,e2,f1,hlt,h1,h2];done)|(simp_all;done))))|exact(rfl:some _=_)|((fail_if_success refine aK ?_);refine bw [ξ 20 (.int .i64 x.lo),ξ 21 (.bool q1),ξ 28 (.int .i64 x.hi),ξ 29 (.bool q2)] ?_;(repeat1' dsimp only[F0,aa,ae,go_sem]);first|refine aL ?_ ?_ rfl ?_|apply aM|apply aN|(refine aO (fun hc=>?_) fun hc=>?_<;>first|(cases hc;done)|(exfalso;(simp at hc<;>omega))|(try simp only[bn]at hc;try contradiction))|skip))
   ·rw[i2 (by rcases hc with h|h<;>rw[h]<;>simp)];rfl
   exact⟨hlt,by rw[hc.1,hc.2];rfl,by (repeat' (first|exact trivial|refine And.intro (by first|rfl|(simp[get,Nat.beq]<;>omega)|(dsimp only[get];congr 1<;>first|rfl|omega|(simp<;>omega))) ?_)),_,rfl⟩
  obtain rfl:k=b.length:=by omega
  rw[List.take_length]at hP;rw[hP,Bool.true_and];repeat' (first|((with_reducible show az _);exact True.intro)|((with_reducible show aB _);exact True.intro)|exact(rfl:some _=_)|((fail_if_success refine aK ?_);refine bG ?_;(repeat1' dsimp only[F0,aa,ae,go_sem]);first|refine aL ?_ ?_ rfl ?_|apply aM|apply aN|(refine aO (fun hc=>?_) fun hc=>?_<;>first|(cases hc;done)|(exfalso;(simp at hc<;>omega))|(try simp only[bn]at hc;try contradiction))|skip))
  refine a7 l.length (fun k=>(l.take k).all (cN b.length)=true) (fun k=>[(0,.pv (aa b)),(1,.pv (ae l)),(6,.pv (.int .i64 k))]) (fun _=>[]) rfl (by (repeat' (first|exact trivial|refine And.intro (by first|rfl|(simp[get,Nat.beq]<;>omega)|(dsimp only[get];congr 1<;>first|rfl|omega|(simp<;>omega))) ?_))) ⟨[],rfl⟩ (fun _=>⟨Nat.zero_le _,rfl,rfl⟩) fun k hk hP=>?_
  by_cases hlt:k<l.length
  ·have e:=bQ ib l k zw hlt;have i1:=eB (cN b.length) l k zw hlt;have i2:=lZ (cN b.length) l k zw hlt;have hx:=Co b.length (l.getD k zw) (ht _ (aQ hlt));rw[i1,hP,Bool.true_and];clear i1;generalize l.getD k zw=x at *;generalize cN b.length x=qx at *;unfold ar at hx;repeat' (first|((with_reducible show az _);first|exact True.intro|(simp only[vb,lb,e,f2,hlt,hx,cg,ar];and_intros<;>first|omega|(simp<;>omega)))|((with_reducible show aB _);first|exact True.intro|((try dsimp only[go_sem]);(simp[vb,e,f2,hlt,hx,cg,ar]<;>omega)))|exact(rfl:some _=_)|((fail_if_success refine aK ?_);refine aV [(91,fun _=>some (.bool qx))] [ξ 41 (.agg [.sl x.terms.length (x.terms.flatMap gZ),.int .i64 x.bound])] ?_;(repeat1' dsimp only[F0,aa,ae,go_sem]);first|refine aL ?_ ?_ rfl ?_|apply aM|apply aN|(refine aO (fun hc=>?_) fun hc=>?_<;>first|(cases hc;done)|(exfalso;(simp at hc<;>omega))|(try simp only[bn]at hc;try contradiction))|skip))
   ·rw[i2 hc]
   exact⟨hlt,hc,by (repeat' (first|exact trivial|refine And.intro (by first|rfl|(simp[get,Nat.beq]<;>omega)|(dsimp only[get];congr 1<;>first|rfl|omega|(simp<;>omega))) ?_)),_,rfl⟩
  obtain rfl:k=l.length:=by omega
  rw[List.take_length]at hP;repeat' (first|((with_reducible show az _);exact True.intro)|((with_reducible show aB _);exact True.intro)|exact(rfl:some _=_)|((fail_if_success refine aK ?_);refine bG ?_;(repeat1' dsimp only[F0,aa,ae,go_sem]);first|refine aL ?_ ?_ rfl ?_|apply aM|apply aN|(refine aO (fun hc=>?_) fun hc=>?_<;>first|(cases hc;done)|(exfalso;(simp at hc<;>omega))|(try simp only[bn]at hc;try contradiction))|skip))
  rw[hP]
 rw[decide_eq_false h0];refine an (C:=ctx) (Fn.of Iq rfl) rfl ?_;unfold F0;repeat' (first|((with_reducible first|show az _|show aB _);simp[vb,h0]<;>omega)|exact(rfl:some _=_)|((fail_if_success refine aK ?_);refine bG ?_;(repeat1' dsimp only[F0,aa,ae,go_sem]);first|refine aL ?_ ?_ rfl ?_|apply aM|apply aN|(refine aO (fun hc=>?_) fun hc=>?_<;>first|(cases hc;done)|(exfalso;simp[h0]at hc<;>omega)|(try simp only[bn]at hc;try contradiction))|skip))
 simp
theorem qS (b:List Rg) (hb:b.length≤1000000000):aq ctx 61 [aa b] (.bool (bO b)):=by
 have f1:=bJ b;unfold bO;refine an (C:=ctx) (Fn.of Jx rfl) rfl ?_;unfold Ir;repeat' (first|((with_reducible first|show az _|show aB _);simp[vb]<;>omega)|exact(rfl:some _=_)|((fail_if_success refine aK ?_);refine bG ?_;(repeat1' dsimp only[Ir,aa,go_sem]);first|refine aL ?_ ?_ rfl ?_|apply aM|apply aN|(refine aO (fun hc=>?_) fun hc=>?_<;>first|(cases hc;done)|(exfalso;simp at hc<;>omega)|(try simp only[bn]at hc;try contradiction))|skip))
 refine a7 b.length (fun k=>(b.take k).any cA=false) (fun k=>[(0,.pv (aa b)),(3,.pv (.int .i64 k))]) (fun _=>[]) rfl (by (repeat' (first|exact trivial|refine And.intro (by first|rfl|(simp[get,Nat.beq]<;>omega)|(dsimp only[get];congr 1<;>first|rfl|omega|(simp<;>omega))) ?_))) ⟨[],rfl⟩ (fun _=>⟨Nat.zero_le _,rfl,rfl⟩) fun k hk hP=>?_
 by_cases hlt:k<b.length
 ·have e1:=nB b k hlt;have e2:(b.flatMap bS)[k*2+1]?.getD default= .int .i64 (b.getD k zr).hi:=by rw[bK ia b k zr 1 hlt (by omega)];rfl
  have hm:=aQ (d:=zr) hlt;have i1:=aH b k zr hlt;generalize b.getD k zr=x at *;repeat' (first|((with_reducible show az _);first|exact True.intro|(simp only[vb,lb,e1,e2,f1,hlt];and_intros<;>first|omega|(simp<;>omega)))|((with_reducible show aB _);first|exact True.intro|((try dsimp only[go_sem]);(simp only[vb,and_true,true_implies];(repeat' (first|(with_reducible assumption)|(with_reducible apply And.intro)|intro _|((fail_if_success (with_reducible show(_:Int)≤_));assumption)))<;>(simp only[ab,e1,e2,f1,hlt];done))))|exact(rfl:some _=_)|((fail_if_success refine aK ?_);refine bw [ξ 14 (.int .i64 x.lo),ξ 19 (.int .i64 x.hi)] ?_;(repeat1' dsimp only[Ir,aa,go_sem]);first|refine aL ?_ ?_ rfl ?_|apply aM|apply aN|(refine aO (fun hc=>?_) fun hc=>?_<;>first|(cases hc;done)|(exfalso;(simp at hc<;>omega))|(try simp only[bn]at hc;try contradiction))|skip))
  ·rw[List.any_eq_true.mpr ⟨x,hm,by simpa [cA]using hc⟩]
  exact⟨hlt,by rw[i1,List.any_append,hP];simpa [cA]using hc,by (repeat' (first|exact trivial|refine And.intro (by first|rfl|(simp[get,Nat.beq]<;>omega)|(dsimp only[get];congr 1<;>first|rfl|omega|(simp<;>omega))) ?_)),_,rfl⟩
 obtain rfl:k=b.length:=by omega
 rw[List.take_length]at hP;repeat' (first|((with_reducible show az _);exact True.intro)|((with_reducible show aB _);exact True.intro)|exact(rfl:some _=_)|((fail_if_success refine aK ?_);refine bG ?_;(repeat1' dsimp only[Ir,aa,go_sem]);first|refine aL ?_ ?_ rfl ?_|apply aM|apply aN|(refine aO (fun hc=>?_) fun hc=>?_<;>first|(cases hc;done)|(exfalso;(simp at hc<;>omega))|(try simp only[bn]at hc;try contradiction))|skip))
 rw[hP]
end
section
open Rf
def CD:av:=(⟨_,by conv=>(lhs;reduce;try simp only[G4,Int.cast_ofNat_Int,Int.reduceNegSucc,UInt8.reduceOfNat])⟩:{x // codeOf Tryz.prog 30 (fun _=>false)=some x}).1
theorem Jy:bo Tryz.prog 30 (fun _=>false)=some (CD,[.t 2],132,true):=by kernel_rfl
def c70:av:=(⟨_,by conv=>(lhs;reduce;try simp only[G4,Int.cast_ofNat_Int,Int.reduceNegSucc,UInt8.reduceOfNat])⟩:{x // codeOf Tryz.prog 70 (fun _=>false)=some x}).1
theorem HF:bo Tryz.prog 70 (fun _=>false)=some (c70,[.t 2],34,true):=by kernel_rfl
theorem iT (s:Sy) (hs:Ca s):aq ctx 30 [.agg [aa s.box,ae s.rows,ai s.graphs,ah s.cases]] (.bool (fC s)):=by
 have h1:=jn s.box s.rows hs.b hs.r hs.rt;have h2:=qS s.box hs.b;have hcv:=fun l hl=>jn s.box l hs.b (hs.cl l hl) (hs.ct l hl)
 have hgl:=hs.gl;have f1:=pj s.graphs;have f2:=kP s.cases;have hsg:=hs.g;have hsc:=hs.c;have hsb:=hs.b;have hsr:=hs.r;have e2:fC s=(decide (s.rows.length≤1024)&&decide (s.graphs.length≤64)&&decide (s.cases.length≤1024)&&dN s.box s.rows&& !bO s.box&&s.cases.all (fc s.box)&&s.graphs.all (bj s.box.length)):=by
  rw[fC];cases dN s.box s.rows<;>cases bO s.box<;>cases decide (s.rows.length≤1024)<;>cases decide (s.graphs.length≤64)<;>cases decide (s.cases.length≤1024)<;>cases s.cases.all (fc s.box)<;>cases s.graphs.all (bj s.box.length)<;>rfl
 rw[e2];clear e2;obtain⟨b,rs,gs,cs⟩:=s;simp only at *;clear hs;generalize bO b=q2 at *;generalize dN b rs=q1 at *;unfold aa at h1 h2 hcv;unfold ae at h1 hcv;refine an (C:=ctx) (Fn.of Jy rfl) rfl ?_;unfold CD;repeat' (first|((with_reducible show az _);first|exact True.intro|(simp only[vb,lb,h1,h2];and_intros<;>first|omega|(simp<;>omega)))|((with_reducible show aB _);first|exact True.intro|((try dsimp only[go_sem]);(simp[vb,h1,h2]<;>omega)))|exact(rfl:some _=_)|((fail_if_success refine aK ?_);refine du [(60,fun _=>some (.bool q1)),(61,fun _=>some (.bool q2))] ?_;(repeat1' dsimp only[CD,aa,ae,ai,ah,go_sem]);first|refine aL ?_ ?_ rfl ?_|apply aM|apply aN|(refine aO (fun hc=>?_) fun hc=>?_<;>first|(cases hc;done)|(try simp only[bn]at hc;try contradiction))|skip))
 ·have hr:(decide (rs.length≤1024)&&decide (gs.length≤64)&&decide (cs.length≤1024)&&q1&& !q2)=false:=by
   rw[Bool.eq_false_iff];simp only[ne_eq,Bool.and_eq_true,decide_eq_true_eq,Bool.not_eq_true'];rintro⟨⟨⟨⟨a,b⟩,c⟩,d⟩,e⟩;subst d e;simp at hc;omega
  rw[hr];rfl
 have hr:(decide (rs.length≤1024)&&decide (gs.length≤64)&&decide (cs.length≤1024)&&q1&& !q2)=true:=by
  simp only[Bool.and_eq_true,decide_eq_true_eq,Bool.not_eq_true'];obtain⟨⟨⟨⟨a,b⟩,c⟩,d⟩,e⟩:=hc;exact⟨⟨⟨⟨by omega,by omega⟩,by omega⟩,d⟩,e⟩
 rw[hr,Bool.true_and];clear h1 h2 hc hr;refine a7 cs.length (fun k=>(cs.take k).all (fc b)=true) (fun k=>[(1,.ptr 0 0 0),(3,.pv (.int .i64 k))]) (fun _=>[⟨[.pv (aa b),.pv (ae rs),.pv (ai gs),.pv (ah cs)],0,4,36,false⟩]) rfl (by (repeat' (first|exact trivial|refine And.intro (by first|rfl|(simp[get,Nat.beq]<;>omega)|(dsimp only[get];congr 1<;>first|rfl|omega|(simp<;>omega))) ?_))) ⟨_,rfl⟩ (fun _=>⟨Nat.zero_le _,rfl,rfl⟩) fun k hk hP=>?_
 by_cases hlt:k<cs.length
 ·have e:=mj cs k hlt;have i1:=eB (fc b) cs k [] hlt;have i2:=lZ (fc b) cs k [] hlt;have hx:=hcv _ (aQ (d:=([]:List Rw)) hlt);rw[i1,hP,Bool.true_and];clear i1 hcv;unfold fc at i2 ⊢;generalize cs.getD k []=x at *;generalize dN b x=qx at *;by_cases hl:x.length≤64
  ·have hl':¬64<(x.length:Int):=by omega
   rw[decide_eq_true hl,Bool.true_and]at i2 ⊢;repeat' (first|((with_reducible show az _);first|exact True.intro|(simp only[vb,lb,e,f2,hlt,hl',hx];and_intros<;>first|omega|(simp<;>omega)))|((with_reducible show aB _);first|exact True.intro|((try dsimp only[go_sem]);(simp[vb,e,f2,hlt,hl',hx]<;>omega)))|exact(rfl:some _=_)|((fail_if_success refine aK ?_);refine aV [(60,fun _=>some (.bool qx))] [ξ 47 (.sl x.length (x.flatMap cg)),ξ 49 (.bool false),ξ 57 (.sl x.length (x.flatMap cg))] ?_;(repeat1' dsimp only[CD,aa,ae,ai,ah,go_sem]);first|refine aL ?_ ?_ rfl ?_|apply aM|apply aN|(refine aO (fun hc=>?_) fun hc=>?_<;>first|(cases hc;done)|(exfalso;(simp at hc<;>omega))|(try simp only[bn]at hc;try contradiction))|skip))
   ·rw[i2 hc];rfl
   exact⟨hlt,hc,by (repeat' (first|exact trivial|refine And.intro (by first|rfl|(simp[get,Nat.beq]<;>omega)|(dsimp only[get];congr 1<;>first|rfl|omega|(simp<;>omega))) ?_)),_,rfl⟩
  have hl':64<(x.length:Int):=by omega
  rw[decide_eq_false hl,Bool.false_and]at i2 ⊢;repeat' (first|((with_reducible show az _);first|exact True.intro|(simp only[vb,lb,e,f2,hlt,hl',hx];and_intros<;>first|omega|(simp<;>omega)))|((with_reducible show aB _);first|exact True.intro|((try dsimp only[go_sem]);(simp[vb,e,f2,hlt,hl',hx]<;>omega)))|exact(rfl:some _=_)|((fail_if_success refine aK ?_);refine aV [(60,fun _=>some (.bool qx))] [ξ 47 (.sl x.length (x.flatMap cg)),ξ 49 (.bool true),ξ 57 (.sl x.length (x.flatMap cg))] ?_;(repeat1' dsimp only[CD,aa,ae,ai,ah,go_sem]);first|refine aL ?_ ?_ rfl ?_|apply aM|apply aN|(refine aO (fun hc=>?_) fun hc=>?_<;>first|(cases hc;done)|(exfalso;(simp at hc<;>omega))|(try simp only[bn]at hc;try contradiction))|skip))
  rw[i2 rfl];rfl
 obtain rfl:k=cs.length:=by omega
 rw[List.take_length]at hP;rw[hP,Bool.true_and];clear hcv hP;repeat' (first|((with_reducible show az _);first|exact True.intro|(simp only[vb,lb,hlt];and_intros<;>first|omega|(simp<;>omega)))|((with_reducible show aB _);exact True.intro)|exact(rfl:some _=_)|((fail_if_success refine aK ?_);refine bG ?_;(repeat1' dsimp only[CD,aa,ae,ai,ah,go_sem]);first|refine aL ?_ ?_ rfl ?_|apply aM|apply aN|(refine aO (fun hc=>?_) fun hc=>?_<;>first|(cases hc;done)|(exfalso;(simp at hc<;>omega))|(try simp only[bn]at hc;try contradiction))|skip))
 refine a7 gs.length (fun k=>(gs.take k).all (bj b.length)=true) (fun k=>[(1,.ptr 0 0 0),(4,.pv (.int .i64 k))]) (fun _=>[⟨[.pv (aa b),.pv (ae rs),.pv (ai gs),.pv (ah cs)],0,4,36,false⟩]) rfl (by (repeat' (first|exact trivial|refine And.intro (by first|rfl|(simp[get,Nat.beq]<;>omega)|(dsimp only[get];congr 1<;>first|rfl|omega|(simp<;>omega))) ?_))) ⟨_,rfl⟩ (fun _=>⟨Nat.zero_le _,rfl,rfl⟩) fun k hk hP=>?_
 by_cases hlt:k<gs.length
 ·have e:=bQ l6 gs k zg hlt;have i1:=eB (bj b.length) gs k zg hlt;have i2:=lZ (bj b.length) gs k zg hlt;have hle:=hgl _ (aQ (d:=zg) hlt);rw[i1,hP,Bool.true_and];clear i1 hgl;generalize gs.getD k zg=x at *;obtain⟨fi,sz,le⟩:=x;unfold bj at i2 ⊢;simp only at i2 hle ⊢;have f3:=cO le;have e':List.take 3 (List.drop (k*3) (gs.flatMap jK))=[.int .i64 fi,.int .i64 sz,.sl le.length (le.flatMap aI)]:=e;by_cases h:1≤sz∧sz≤6
  ·obtain⟨q1,q2⟩:=nz h.1 h.2;rw[show aC sz 1 6=true by simp[aC,h],Bool.true_and]at i2 ⊢;by_cases h2:0≤fi∧fi≤b.length-sz*sz∧(le.length:Int)=sz*sz
   ·rw[decide_eq_true h2.1,decide_eq_true h2.2.1,decide_eq_true h2.2.2,Bool.true_and,Bool.true_and,Bool.true_and]at i2 ⊢;repeat' (first|((with_reducible show az _);first|exact True.intro|(simp only[vb,lb,e',f1,hlt,h,h2,q1,q2];and_intros<;>first|omega|(simp<;>omega)))|((with_reducible show aB _);first|exact True.intro|((try dsimp only[go_sem]);(simp[vb,e',f1,hlt,h,h2,q1,q2]<;>omega)))|exact(rfl:some _=_)|((fail_if_success refine aK ?_);refine bw [ξ 72 (.agg [.int .i64 fi,.int .i64 sz,.sl le.length (le.flatMap aI)])] ?_;(repeat1' dsimp only[CD,aa,ae,ai,ah,go_sem]);first|refine aL ?_ ?_ rfl ?_|apply aM|apply aN|(refine aO (fun hc=>?_) fun hc=>?_<;>first|(cases hc;done)|(exfalso;(simp at hc<;>omega))|(try simp only[bn]at hc;try contradiction))|skip))
    refine a7 le.length (fun j=>(le.take j).all fv=true) (fun j=>[(1,.ptr 0 0 0),(4,.pv (.int .i64 k)),(5,.ptr 1 0 0),(6,.pv (.int .i64 j))]) (fun _=>[⟨[.pv (aa b),.pv (ae rs),.pv (ai gs),.pv (ah cs)],0,4,36,false⟩,⟨[.pv (.int .i64 fi),.pv (.int .i64 sz),.pv (au le)],0,3,99,false⟩]) rfl (by (repeat' (first|exact trivial|refine And.intro (by first|rfl|(simp[get,Nat.beq]<;>omega)|(dsimp only[get];congr 1<;>first|rfl|omega|(simp<;>omega))) ?_))) ⟨_,rfl⟩ (fun _=>⟨Nat.zero_le _,rfl,rfl⟩) fun j hj hP2=>?_
    by_cases hlj:j<le.length
    ·have e3:=iP (g:=aI) (fun _=>rfl) le j 0 default hlj;have i3:=eB fv le j 0 hlj;have i4:=lZ fv le j 0 hlj;rw[i3,hP2,Bool.true_and];clear i3;generalize le.getD j 0=y at *;repeat' (first|((with_reducible show az _);first|exact True.intro|(simp only[vb,lb,e3,f3,hlj];and_intros<;>first|omega|(simp<;>omega)))|((with_reducible show aB _);first|exact True.intro|((try dsimp only[go_sem]);(simp only[vb,and_true,true_implies];(repeat' (first|(with_reducible assumption)|(with_reducible apply And.intro)|intro _|((fail_if_success (with_reducible show(_:Int)≤_));assumption)))<;>first|omega|(simp only[ab,e3,f3,hlj];done)|(simp_all;done))))|exact(rfl:some _=_)|((fail_if_success refine aK ?_);refine bw [ξ 122 (.int .i64 y),ξ 129 (.int .i64 y)] ?_;(repeat1' dsimp only[CD,aa,ae,ai,ah,au,go_sem]);first|refine aL ?_ ?_ rfl ?_|apply aM|apply aN|(refine aO (fun hc=>?_) fun hc=>?_<;>first|(cases hc;done)|(exfalso;(simp at hc<;>omega))|(try simp only[bn]at hc;try contradiction))|skip))
     ·rw[i2 (i4 (by
       rw[Bool.eq_false_iff];simp only[fv,aC,ne_eq,Bool.and_eq_true,decide_eq_true_eq];omega))]
     exact⟨hlj,by simp only[fv,aC,Bool.and_eq_true,decide_eq_true_eq];omega,by (repeat' (first|exact trivial|refine And.intro (by first|rfl|(simp[get,Nat.beq]<;>omega)|(dsimp only[get];congr 1<;>first|rfl|omega|(simp<;>omega))) ?_)),_,rfl⟩
    obtain rfl:j=le.length:=by omega
    rw[List.take_length]at hP2;repeat' (first|((with_reducible show az _);(simp only[vb,lb,hlj];and_intros<;>first|omega|(simp<;>omega)))|((with_reducible show aB _);exact True.intro)|exact(rfl:some _=_)|((fail_if_success refine aK ?_);refine bG ?_;(repeat1' dsimp only[CD,aa,ae,ai,ah,au,go_sem]);first|refine aL ?_ ?_ rfl ?_|apply aM|apply aN|(refine aO (fun hc=>?_) fun hc=>?_<;>first|(cases hc;done)|(exfalso;(simp at hc<;>omega))|(try simp only[bn]at hc;try contradiction))|skip))
    exact⟨hlt,hP2,by (repeat' (first|exact trivial|refine And.intro (by first|rfl|(simp[get,Nat.beq]<;>omega)|(dsimp only[get];congr 1<;>first|rfl|omega|(simp<;>omega))) ?_)),_,rfl⟩
   have hr:(decide (0≤fi)&&decide (fi≤b.length-sz*sz)&&decide ((le.length:Int)=sz*sz))=false:=by
    rw[Bool.eq_false_iff];simp only[ne_eq,Bool.and_eq_true,decide_eq_true_eq];omega
   rw[hr,Bool.false_and]at i2 ⊢;repeat' (first|((with_reducible show az _);first|exact True.intro|(simp only[vb,lb,e',f1,hlt,h,h2,q1,q2];and_intros<;>first|omega|(simp<;>omega)))|((with_reducible show aB _);first|exact True.intro|((try dsimp only[go_sem]);(simp[vb,e',f1,hlt,h,h2,q1,q2]<;>omega)))|exact(rfl:some _=_)|((fail_if_success refine aK ?_);refine bw [ξ 72 (.agg [.int .i64 fi,.int .i64 sz,.sl le.length (le.flatMap aI)])] ?_;(repeat1' dsimp only[CD,aa,ae,ai,ah,go_sem]);first|refine aL ?_ ?_ rfl ?_|apply aM|apply aN|(refine aO (fun hc=>?_) fun hc=>?_<;>first|(cases hc;done)|(exfalso;(simp at hc<;>omega))|(try simp only[bn]at hc;try contradiction))|skip))
   all_goals rw[i2 rfl]
  rw[show aC sz 1 6=false by simp[aC];omega]at i2 ⊢;repeat' (first|((with_reducible show az _);first|exact True.intro|(simp only[vb,lb,e',f1,hlt,h];and_intros<;>first|omega|(simp<;>omega)))|((with_reducible show aB _);first|exact True.intro|((try dsimp only[go_sem]);(simp[vb,e',f1,hlt,h]<;>omega)))|exact(rfl:some _=_)|((fail_if_success refine aK ?_);refine bw [ξ 72 (.agg [.int .i64 fi,.int .i64 sz,.sl le.length (le.flatMap aI)])] ?_;(repeat1' dsimp only[CD,aa,ae,ai,ah,go_sem]);first|refine aL ?_ ?_ rfl ?_|apply aM|apply aN|(refine aO (fun hc=>?_) fun hc=>?_<;>first|(cases hc;done)|(exfalso;(simp at hc<;>omega))|(try simp only[bn]at hc;try contradiction))|skip))
  all_goals rw[i2 rfl]
 obtain rfl:k=gs.length:=by omega
 rw[List.take_length]at hP;rw[hP];repeat' (first|((with_reducible show az _);first|exact True.intro|(simp only[vb,lb,hlt];and_intros<;>first|omega|(simp<;>omega)))|((with_reducible show aB _);exact True.intro)|exact(rfl:some _=_)|((fail_if_success refine aK ?_);refine bG ?_;(repeat1' dsimp only[CD,aa,ae,ai,ah,go_sem]);first|refine aL ?_ ?_ rfl ?_|apply aM|apply aN|(refine aO (fun hc=>?_) fun hc=>?_<;>first|(cases hc;done)|(exfalso;(simp at hc<;>omega))|(try simp only[bn]at hc;try contradiction))|skip))
def uM:List Rg→Int→Int
 |[],n=>n
 |r::l,n=>uM l (min (n*(r.hi-r.lo+1)) 1073741824)
def rD (b:List Rg):Int:=if bp b=true∧bO b=false then uM b 1 else 0
theorem nG (b:List Rg) (hb:b.length≤1000000000):aq ctx 60 [aa b,.nilsl] (.bool (bp b)):=by
 have h:=jn b [] hb (by simp) (by simp);rw[show dN b []=bp b by simp[dN]]at h;refine aq.oy 1 ?_;have e:∀l:List PV,l.map (canon 0)=l:=fun l=>by rw[show canon 0=id from funext fun _=>by simp[canon]];simp
 simpa [canon,aa,ae,e]using h
theorem Cp (b:List Rg) (hb:b.length≤1000000000):aq ctx 70 [aa b] (.int .i64 (rD b)):=by
 have h1:=nG b hb;have h2:=qS b hb;have f1:=bJ b;have hbx:=fun (h:bp b=true) k=>iQ (cQ h k)
 have hem:bO b=false→∀k,k<b.length→(b.getD k zr).lo≤(b.getD k zr).hi:=fun h k hk=>by
  have:=List.any_eq_false.mp h _ (aQ (d:=zr) hk);simpa [cA]using this
 unfold rD;unfold aa at h1 h2;generalize bp b=q1 at *;generalize bO b=q2 at *;by_cases hc:q1=true∧q2=false
 ·obtain⟨rfl,rfl⟩:=hc;rw[if_pos ⟨rfl,rfl⟩];generalize hr:uM b 1=r;refine an (C:=ctx) (Fn.of HF rfl) rfl ?_;unfold c70;repeat' (first|((with_reducible show az _);exact True.intro)|((with_reducible show aB _);first|exact True.intro|((try dsimp only[go_sem]);(simp[vb,h1,h2]<;>omega)))|exact(rfl:some _=_)|((fail_if_success refine aK ?_);refine du [(60,fun _=>some (.bool true)),(61,fun _=>some (.bool false))] ?_;(repeat1' dsimp only[c70,aa,go_sem]);first|refine aL ?_ ?_ rfl ?_|apply aM|apply aN|(refine aO (fun hc=>?_) fun hc=>?_<;>first|(cases hc;done)|(try simp only[bn]at hc;try contradiction))|skip))
  refine dD (σ:=Nat×Int) (fun s=>s.1≤b.length∧uM (b.drop s.1) s.2=r∧0≤s.2∧s.2≤1073741824) (fun s=>[(0,.pv (aa b)),(3,.pv (.int .i64 s.2)),(4,.pv (.int .i64 s.1))]) (fun _=>[]) (fun s=>b.length-s.1) (0,1) ⟨Nat.zero_le _,hr,by decide,by decide⟩ (by (repeat' (first|exact trivial|refine And.intro (by first|rfl|(simp[get,Nat.beq]<;>omega)|(dsimp only[get];congr 1<;>first|rfl|omega|(simp<;>omega))) ?_))) ⟨[],rfl⟩ (fun _ _=>⟨Nat.zero_le _,rfl,rfl⟩) fun s hP=>?_
  obtain⟨k,n⟩:=s;obtain⟨p1,p2,p3,p4⟩:=hP;simp only at p1 p2 p3 p4;by_cases hlt:k<b.length
  ·have e1:=nB b k hlt;have e2:(b.flatMap bS)[k*2+1]?.getD default= .int .i64 (b.getD k zr).hi:=by rw[bK ia b k zr 1 hlt (by omega)];rfl
   have g1:=hbx rfl k;have g2:=hem rfl k hlt;rw[dR b k zr hlt,uM]at p2;clear hbx hem;generalize b.getD k zr=x at *;obtain⟨d,hd⟩:∃d:Int,x.hi-x.lo+1=d:=⟨_,rfl⟩
   have hm:0≤n*d∧n*d≤1073741824*3000000:=⟨Int.mul_nonneg p3 (by omega),Int.mul_le_mul p4 (by omega) (by omega) (by omega)⟩
   rw[hd]at p2;repeat' (first|((with_reducible show az _);first|exact True.intro|(simp only[vb,lb,e1,e2,f1,hlt,hd];and_intros<;>first|omega|(simp<;>omega)))|((with_reducible show aB _);first|exact True.intro|((try dsimp only[go_sem]);(simp only[vb,and_true,true_implies];(repeat' (first|(with_reducible assumption)|(with_reducible apply And.intro)|intro _|((fail_if_success (with_reducible show(_:Int)≤_));assumption)))<;>(simp only[ab,e1,e2,f1,hlt,hd];done))))|exact(rfl:some _=_)|((fail_if_success refine aK ?_);refine bw [ξ 23 (.int .i64 x.hi),ξ 28 (.int .i64 x.lo),ξ 30 (.int .i64 d)] ?_;(repeat1' dsimp only[c70,aa,go_sem]);first|refine aL ?_ ?_ rfl ?_|apply aM|apply aN|(refine aO (fun hc=>?_) fun hc=>?_<;>first|(cases hc;done)|(exfalso;(simp at hc<;>omega))|(try simp only[bn]at hc;try contradiction))|skip))
   rw[jm];exact⟨(k+1,min (n*d) 1073741824),by show b.length-(k+1)<b.length-k;omega,⟨by show k+1≤_;omega,p2,by show 0≤min (n*d) 1073741824;omega,by show min (n*d) 1073741824≤_;omega⟩,by (repeat' (first|exact trivial|refine And.intro (by first|rfl|(simp[get,Nat.beq]<;>omega)|(dsimp only[get];congr 1<;>first|rfl|omega|(simp<;>omega))) ?_)),_,rfl⟩
  obtain rfl:k=b.length:=by omega
  rw[List.drop_length,uM]at p2;subst p2;repeat' (first|((with_reducible show az _);exact True.intro)|((with_reducible show aB _);exact True.intro)|exact(rfl:some _=_)|((fail_if_success refine aK ?_);refine bG ?_;(repeat1' dsimp only[c70,aa,go_sem]);first|refine aL ?_ ?_ rfl ?_|apply aM|apply aN|(refine aO (fun hc=>?_) fun hc=>?_<;>first|(cases hc;done)|(exfalso;(simp at hc<;>omega))|(try simp only[bn]at hc;try contradiction))|skip))
 rw[if_neg hc];cases q1 with
 |false =>
  refine an (C:=ctx) (Fn.of HF rfl) rfl ?_;unfold c70;repeat' (first|((with_reducible show az _);exact True.intro)|((with_reducible show aB _);first|exact True.intro|((try dsimp only[go_sem]);(simp[vb,h1,h2]<;>omega)))|exact(rfl:some _=_)|((fail_if_success refine aK ?_);refine du [(60,fun _=>some (.bool false)),(61,fun _=>some (.bool q2))] ?_;(repeat1' dsimp only[c70,aa,go_sem]);first|refine aL ?_ ?_ rfl ?_|apply aM|apply aN|(refine aO (fun hc=>?_) fun hc=>?_<;>first|(cases hc;done)|(try simp only[bn]at hc;try contradiction))|skip))
 |true =>
  cases q2 with
  |false=>exact absurd ⟨rfl,rfl⟩ hc
  |true =>
   refine an (C:=ctx) (Fn.of HF rfl) rfl ?_;unfold c70;repeat' (first|((with_reducible show az _);exact True.intro)|((with_reducible show aB _);first|exact True.intro|((try dsimp only[go_sem]);(simp[vb,h1,h2]<;>omega)))|exact(rfl:some _=_)|((fail_if_success refine aK ?_);refine du [(60,fun _=>some (.bool true)),(61,fun _=>some (.bool true))] ?_;(repeat1' dsimp only[c70,aa,go_sem]);first|refine aL ?_ ?_ rfl ?_|apply aM|apply aN|(refine aO (fun hc=>?_) fun hc=>?_<;>first|(cases hc;done)|(try simp only[bn]at hc;try contradiction))|skip))
end
section
open Rf
def It:av:=(⟨_,by conv=>(lhs;reduce;try simp only[G4,Int.cast_ofNat_Int,Int.reduceNegSucc,UInt8.reduceOfNat])⟩:{x // codeOf Tryz.prog 45 (fun _=>false)=some x}).1
theorem Jz:bo Tryz.prog 45 (fun _=>false)=some (It,[.t 4],52,true):=by kernel_rfl
def c21:av:=(⟨_,by conv=>(lhs;reduce;try simp only[G4,Int.cast_ofNat_Int,Int.reduceNegSucc,UInt8.reduceOfNat])⟩:{x // codeOf Tryz.prog 21 (fun _=>false)=some x}).1
theorem Iu:bo Tryz.prog 21 (fun _=>false)=some (c21,[.t 4],32,true):=by kernel_rfl
def HR:av:=(⟨_,by conv=>(lhs;reduce;try simp only[G4,Int.cast_ofNat_Int,Int.reduceNegSucc,UInt8.reduceOfNat])⟩:{x // codeOf Tryz.prog 34 (fun d=>Nat.beq d 9)=some x}).1
theorem JA:bo Tryz.prog 34 (fun d=>Nat.beq d 9)=some (HR,[.t 6],31,true):=by kernel_rfl
def F3 (s:Sy) (most:Int):Bool:=(((decide (s.box.length≤12)&&decide (s.rows.length≤30))&&decide (s.graphs.length≤6))&&decide (s.cases.length≤12))&&fC s&&s.cases.all (fun l=>decide (l.length≤8))&&decide (rD s.box≤most)
theorem Ef (s:Sy) (hs:Ca s) (most:Int):aq ctx 45 [.agg [aa s.box,ae s.rows,ai s.graphs,ah s.cases],.int .i64 most] (.bool (F3 s most)):=by
 have h1:=iT s hs;have h2:=Cp s.box hs.b;have f2:=kP s.cases;have hb:=hs.b;have hr:=hs.r;have hg:=hs.g;have hc':=hs.c;have hcl:=hs.cl;unfold F3;generalize fC s=q at *;generalize rD s.box=z at *;obtain⟨b,rs,gs,cs⟩:=s;simp only at *;clear hs;unfold aa at h2;unfold aa ae ai ah at h1;refine an (C:=ctx) (Fn.of Jz rfl) rfl ?_;unfold It;repeat' (first|((with_reducible show az _);first|exact True.intro|(simp only[vb,lb,h1];and_intros<;>first|omega|(simp<;>omega)))|((with_reducible show aB _);first|exact True.intro|((try dsimp only[go_sem]);(simp[vb,h1]<;>omega)))|exact(rfl:some _=_)|((fail_if_success refine aK ?_);refine du [(30,fun _=>some (.bool q))] ?_;(repeat1' dsimp only[It,aa,ae,ai,ah,go_sem]);first|refine aL ?_ ?_ rfl ?_|apply aM|apply aN|(refine aO (fun hc=>?_) fun hc=>?_<;>first|(cases hc;done)|(try simp only[bn]at hc;try contradiction))|skip))
 ·have hr:((((decide (b.length≤12)&&decide (rs.length≤30))&&decide (gs.length≤6))&&decide (cs.length≤12))&&q)=false:=by
   rw[Bool.eq_false_iff];simp only[ne_eq,Bool.and_eq_true,decide_eq_true_eq];rintro⟨⟨⟨⟨a,b⟩,c⟩,d⟩,e⟩;subst e;simp at hc;omega
  rw[hr];rfl
 have hr:((((decide (b.length≤12)&&decide (rs.length≤30))&&decide (gs.length≤6))&&decide (cs.length≤12))&&q)=true:=by
  simp only[Bool.and_eq_true,decide_eq_true_eq];obtain⟨⟨⟨⟨a,b⟩,c⟩,d⟩,e⟩:=hc;exact⟨⟨⟨⟨by omega,by omega⟩,by omega⟩,by omega⟩,e⟩
 rw[hr,Bool.true_and];refine a7 cs.length (fun k=>(cs.take k).all (fun l=>decide (l.length≤8))=true) (fun k=>[(1,.pv (.int .i64 most)),(2,.ptr 0 0 0),(5,.pv (.int .i64 k))]) (fun _=>[⟨[.pv (aa b),.pv (ae rs),.pv (ai gs),.pv (ah cs)],0,4,36,false⟩]) rfl (by (repeat' (first|exact trivial|refine And.intro (by first|rfl|(simp[get,Nat.beq]<;>omega)|(dsimp only[get];congr 1<;>first|rfl|omega|(simp<;>omega))) ?_))) ⟨_,rfl⟩ (fun _=>⟨Nat.zero_le _,rfl,rfl⟩) fun k hk hP=>?_
 by_cases hlt:k<cs.length
 ·have e:=mj cs k hlt;have i1:=eB (fun l:List Rw=>decide (l.length≤8)) cs k [] hlt;have i2:=lZ (fun l:List Rw=>decide (l.length≤8)) cs k [] hlt;have hx:=hcl _ (aQ (d:=([]:List Rw)) hlt);rw[i1,hP,Bool.true_and];clear i1 hcl;generalize cs.getD k []=x at *;repeat' (first|((with_reducible show az _);first|exact True.intro|(simp only[vb,lb,e,f2,hlt];and_intros<;>first|omega|(simp<;>omega)))|((with_reducible show aB _);first|exact True.intro|((try dsimp only[go_sem]);(simp[vb,e,f2,hlt]<;>omega)))|exact(rfl:some _=_)|((fail_if_success refine aK ?_);refine bw [ξ 44 (.sl x.length (x.flatMap cg))] ?_;(repeat1' dsimp only[It,aa,ae,ai,ah,go_sem]);first|refine aL ?_ ?_ rfl ?_|apply aM|apply aN|(refine aO (fun hc=>?_) fun hc=>?_<;>first|(cases hc;done)|(exfalso;(simp at hc<;>omega))|(try simp only[bn]at hc;try contradiction))|skip))
  ·rw[i2 (decide_eq_false (by omega))];rfl
  exact⟨hlt,decide_eq_true (by omega),by (repeat' (first|exact trivial|refine And.intro (by first|rfl|(simp[get,Nat.beq]<;>omega)|(dsimp only[get];congr 1<;>first|rfl|omega|(simp<;>omega))) ?_)),_,rfl⟩
 obtain rfl:k=cs.length:=by omega
 rw[List.take_length]at hP;rw[hP,Bool.true_and];repeat' (first|((with_reducible show az _);first|exact True.intro|(simp only[vb,lb,hlt,h2];and_intros<;>first|omega|(simp<;>omega)))|((with_reducible show aB _);first|exact True.intro|((try dsimp only[go_sem]);(simp[vb,hlt,h2]<;>omega)))|exact(rfl:some _=_)|((fail_if_success refine aK ?_);refine du [(70,fun _=>some (.int .i64 z))] ?_;(repeat1' dsimp only[It,aa,ae,ai,ah,go_sem]);first|refine aL ?_ ?_ rfl ?_|apply aM|apply aN|(refine aO (fun hc=>?_) fun hc=>?_<;>first|(cases hc;done)|(exfalso;(simp at hc<;>omega))|(try simp only[bn]at hc;try contradiction))|skip))
def HG (s:Sy) (most:Int):Bool:=if fC s=true then F3 s most else ((decide ((s.box.length:Int)≤20)&&decide ((s.rows.length:Int)≤30))&&decide ((s.graphs.length:Int)≤6))&&decide ((s.cases.length:Int)≤12)
theorem HH (s:Sy) (hs:Ca s) (most:Int):aq ctx 21 [.agg [aa s.box,ae s.rows,ai s.graphs,ah s.cases],.int .i64 most] (.bool (HG s most)):=by
 have h1:=iT s hs;have h2:=Ef s hs most;have hb:=hs.b;have hr:=hs.r;have hg:=hs.g;have hc':=hs.c;unfold HG;generalize fC s=q at *;generalize F3 s most=z at *;obtain⟨b,rs,gs,cs⟩:=s;simp only at *;clear hs;unfold aa ae ai ah at h1 h2;cases q with
 |true =>
  refine an (C:=ctx) (Fn.of Iu rfl) rfl ?_;unfold c21;repeat' (first|((with_reducible show az _);first|exact True.intro|(simp only[vb,lb,h1,h2];and_intros<;>first|omega|(simp<;>omega)))|((with_reducible show aB _);first|exact True.intro|((try dsimp only[go_sem]);(simp[vb,h1,h2]<;>omega)))|exact(rfl:some _=_)|((fail_if_success refine aK ?_);refine du [(30,fun _=>some (.bool true)),(45,fun _=>some (.bool z))] ?_;(repeat1' dsimp only[c21,aa,ae,ai,ah,go_sem]);first|refine aL ?_ ?_ rfl ?_|apply aM|apply aN|(refine aO (fun hc=>?_) fun hc=>?_<;>first|(cases hc;done)|(try simp only[bn]at hc;try contradiction))|skip))
 |false =>
  refine an (C:=ctx) (Fn.of Iu rfl) rfl ?_;unfold c21;repeat' (first|((with_reducible show az _);first|exact True.intro|(simp only[vb,lb,h1];and_intros<;>first|omega|(simp<;>omega)))|((with_reducible show aB _);first|exact True.intro|((try dsimp only[go_sem]);(simp[vb,h1]<;>omega)))|exact(rfl:some _=_)|((fail_if_success refine aK ?_);refine du [(30,fun _=>some (.bool false))] ?_;(repeat1' dsimp only[c21,aa,ae,ai,ah,go_sem]);first|refine aL ?_ ?_ rfl ?_|apply aM|apply aN|(refine aO (fun hc=>?_) fun hc=>?_<;>first|(cases hc;done)|(try simp only[bn]at hc;try contradiction))|skip))
  simp only[kn];rfl
def n9 (b:List Rg) (c:Int) (r:Rg):List Rg:=if 0≤c then b.set c.toNat r else b
theorem zP (b:List Rg) (c:Int) (r:Rg) (k:Nat) (h:k<b.length):(n9 b c r).take (k+1)=(n9 b c r).take k++[if (k:Int)=c then r else b.getD k zr]:=by
 have hl:(n9 b c r).length=b.length:=by unfold n9;split<;>simp
 rw[aH _ k zr (by omega)];congr 2;unfold n9;by_cases hc:(k:Int)=c
 ·rw[if_pos hc,if_pos (by omega),←hc,Int.toNat_natCast];simp[List.getD,h]
 rw[if_neg hc];split
 ·rw[List.getD,List.getD,List.getElem?_set_ne (by omega)]
 rfl
theorem Cq (b:List Rg) (c:Int) (r:Rg):(n9 b c r).length=b.length:=by unfold n9;split<;>simp
theorem pF (b:List Rg) (c:Int) (r:Rg) (hb:b.length≤1000000000):aq ctx 34 [aa b,.int .i64 c,.agg [.int .i64 r.lo,.int .i64 r.hi]] (aa (n9 b c r)):=by
 have f1:=bJ b;have hst:=zP b c r;have hwl:=Cq b c r;generalize n9 b c r=w at *;refine an (C:=ctx) (Fn.of JA rfl) rfl ?_;unfold HR;repeat' (first|((with_reducible first|show az _|show aB _);simp[vb]<;>omega)|exact(rfl:some _=_)|((fail_if_success refine aK ?_);refine bG ?_;(repeat1' dsimp only[HR,aa,go_sem]);first|refine aL ?_ ?_ rfl ?_|apply aM|apply aN|(refine aO (fun hc=>?_) fun hc=>?_<;>first|(cases hc;done)|(exfalso;simp at hc<;>omega)|(try simp only[bn]at hc;try contradiction))|skip))
 refine a7 b.length (fun _=>True) (fun k=>[(0,.pv (aa b)),(1,.pv (.int .i64 c)),(5,.ptr 0 0 0),(7,.ref 1 k 0 k),(8,.pv (.int .i64 k))]) (fun k=>[⟨[.pv (.int .i64 r.lo),.pv (.int .i64 r.hi)],0,2,57,false⟩,⟨((w.take k).flatMap bS).map .pv,k,2,57,false⟩]) trivial (by (repeat' (first|exact trivial|refine And.intro (by first|rfl|(simp[get,Nat.beq]<;>omega)|(dsimp only[get];congr 1<;>first|rfl|omega|(simp<;>omega))) ?_))) ⟨[],rfl⟩ (fun _=>⟨Nat.zero_le _,rfl,by simp[aS,cZ]⟩) fun k hk _=>?_
 by_cases hlt:k<b.length
 ·have e:=bQ ia b k zr hlt;have f2:=bJ (w.take k);have hl:(w.take k).length=k:=by rw[List.length_take];omega
  have hs:=hst k hlt;rw[hl]at f2;rw[hs];clear hst hs;generalize b.getD k zr=x at *;generalize w.take k=v at *;by_cases hc:(k:Int)=c
  ·rw[if_pos hc];repeat' (first|((with_reducible show az _);first|exact True.intro|(simp only[vb,lb,f1,f2,hlt,hc];and_intros<;>first|omega|(simp<;>omega)))|((with_reducible show aB _);first|exact True.intro|((try dsimp only[go_sem]);(simp[vb,f1,f2,hlt,hc]<;>omega)))|exact(rfl:some _=_)|((fail_if_success refine aK ?_);refine bw [ξ 18 (.bool true),(22,{mode:=1})] ?_;(repeat1' dsimp only[HR,aa,go_sem]);first|refine aL ?_ ?_ rfl ?_|apply aM|apply aN|(refine aO (fun hc=>?_) fun hc=>?_<;>first|(cases hc;done)|(exfalso;(simp at hc<;>omega))|(try simp only[bn]at hc;try contradiction))|skip))
   exact⟨hlt,trivial,by (repeat' (first|exact trivial|refine And.intro (by first|rfl|(simp[get,Nat.beq]<;>omega)|(dsimp only[get];congr 1<;>first|rfl|omega|(simp<;>omega))) ?_)),[],by simp[List.flatMap_append,bS]⟩
  rw[if_neg hc];repeat' (first|((with_reducible show az _);first|exact True.intro|(simp only[vb,lb,e,f1,f2,hlt,hc,bS];and_intros<;>first|omega|(simp<;>omega)))|((with_reducible show aB _);first|exact True.intro|((try dsimp only[go_sem]);(simp[vb,e,f1,f2,hlt,hc,bS]<;>omega)))|exact(rfl:some _=_)|((fail_if_success refine aK ?_);refine bw [ξ 18 (.bool false),ξ 27 (.agg [.int .i64 x.lo,.int .i64 x.hi]),(29,{mode:=1})] ?_;(repeat1' dsimp only[HR,aa,go_sem]);first|refine aL ?_ ?_ rfl ?_|apply aM|apply aN|(refine aO (fun hc=>?_) fun hc=>?_<;>first|(cases hc;done)|(exfalso;(simp at hc<;>omega))|(try simp only[bn]at hc;try contradiction))|skip))
  exact⟨hlt,trivial,by (repeat' (first|exact trivial|refine And.intro (by first|rfl|(simp[get,Nat.beq]<;>omega)|(dsimp only[get];congr 1<;>first|rfl|omega|(simp<;>omega))) ?_)),[],by simp[List.flatMap_append,bS]⟩
 obtain rfl:k=b.length:=by omega
 rw[List.take_of_length_le (by omega)];have f2:=bJ w;repeat' (first|((with_reducible first|show az _|show aB _);simp[vb,hlt]<;>omega)|exact(rfl:some _=_)|((fail_if_success refine aK ?_);refine bG ?_;(repeat1' dsimp only[HR,aa,go_sem]);first|refine aL ?_ ?_ rfl ?_|apply aM|apply aN|(refine aO (fun hc=>?_) fun hc=>?_<;>first|(cases hc;done)|(exfalso;simp[hlt]at hc<;>omega)|(try simp only[bn]at hc;try contradiction))|skip))
 rw[List.take_of_length_le (show w.length≤b.length by omega),←hwl];exact mV rfl rfl rfl (by rw[List.drop_zero,List.take_of_length_le (by simp only[List.length_map];omega)]) (by simp only[List.length_map];omega)
end
section
open Rf
def oL:av:=(⟨_,by conv=>(lhs;reduce;try simp only[G4,Int.cast_ofNat_Int,Int.reduceNegSucc,UInt8.reduceOfNat])⟩:{x // codeOf Tryz.prog 144 (fun _=>false)=some x}).1
theorem uN:bo Tryz.prog 144 (fun _=>false)=some (oL,[.cell 12 4 true],48,true):=by kernel_rfl
def Iv (j:Nat):List aJ→AV
 |[]=>.pv .nilsl
 |_::l=>.ref j l.length 0 (l.length+1)
def stM:List aJ→AM
 |[]=>[]
 |x::l=>[⟨(x::l).flatMap af |>.map .pv,l.length,3,66,false⟩]
theorem F4 (j:Nat):Iv j []= .pv .nilsl:=rfl
theorem Eg (j:Nat) (x:aJ) (l:List aJ):Iv j (x::l)= .ref j l.length 0 (l.length+1):=rfl
theorem kR:stM []=[]:=rfl
theorem dI (x:aJ) (l:List aJ):stM (x::l)=[⟨(x::l).flatMap af |>.map .pv,l.length,3,66,false⟩]:=rfl
theorem qD (l:List aJ):aS (stM l) (stM l).length=true:=by
 cases l with
 |nil=>rfl
 |cons x l=>simp[stM,aS,cZ]
theorem ti (x:aJ) (l:List aJ) (y:aJ):stM (x::(l++[y]))=[⟨(((x::l).flatMap af).map AV.pv++[.pv (.int .i64 y.kind),.pv (.int .i64 y.index),.pv (.int .i64 y.cell)]),l.length+1,3,66,false⟩]:=by
 rw[dI];simp[af,List.flatMap_append]
def Iw (j:Nat) (x:Bx):List AV:=[Iv j x.steps,.pv (aa x.box),.pv (.bool x.opn),.pv (.bool x.fine)]
def tj (j:Nat) (x:Bx):AV:=match x.steps with
 |[]=>.pv (.agg [.nilsl,aa x.box,.bool x.opn,.bool x.fine])
 |_::l=>.agg [.ref j l.length 0 (l.length+1),.pv (aa x.box),.pv (.bool x.opn),.pv (.bool x.fine)]
theorem j6 (j:Nat) (b:List Rg) (o f:Bool):tj j ⟨[],b,o,f⟩= .pv (.agg [.nilsl,aa b,.bool o,.bool f]):=rfl
theorem dJ (j:Nat) (x:aJ) (l:List aJ) (b:List Rg) (o f:Bool):tj j ⟨x::l,b,o,f⟩= .agg [.ref j l.length 0 (l.length+1),.pv (aa b),.pv (.bool o),.pv (.bool f)]:=rfl
abbrev IT (j:Nat) (x:Bx):eN:=⟨Iw j x,0,4,141,false⟩
abbrev nH:eN:=⟨[.pv .nilsl,.pv .nilsl,.pv (.bool false),.pv (.bool false)],0,4,141,false⟩
theorem kA (b:List Rg) (c:Int) (r:Rg):n9 b c r=ta b c r:=rfl
theorem zQ (b:List Rg) (op fi:Bool) (k i c:Int) (r:Rg) (bud:Int) (hb:b.length≤1000000000) :
  aF ctx 144 [tj 0 ⟨[],b,op,fi⟩,.pv (.int .i64 k),.pv (.int .i64 i),.pv (.int .i64 c),.pv (.agg [.int .i64 r.lo,.int .i64 r.hi]),.pv (.int .i64 bud)] []
   (tj 0 (eM ⟨[],b,op,fi⟩ k i c r bud)) (stM (eM ⟨[],b,op,fi⟩ k i c r bud).steps):=by
 have hw:=pF b c r hb;rw[kA]at hw;unfold eM;unfold aa at hw;by_cases h1:bud≤(0:Int)
 ·simp only[List.length_nil,Int.ofNat_eq_natCast,Int.natCast_zero,if_pos h1,j6,kR];refine bc (C:=ctx) (Fn.of uN rfl) rfl (by simp) rfl rfl ?_;unfold oL;repeat' (first|((with_reducible show az _);first|exact True.intro|(simp only[vb,lb,h1];and_intros<;>first|omega|(simp<;>omega)))|((with_reducible show aB _);exact True.intro)|exact(rfl:some _=_)|((fail_if_success refine aK ?_);refine bG ?_;(repeat1' dsimp only[oL,aa,go_sem]);first|refine aL ?_ ?_ rfl ?_|apply aM|apply aN|(refine aO (fun hc=>?_) fun hc=>?_<;>first|(cases hc;done)|(exfalso;(simp at hc<;>omega))|(try simp only[bn]at hc;try contradiction))|skip))
  exact⟨⟨(by first|exact True.intro|(simp only[vb,lb];omega)|(simp[vb]<;>omega)),rfl⟩,_,rfl⟩
 simp only[List.length_nil,Int.ofNat_eq_natCast,Int.natCast_zero,if_neg h1];have hm:=qD [⟨k,i,c⟩];by_cases h2:c<0∨r.hi<r.lo
 ·rw[if_pos h2];simp only[List.nil_append,j6,dJ,List.length_nil];refine bc (C:=ctx) (Fn.of uN rfl) rfl (by simp) rfl hm ?_;unfold oL;refine bw [(28,{mode:=1})] ?_;dsimp only[aa,go_sem];try dsimp only[aa,go_sem]
  refine⟨(by exact True.intro),(by exact True.intro),?_⟩;refine bw [(28,{mode:=1})] ?_;dsimp only[aa,go_sem];try dsimp only[aa,go_sem]
  refine⟨(by (simp only[vb,lb,h1];and_intros<;>first|omega|(simp<;>omega))),(by exact True.intro),?_⟩;refine bw [(28,{mode:=1})] ?_;dsimp only[aa,go_sem];refine⟨fun h=>by simp at h<;>omega,fun _=>?_⟩;refine bw [(28,{mode:=1})] ?_;dsimp only[aa,go_sem];refine bw [(28,{mode:=1})] ?_;dsimp only[aa,go_sem];try dsimp only[aa,go_sem]
  refine⟨(by (simp only[vb,lb,h1];and_intros<;>first|omega|(simp<;>omega))),(by exact True.intro),?_⟩;refine bq [(3,.pv (.int .i64 c)),(6,.ptr 0 0 0),(10,.ptr 1 0 0),(12,.ptr 2 0 0)] (by (repeat' (first|exact trivial|refine And.intro (by first|rfl|(simp[get,Nat.beq]<;>omega)|(dsimp only[get];congr 1<;>first|rfl|omega|(simp<;>omega))) ?_))) ?_;refine iM [3,0,1,2] rfl ?_
  show Aw _ _ _ _ _ _ [(3,.pv (.int .i64 c)),(6,.ptr 1 0 0),(10,.ptr 2 0 0),(12,.ptr 3 0 0)] [⟨[.pv (.int .i64 k),.pv (.int .i64 i),.pv (.int .i64 c)],0,3,66,false⟩,⟨[.ref 0 0 0 1,.pv (aa b),.pv (.bool op),.pv (.bool fi)],0,4,141,false⟩,⟨[.pv (.int .i64 r.lo),.pv (.int .i64 r.hi)],0,2,57,false⟩,nH];by_cases h3:c<0
  ·repeat' (first|((with_reducible show az _);first|exact True.intro|(simp only[vb,lb,h3];and_intros<;>first|omega|(simp<;>omega)))|((with_reducible show aB _);first|exact True.intro|((try dsimp only[go_sem]);(simp[vb,h3]<;>omega)))|exact(rfl:some _=_)|((fail_if_success refine aK ?_);refine bw [ξ 31 (.bool true),ξ 38 (.bool true)] ?_;(repeat1' dsimp only[oL,aa,go_sem]);first|refine aL ?_ ?_ rfl ?_|apply aM|apply aN|(refine aO (fun hc=>?_) fun hc=>?_<;>first|(cases hc;done)|(try simp only[bn]at hc;try contradiction))|skip))
   exact⟨⟨(by first|exact True.intro|(simp only[vb,lb];omega)|(simp[vb]<;>omega)),rfl⟩,_,rfl⟩
  have h4:=h2.resolve_left h3;repeat' (first|((with_reducible show az _);first|exact True.intro|(simp only[vb,lb,h3,h4];and_intros<;>first|omega|(simp<;>omega)))|((with_reducible show aB _);first|exact True.intro|((try dsimp only[go_sem]);(simp[vb,h3,h4]<;>omega)))|exact(rfl:some _=_)|((fail_if_success refine aK ?_);refine bw [ξ 31 (.bool false),ξ 38 (.bool true)] ?_;(repeat1' dsimp only[oL,aa,go_sem]);first|refine aL ?_ ?_ rfl ?_|apply aM|apply aN|(refine aO (fun hc=>?_) fun hc=>?_<;>first|(cases hc;done)|(try simp only[bn]at hc;try contradiction))|skip))
  exact⟨⟨(by first|exact True.intro|(simp only[vb,lb];omega)|(simp[vb]<;>omega)),rfl⟩,_,rfl⟩
 rw[if_neg h2];have h3:¬c<0:=fun h=>h2 (.inl h)
 have h4:¬r.hi<r.lo:=fun h=>h2 (.inr h)
 simp only[List.nil_append,j6,dJ,List.length_nil];refine bc (C:=ctx) (Fn.of uN rfl) rfl (by simp) rfl hm ?_;unfold oL;refine bw [(28,{mode:=1})] ?_;dsimp only[aa,go_sem];try dsimp only[aa,go_sem]
 refine⟨(by exact True.intro),(by exact True.intro),?_⟩;refine bw [(28,{mode:=1})] ?_;dsimp only[aa,go_sem];try dsimp only[aa,go_sem]
 refine⟨(by (simp only[vb,lb,h1];and_intros<;>first|omega|(simp<;>omega))),(by exact True.intro),?_⟩;refine bw [(28,{mode:=1})] ?_;dsimp only[aa,go_sem];refine⟨fun h=>by simp at h<;>omega,fun _=>?_⟩;refine bw [(28,{mode:=1})] ?_;dsimp only[aa,go_sem];refine bw [(28,{mode:=1})] ?_;dsimp only[aa,go_sem];try dsimp only[aa,go_sem]
 refine⟨(by (simp only[vb,lb,h1];and_intros<;>first|omega|(simp<;>omega))),(by exact True.intro),?_⟩;refine bq [(3,.pv (.int .i64 c)),(6,.ptr 0 0 0),(10,.ptr 1 0 0),(12,.ptr 2 0 0)] (by (repeat' (first|exact trivial|refine And.intro (by first|rfl|(simp[get,Nat.beq]<;>omega)|(dsimp only[get];congr 1<;>first|rfl|omega|(simp<;>omega))) ?_))) ?_;refine iM [3,0,1,2] rfl ?_
 show Aw _ _ _ _ _ _ [(3,.pv (.int .i64 c)),(6,.ptr 1 0 0),(10,.ptr 2 0 0),(12,.ptr 3 0 0)] [⟨[.pv (.int .i64 k),.pv (.int .i64 i),.pv (.int .i64 c)],0,3,66,false⟩,⟨[.ref 0 0 0 1,.pv (aa b),.pv (.bool op),.pv (.bool fi)],0,4,141,false⟩,⟨[.pv (.int .i64 r.lo),.pv (.int .i64 r.hi)],0,2,57,false⟩,nH];repeat' (first|((with_reducible show az _);first|exact True.intro|(simp only[vb,lb,h3,h4,hw];and_intros<;>first|omega|(simp<;>omega)))|((with_reducible show aB _);first|exact True.intro|((try dsimp only[go_sem]);(simp[vb,h3,h4,hw]<;>omega)))|exact(rfl:some _=_)|((fail_if_success refine aK ?_);refine aV [(34,fun _=>some (.sl (ta b c r).length ((ta b c r).flatMap bS)))] [ξ 31 (.bool false),ξ 38 (.bool false)] ?_;(repeat1' dsimp only[oL,aa,go_sem]);first|refine aL ?_ ?_ rfl ?_|apply aM|apply aN|(refine aO (fun hc=>?_) fun hc=>?_<;>first|(cases hc;done)|(try simp only[bn]at hc;try contradiction))|skip))
 exact⟨⟨(by first|exact True.intro|(simp only[vb,lb];omega)|(simp[vb]<;>omega)),rfl⟩,_,rfl⟩
theorem Cr (s0:aJ) (l:List aJ) (b:List Rg) (op fi:Bool) (k i c:Int) (r:Rg) (bud:Int) (hb:b.length≤1000000000) (hl:l.length≤1000000000) :
  aF ctx 144 [tj 0 ⟨s0::l,b,op,fi⟩,.pv (.int .i64 k),.pv (.int .i64 i),.pv (.int .i64 c),.pv (.agg [.int .i64 r.lo,.int .i64 r.hi]),.pv (.int .i64 bud)] (stM (s0::l))
   (tj 0 (eM ⟨s0::l,b,op,fi⟩ k i c r bud)) (stM (eM ⟨s0::l,b,op,fi⟩ k i c r bud).steps):=by
 have hw:=pF b c r hb;rw[kA]at hw;unfold eM;unfold aa at hw;have hm0:=qD (s0::l);have g1:=de (s0::l);rw[List.length_cons]at g1;by_cases h1:bud≤((l.length+1:Nat):Int)
 ·simp only[List.length_cons,if_pos h1,dJ];have h1':bud≤(l.length:Int)+1:=by omega
  refine bc (C:=ctx) (Fn.of uN rfl) rfl (by simp) rfl hm0 ?_;unfold oL;rw[dI];repeat' (first|((with_reducible show az _);first|exact True.intro|(simp only[vb,lb,h1,h1'];and_intros<;>first|omega|(simp<;>omega)))|((with_reducible show aB _);exact True.intro)|exact(rfl:some _=_)|((fail_if_success refine aK ?_);refine bG ?_;(repeat1' dsimp only[oL,aa,go_sem]);first|refine aL ?_ ?_ rfl ?_|apply aM|apply aN|(refine aO (fun hc=>?_) fun hc=>?_<;>first|(cases hc;done)|(exfalso;(simp at hc<;>omega))|(try simp only[bn]at hc;try contradiction))|skip))
  exact⟨⟨(by first|exact True.intro|(simp only[vb,lb];omega)|(simp[vb]<;>omega)),rfl⟩,_,rfl⟩
 simp only[List.length_cons,if_neg h1];have h1':¬bud≤(l.length:Int)+1:=by omega
 have hm:=qD (s0::l++[⟨k,i,c⟩]);by_cases h2:c<0∨r.hi<r.lo
 ·rw[if_pos h2];simp only[List.cons_append,dJ,List.length_append,List.length_cons,List.length_nil];refine bc (C:=ctx) (Fn.of uN rfl) rfl (by simp[stM]) rfl hm ?_;unfold oL;rw[dI];by_cases h3:c<0
  ·repeat' (first|((with_reducible show az _);first|exact True.intro|(simp only[vb,lb,h1,h1',h3,bI,rf,hl];and_intros<;>first|omega|(simp<;>omega)))|((with_reducible show aB _);first|exact True.intro|((try dsimp only[go_sem]);(simp[vb,h1,h1',h3,bI,rf,hl]<;>omega)))|exact(rfl:some _=_)|((fail_if_success refine aK ?_);refine bw [(28,{mode:=1}),ξ 31 (.bool true),ξ 38 (.bool true)] ?_;(repeat1' dsimp only[oL,aa,go_sem]);first|refine aL ?_ ?_ rfl ?_|apply aM|apply aN|(refine aO (fun hc=>?_) fun hc=>?_<;>first|(cases hc;done)|(exfalso;(simp at hc<;>omega))|(try simp only[bn]at hc;try contradiction))|skip))
   exact⟨⟨(by first|exact True.intro|(simp only[vb,lb];omega)|(simp[vb]<;>omega)),rfl⟩,_,by (show _=stM (s0::(l++[⟨k,i,c⟩]))++_;rw[ti];rfl)⟩
  have h4:=h2.resolve_left h3;repeat' (first|((with_reducible show az _);first|exact True.intro|(simp only[vb,lb,h1,h1',h3,h4,bI,rf,hl];and_intros<;>first|omega|(simp<;>omega)))|((with_reducible show aB _);first|exact True.intro|((try dsimp only[go_sem]);(simp[vb,h1,h1',h3,h4,bI,rf,hl]<;>omega)))|exact(rfl:some _=_)|((fail_if_success refine aK ?_);refine bw [(28,{mode:=1}),ξ 31 (.bool false),ξ 38 (.bool true)] ?_;(repeat1' dsimp only[oL,aa,go_sem]);first|refine aL ?_ ?_ rfl ?_|apply aM|apply aN|(refine aO (fun hc=>?_) fun hc=>?_<;>first|(cases hc;done)|(exfalso;(simp at hc<;>omega))|(try simp only[bn]at hc;try contradiction))|skip))
  exact⟨⟨(by first|exact True.intro|(simp only[vb,lb];omega)|(simp[vb]<;>omega)),rfl⟩,_,by (show _=stM (s0::(l++[⟨k,i,c⟩]))++_;rw[ti];rfl)⟩
 rw[if_neg h2];have h3:¬c<0:=fun h=>h2 (.inl h)
 have h4:¬r.hi<r.lo:=fun h=>h2 (.inr h)
 simp only[List.cons_append,dJ,List.length_append,List.length_cons,List.length_nil];refine bc (C:=ctx) (Fn.of uN rfl) rfl (by simp[stM]) rfl hm ?_;unfold oL;rw[dI];repeat' (first|((with_reducible show az _);first|exact True.intro|(simp only[vb,lb,h1,h1',h3,h4,bI,rf,hl,hw];and_intros<;>first|omega|(simp<;>omega)))|((with_reducible show aB _);first|exact True.intro|((try dsimp only[go_sem]);(simp[vb,h1,h1',h3,h4,bI,rf,hl,hw]<;>omega)))|exact(rfl:some _=_)|((fail_if_success refine aK ?_);refine aV [(34,fun _=>some (.sl (ta b c r).length ((ta b c r).flatMap bS)))] [(28,{mode:=1}),ξ 31 (.bool false),ξ 38 (.bool false)] ?_;(repeat1' dsimp only[oL,aa,go_sem]);first|refine aL ?_ ?_ rfl ?_|apply aM|apply aN|(refine aO (fun hc=>?_) fun hc=>?_<;>first|(cases hc;done)|(exfalso;(simp at hc<;>omega))|(try simp only[bn]at hc;try contradiction))|skip))
 exact⟨⟨(by first|exact True.intro|(simp only[vb,lb];omega)|(simp[vb]<;>omega)),rfl⟩,_,by (show _=stM (s0::(l++[⟨k,i,c⟩]))++_;rw[ti];rfl)⟩
end
end Pur
end
end Go.Proofs.YtaleoeblooeglaaGreatDoor
