/-
  RefutationTrims: both libraries trim alike, for any system and tree whose bulk is at most 1048576 (the tables laid); names shortened by a program (RfAw RfPa RfG RfM RfY RfH RfZ RfZA RfMA RfG2 RfG3 RfI RfZB RfMB RfPb RfMC RfAx RfAy RfMD RfG4)
-/
import Derived.Test.YtaleoeblooeglaaGreatDoorT03
import Derived.WalkKit
import Derived.Tactics
import Derived.Tactics2
import Derived.Defers
import Derived.Recover
import Derived.Lib.ItoaLen
set_option maxRecDepth 10000
set_option maxHeartbeats 32000000
set_option linter.unusedSimpArgs false
set_option linter.unusedVariables false
namespace Go.Proofs.YtaleoeblooeglaaGreatDoor
open Go.RowKit
attribute [local go_sem] Pur.ξ Pur.bV Pur.gF Pur.cd Pur.bI Pur.cG Pur.jK List.map Pur.bB Pur.aR Pur.get Pur.put Pur.tmpsOf Pur.eY Pur.oK Pur.kY Pur.oa Pur.conds Pur.ev cond_true cond_false Nat.beq Nat.ble Nat.add Pur.quiet Pur.fc Pur.cW Pur.dH Pur.zP List.append_eq List.nil_append List.cons_append Pur.eX Pur.gq Pur.gr Pur.gu Pur.gv Pur.gw Pur.gx Pur.kf Pur.jM Pur.fQ Pur.pC Pur.gZ Pur.calm Pur.quiet.isCallK Pur.dU List.getElem?_cons_zero List.getElem?_cons_succ Pur.cE Pur.dM Pur.cellsOf List.all Pur.bZ List.length_cons List.length_nil Pur.jr Pur.bC List.drop List.take List.getD Option.getD_some Pur.Eb Pur.Ec Pur.Cn Pur.Ed Pur.Ee Pur.Ef Pur.kZ Pur.nY Pur.k6 Pur.k7 Pur.setAt List.set Nat.reduceAdd Nat.reduceMul Pur.dy Pur.ca Pur.refsOf Pur.bW Pur.cS Pur.scalar Pur.eJ Pur.gO Pur.cU Pur.eI Pur.bA Pur.after Pur.freeze Pur.mT Pur.l5 Pur.bw Pur.fS Pur.iN Pur.jk Pur.iB Pur.iV Pur.iW Pur.gf Pur.iX Pur.iY Pur.jb Pur.jc Pur.jd Pur.je Pur.jf Pur.jg Pur.jh Pur.ji Pur.jj Pur.gg Pur.gi Pur.gj Pur.fR Pur.pD Pur.bytesOf Pur.cf Pur.fk Pur.a8 Pur.cH Pur.fN Pur.bP Pur.cF Pur.dV Pur.still Pur.dk Pur.gN Pur.eC Pur.jH Pur.cA Pur.iC List.isEmpty Pur.gk Pur.gm Pur.gp Int.reduceToNat Nat.mul_one Nat.reduceSub Pur.yx Pur.fp Pur.ef Pur.fl Pur.fe Pur.look Pur.fm Pur.strip Pur.guarded Pur.my Pur.iE Pur.jq Pur.eH Pur.jG Pur.ek Pur.mD Pur.iZ Pur.ja Bool.or_false Bool.or_true Bool.and_true Bool.and_false Nat.blt Pur.iz Pur.gI Pur.j0 Pur.dB Pur.idxOf Pur.kp Pur.l6 Pur.o4 Pur.gy Pur.tz
section
namespace Pur
open Go.RowKit
section
open Rf
def JG:ay:=(⟨_,by conv=>(lhs;reduce;try simp only[cJ,Int.cast_ofNat_Int,Int.reduceNegSucc,UInt8.reduceOfNat])⟩:{x // codeOf Tryz.prog 11 (fun _=>false)=some x}).1
theorem Jd:bp Tryz.prog 11 (fun _=>false)=some (JG,[.t 0],93,true):=by kernel_rfl
def HO:ay:=(⟨_,by conv=>(lhs;reduce;try simp only[cJ,Int.cast_ofNat_Int,Int.reduceNegSucc,UInt8.reduceOfNat])⟩:{x // codeOf Tryz.prog 22 (fun _=>false)=some x}).1
theorem EY:bp Tryz.prog 22 (fun _=>false)=some (HO,[.t 4],21,true):=by kernel_rfl
def c24:ay:=(⟨_,by conv=>(lhs;reduce;try simp only[cJ,Int.cast_ofNat_Int,Int.reduceNegSucc,UInt8.reduceOfNat])⟩:{x // codeOf Tryz.prog 24 (fun _=>false)=some x}).1
theorem Je:bp Tryz.prog 24 (fun _=>false)=some (c24,[.cell 4 5 true,.t 5],38,true):=by kernel_rfl
def JH:ay:=(⟨_,by conv=>(lhs;reduce;try simp only[cJ,Int.cast_ofNat_Int,Int.reduceNegSucc,UInt8.reduceOfNat])⟩:{x // codeOf Tryz.prog 36 (fun _=>false)=some x}).1
theorem Jf:bp Tryz.prog 36 (fun _=>false)=some (JH,[.cell 0 4 true],18,true):=by kernel_rfl
def c46:ay:=(⟨_,by conv=>(lhs;reduce;try simp only[cJ,Int.cast_ofNat_Int,Int.reduceNegSucc,UInt8.reduceOfNat])⟩:{x // codeOf Tryz.prog 46 (fun _=>false)=some x}).1
theorem HP:bp Tryz.prog 46 (fun _=>false)=some (c46,[.t 2],52,true):=by kernel_rfl
def qf:ay:=(⟨_,by conv=>(lhs;reduce;try simp only[cJ,Int.cast_ofNat_Int,Int.reduceNegSucc,UInt8.reduceOfNat])⟩:{x // codeOf Tryz.prog 47 (fun _=>false)=some x}).1
theorem Jg:bp Tryz.prog 47 (fun _=>false)=some (qf,[.t 4],144,true):=by kernel_rfl
def c49:ay:=(⟨_,by conv=>(lhs;reduce;try simp only[cJ,Int.cast_ofNat_Int,Int.reduceNegSucc,UInt8.reduceOfNat])⟩:{x // codeOf Tryz.prog 49 (fun _=>false)=some x}).1
theorem Jh:bp Tryz.prog 49 (fun _=>false)=some (c49,[.cell 4 5 true,.t 5],69,true):=by kernel_rfl
def Iy:ay:=(⟨_,by conv=>(lhs;reduce;try simp only[cJ,Int.cast_ofNat_Int,Int.reduceNegSucc,UInt8.reduceOfNat])⟩:{x // codeOf Tryz.prog 71 (fun _=>false)=some x}).1
theorem G3:bp Tryz.prog 71 (fun _=>false)=some (Iy,[.t 4],13,true):=by kernel_rfl
def c72:ay:=(⟨_,by conv=>(lhs;reduce;try simp only[cJ,Int.cast_ofNat_Int,Int.reduceNegSucc,UInt8.reduceOfNat])⟩:{x // codeOf Tryz.prog 72 (fun _=>false)=some x}).1
theorem HQ:bp Tryz.prog 72 (fun _=>false)=some (c72,[.t 2],5,true):=by kernel_rfl
def Iz:ay:=(⟨_,by conv=>(lhs;reduce;try simp only[cJ,Int.cast_ofNat_Int,Int.reduceNegSucc,UInt8.reduceOfNat])⟩:{x // codeOf Tryz.prog 73 (fun _=>false)=some x}).1
theorem HR:bp Tryz.prog 73 (fun _=>false)=some (Iz,[.t 6],17,true):=by kernel_rfl
def FZ:ay:=(⟨_,by conv=>(lhs;reduce;try simp only[cJ,Int.cast_ofNat_Int,Int.reduceNegSucc,UInt8.reduceOfNat])⟩:{x // codeOf Tryz.prog 74 (fun _=>false)=some x}).1
theorem EZ:bp Tryz.prog 74 (fun _=>false)=some (FZ,[.t 4],45,true):=by kernel_rfl
def c75:ay:=(⟨_,by conv=>(lhs;reduce;try simp only[cJ,Int.cast_ofNat_Int,Int.reduceNegSucc,UInt8.reduceOfNat])⟩:{x // codeOf Tryz.prog 75 (fun _=>false)=some x}).1
theorem HS:bp Tryz.prog 75 (fun _=>false)=some (c75,[.t 4],9,true):=by kernel_rfl
def c76:ay:=(⟨_,by conv=>(lhs;reduce;try simp only[cJ,Int.cast_ofNat_Int,Int.reduceNegSucc,UInt8.reduceOfNat])⟩:{x // codeOf Tryz.prog 76 (fun _=>false)=some x}).1
theorem HT:bp Tryz.prog 76 (fun _=>false)=some (c76,[.t 3],8,true):=by kernel_rfl
def HU:ay:=(⟨_,by conv=>(lhs;reduce;try simp only[cJ,Int.cast_ofNat_Int,Int.reduceNegSucc,UInt8.reduceOfNat])⟩:{x // codeOf Tryz.prog 77 (fun d=>Nat.beq d 5)=some x}).1
theorem E0:bp Tryz.prog 77 (fun d=>Nat.beq d 5)=some (HU,[.t 2],8,true):=by kernel_rfl
def qg:ay:=(⟨_,by conv=>(lhs;reduce;try simp only[cJ,Int.cast_ofNat_Int,Int.reduceNegSucc,UInt8.reduceOfNat])⟩:{x // codeOf Tryz.prog 78 (fun _=>false)=some x}).1
theorem sJ:bp Tryz.prog 78 (fun _=>false)=some (qg,[.t 4,.t 5],140,true):=by kernel_rfl
def IA:ay:=(⟨_,by conv=>(lhs;reduce;try simp only[cJ,Int.cast_ofNat_Int,Int.reduceNegSucc,UInt8.reduceOfNat])⟩:{x // codeOf Tryz.prog 79 (fun _=>false)=some x}).1
theorem HV:bp Tryz.prog 79 (fun _=>false)=some (IA,[.cell 4 2 true],16,true):=by kernel_rfl
def Hw:ay:=(⟨_,by conv=>(lhs;reduce;try simp only[cJ,Int.cast_ofNat_Int,Int.reduceNegSucc,UInt8.reduceOfNat])⟩:{x // codeOf Tryz.prog 97 (fun _=>false)=some x}).1
theorem HW:bp Tryz.prog 97 (fun _=>false)=some (Hw,[.t 2],33,true):=by kernel_rfl
def IB:ay:=(⟨_,by conv=>(lhs;reduce;try simp only[cJ,Int.cast_ofNat_Int,Int.reduceNegSucc,UInt8.reduceOfNat])⟩:{x // codeOf Tryz.prog 98 (fun _=>false)=some x}).1
theorem HX:bp Tryz.prog 98 (fun _=>false)=some (IB,[.t 4],9,true):=by kernel_rfl
def IC:ay:=(⟨_,by conv=>(lhs;reduce;try simp only[cJ,Int.cast_ofNat_Int,Int.reduceNegSucc,UInt8.reduceOfNat])⟩:{x // codeOf Tryz.prog 99 (fun _=>false)=some x}).1
theorem HY:bp Tryz.prog 99 (fun _=>false)=some (IC,[.t 3],9,true):=by kernel_rfl
def E1:ay:=(⟨_,by conv=>(lhs;reduce;try simp only[cJ,Int.cast_ofNat_Int,Int.reduceNegSucc,UInt8.reduceOfNat])⟩:{x // codeOf Tryz.prog 101 (fun _=>false)=some x}).1
theorem F0:bp Tryz.prog 101 (fun _=>false)=some (E1,[.t 4],9,true):=by kernel_rfl
def E2:ay:=(⟨_,by conv=>(lhs;reduce;try simp only[cJ,Int.cast_ofNat_Int,Int.reduceNegSucc,UInt8.reduceOfNat])⟩:{x // codeOf Tryz.prog 102 (fun _=>false)=some x}).1
theorem F3:bp Tryz.prog 102 (fun _=>false)=some (E2,[.t 2],8,true):=by kernel_rfl
def E3:ay:=(⟨_,by conv=>(lhs;reduce;try simp only[cJ,Int.cast_ofNat_Int,Int.reduceNegSucc,UInt8.reduceOfNat])⟩:{x // codeOf Tryz.prog 103 (fun _=>false)=some x}).1
theorem F4:bp Tryz.prog 103 (fun _=>false)=some (E3,[.t 4],9,true):=by kernel_rfl
def E4:ay:=(⟨_,by conv=>(lhs;reduce;try simp only[cJ,Int.cast_ofNat_Int,Int.reduceNegSucc,UInt8.reduceOfNat])⟩:{x // codeOf Tryz.prog 104 (fun _=>false)=some x}).1
theorem F5:bp Tryz.prog 104 (fun _=>false)=some (E4,[.t 2],9,true):=by kernel_rfl
def c105:ay:=(⟨_,by conv=>(lhs;reduce;try simp only[cJ,Int.cast_ofNat_Int,Int.reduceNegSucc,UInt8.reduceOfNat])⟩:{x // codeOf Tryz.prog 105 (fun _=>false)=some x}).1
theorem F6:bp Tryz.prog 105 (fun _=>false)=some (c105,[.t 4],19,true):=by kernel_rfl
def zc:ay:=(⟨_,by conv=>(lhs;reduce;try simp only[cJ,Int.cast_ofNat_Int,Int.reduceNegSucc,UInt8.reduceOfNat])⟩:{x // codeOf Tryz.prog 106 (fun _=>false)=some x}).1
theorem F7:bp Tryz.prog 106 (fun _=>false)=some (zc,[.t 6],51,true):=by kernel_rfl
def c107:ay:=(⟨_,by conv=>(lhs;reduce;try simp only[cJ,Int.cast_ofNat_Int,Int.reduceNegSucc,UInt8.reduceOfNat])⟩:{x // codeOf Tryz.prog 107 (fun _=>false)=some x}).1
theorem Ak:bp Tryz.prog 107 (fun _=>false)=some (c107,[.cell 6 2 true],27,true):=by kernel_rfl
def BA:ay:=(⟨_,by conv=>(lhs;reduce;try simp only[cJ,Int.cast_ofNat_Int,Int.reduceNegSucc,UInt8.reduceOfNat])⟩:{x // codeOf Tryz.prog 125 (fun _=>false)=some x}).1
theorem F8:bp Tryz.prog 125 (fun _=>false)=some (BA,[.t 4],19,true):=by kernel_rfl
def BB:ay:=(⟨_,by conv=>(lhs;reduce;try simp only[cJ,Int.cast_ofNat_Int,Int.reduceNegSucc,UInt8.reduceOfNat])⟩:{x // codeOf Tryz.prog 100 (fun _=>false)=some x}).1
theorem F9:bp Tryz.prog 100 (fun _=>false)=some (BB,[.t 4],51,true):=by kernel_rfl
def BC:ay:=(⟨_,by conv=>(lhs;reduce;try simp only[cJ,Int.cast_ofNat_Int,Int.reduceNegSucc,UInt8.reduceOfNat])⟩:{x // codeOf Tryz.prog 126 (fun _=>false)=some x}).1
theorem Ga:bp Tryz.prog 126 (fun _=>false)=some (BC,[.t 4],19,true):=by kernel_rfl
def c127:ay:=(⟨_,by conv=>(lhs;reduce;try simp only[cJ,Int.cast_ofNat_Int,Int.reduceNegSucc,UInt8.reduceOfNat])⟩:{x // codeOf Tryz.prog 127 (fun _=>false)=some x}).1
theorem Gb:bp Tryz.prog 127 (fun _=>false)=some (c127,[.t 4],19,true):=by kernel_rfl
def E5:ay:=(⟨_,by conv=>(lhs;reduce;try simp only[cJ,Int.cast_ofNat_Int,Int.reduceNegSucc,UInt8.reduceOfNat])⟩:{x // codeOf Tryz.prog 128 (fun _=>false)=some x}).1
theorem Gc:bp Tryz.prog 128 (fun _=>false)=some (E5,[.t 8],41,true):=by kernel_rfl
def xu:ay:=(⟨_,by conv=>(lhs;reduce;try simp only[cJ,Int.cast_ofNat_Int,Int.reduceNegSucc,UInt8.reduceOfNat])⟩:{x // codeOf Tryz.prog 129 (fun _=>false)=some x}).1
theorem Al:bp Tryz.prog 129 (fun _=>false)=some (xu,[.cell 6 2 true],57,true):=by kernel_rfl
def c145:ay:=(⟨_,by conv=>(lhs;reduce;try simp only[cJ,Int.cast_ofNat_Int,Int.reduceNegSucc,UInt8.reduceOfNat])⟩:{x // codeOf Tryz.prog 145 (fun _=>false)=some x}).1
theorem Gd:bp Tryz.prog 145 (fun _=>false)=some (c145,[.cell 4 2 true,.t 5],23,true):=by kernel_rfl
def c146:ay:=(⟨_,by conv=>(lhs;reduce;try simp only[cJ,Int.cast_ofNat_Int,Int.reduceNegSucc,UInt8.reduceOfNat])⟩:{x // codeOf Tryz.prog 146 (fun _=>false)=some x}).1
theorem HZ:bp Tryz.prog 146 (fun _=>false)=some (c146,[.t 6],67,true):=by kernel_rfl
def BD:ay:=(⟨_,by conv=>(lhs;reduce;try simp only[cJ,Int.cast_ofNat_Int,Int.reduceNegSucc,UInt8.reduceOfNat])⟩:{x // codeOf Tryz.prog 147 (fun _=>false)=some x}).1
theorem Ge:bp Tryz.prog 147 (fun _=>false)=some (BD,[.t 4],19,true):=by kernel_rfl
def c148:ay:=(⟨_,by conv=>(lhs;reduce;try simp only[cJ,Int.cast_ofNat_Int,Int.reduceNegSucc,UInt8.reduceOfNat])⟩:{x // codeOf Tryz.prog 148 (fun _=>false)=some x}).1
theorem Gf:bp Tryz.prog 148 (fun _=>false)=some (c148,[.t 3],8,true):=by kernel_rfl
def xw:ay:=(⟨_,by conv=>(lhs;reduce;try simp only[cJ,Int.cast_ofNat_Int,Int.reduceNegSucc,UInt8.reduceOfNat])⟩:{x // codeOf Tryz.prog 149 (fun _=>false)=some x}).1
theorem Gg:bp Tryz.prog 149 (fun _=>false)=some (xw,[.t 8],52,true):=by kernel_rfl
def E6:ay:=(⟨_,by conv=>(lhs;reduce;try simp only[cJ,Int.cast_ofNat_Int,Int.reduceNegSucc,UInt8.reduceOfNat])⟩:{x // codeOf Tryz.prog 150 (fun _=>false)=some x}).1
theorem Gi:bp Tryz.prog 150 (fun _=>false)=some (E6,[.t 4],23,true):=by kernel_rfl
def E7:ay:=(⟨_,by conv=>(lhs;reduce;try simp only[cJ,Int.cast_ofNat_Int,Int.reduceNegSucc,UInt8.reduceOfNat])⟩:{x // codeOf Tryz.prog 166 (fun _=>false)=some x}).1
theorem Gj:bp Tryz.prog 166 (fun _=>false)=some (E7,[.t 6],17,true):=by kernel_rfl
def c167:ay:=(⟨_,by conv=>(lhs;reduce;try simp only[cJ,Int.cast_ofNat_Int,Int.reduceNegSucc,UInt8.reduceOfNat])⟩:{x // codeOf Tryz.prog 167 (fun d=>Nat.beq d 5)=some x}).1
theorem Gk:bp Tryz.prog 167 (fun d=>Nat.beq d 5)=some (c167,[.t 2],8,true):=by kernel_rfl
def Am:List (Nat×Iv):=[(19,⟨JF,[.t 4],38⟩),(42,⟨JD,[.t 4],26⟩),(43,⟨JE,[.t 6],32⟩),(11,⟨JG,[.t 0],93⟩),(22,⟨HO,[.t 4],21⟩),(24,⟨c24,[.cell 4 5 true,.t 5],38⟩),(36,⟨JH,[.cell 0 4 true],18⟩),(46,⟨c46,[.t 2],52⟩),(47,⟨qf,[.t 4],144⟩),(49,⟨c49,[.cell 4 5 true,.t 5],69⟩),(71,⟨Iy,[.t 4],13⟩),(72,⟨c72,[.t 2],5⟩),(73,⟨Iz,[.t 6],17⟩),(74,⟨FZ,[.t 4],45⟩),(75,⟨c75,[.t 4],9⟩),(76,⟨c76,[.t 3],8⟩),(77,⟨HU,[.t 2],8⟩),(78,⟨qg,[.t 4,.t 5],140⟩),(79,⟨IA,[.cell 4 2 true],16⟩),(97,⟨Hw,[.t 2],33⟩),(98,⟨IB,[.t 4],9⟩),(99,⟨IC,[.t 3],9⟩),(101,⟨E1,[.t 4],9⟩),(102,⟨E2,[.t 2],8⟩),(103,⟨E3,[.t 4],9⟩),(104,⟨E4,[.t 2],9⟩),(105,⟨c105,[.t 4],19⟩),(106,⟨zc,[.t 6],51⟩),(107,⟨c107,[.cell 6 2 true],27⟩),(125,⟨BA,[.t 4],19⟩),(100,⟨BB,[.t 4],51⟩),(126,⟨BC,[.t 4],19⟩),(127,⟨c127,[.t 4],19⟩),(128,⟨E5,[.t 8],41⟩),(129,⟨xu,[.cell 6 2 true],57⟩),(145,⟨c145,[.cell 4 2 true,.t 5],23⟩),(146,⟨c146,[.t 6],67⟩),(147,⟨BD,[.t 4],19⟩),(148,⟨c148,[.t 3],8⟩),(149,⟨xw,[.t 8],52⟩),(150,⟨E6,[.t 4],23⟩),(166,⟨E7,[.t 6],17⟩),(167,⟨c167,[.t 2],8⟩)]
theorem Dp:∀p∈Am,∃own,bp Tryz.prog p.1 own=some (p.2.x,p.2.rs,p.2.n,true):=by
 simp only[Am,List.forall_mem_cons];exact⟨⟨_,Jc⟩,⟨_,Ja⟩,⟨_,Jb⟩,⟨_,Jd⟩,⟨_,EY⟩,⟨_,Je⟩,⟨_,Jf⟩,⟨_,HP⟩,⟨_,Jg⟩,⟨_,Jh⟩,⟨_,G3⟩,⟨_,HQ⟩,⟨_,HR⟩,⟨_,EZ⟩,⟨_,HS⟩,⟨_,HT⟩,⟨_,E0⟩,⟨_,sJ⟩,⟨_,HV⟩,⟨_,HW⟩,⟨_,HX⟩,⟨_,HY⟩,⟨_,F0⟩,⟨_,F3⟩,⟨_,F4⟩,⟨_,F5⟩,⟨_,F6⟩,⟨_,F7⟩,⟨_,Ak⟩,⟨_,F8⟩,⟨_,F9⟩,⟨_,Ga⟩,⟨_,Gb⟩,⟨_,Gc⟩,⟨_,Al⟩,⟨_,Gd⟩,⟨_,HZ⟩,⟨_,Ge⟩,⟨_,Gf⟩,⟨_,Gg⟩,⟨_,Gi⟩,⟨_,Gj⟩,⟨_,Gk⟩,fun _ h=>by cases h⟩
end
section
open Rf
theorem zd (p q:Value) (w:World) :
  CallsD Tryz.prog 54 #[p,q] .returning w fun e u' w'=>e= .returned (.tuple #[])∧u'= .returning∧w'=w:=by
 refine callsD_of_wpS Tryz.func54 rfl fun c₀ cs hu=>?_
 apply wpS_seq;apply wpS_region;simp[wpOpsS,go_sem,recoverD,hu,Tryz.ntmps54,Exit.thenS];refine wpS_of_wp ?_;go_wp2
 cases c₀;simp_all [bodyPostS,results,Tryz.results54]
def vA:Code→List Nat→Code
 | .seq a _,0::l=>vA a l
 | .seq _ b,_::l=>vA b l
 | .cond _ a _,0::l=>vA a l
 | .cond _ _ b,_::l=>vA b l
 | .block _ a,_::l=>vA a l
 | .loop a,_::l=>vA a l
 |x,_=>x
def ze (P:Program) (f:FuncId):Code:=match P.funcs[f]? with
 |some fn=>match fn.body with
  |some c=>c
  |none=>.skip
 |none=>.skip
def no:Nat→Bool:=fun _=>false
def G4:ay:=(⟨_,by conv=>(lhs;reduce;try simp only[cJ,Int.cast_ofNat_Int,Int.reduceNegSucc,UInt8.reduceOfNat])⟩:{x // comp Tryz.prog no 12 (vA (ze Tryz.prog 54) [1,0,1,1,1,0,1])=some x}).1
theorem G5:comp Tryz.prog no 12 (vA (ze Tryz.prog 54) [1,0,1,1,1,0,1])=some G4:=by kernel_rfl
def fV (n:Int):dT:=⟨[.pv (.int .i64 n)],0,1,39,false⟩
def Hx (a b c d e:PV):dT:=⟨[.pv a,.pv b,.pv c,.pv d,.pv e],0,5,25,false⟩
theorem E8 (a b c d e:PV) (n:Int):Aw ctx no 12 2 G4 (fun e _ μ=>e= .normal∧∃junk,μ=[aE,fV 3]++junk) [(0,.ptr 0 0 0),(1,.ptr 1 0 0)] [Hx a b c d e,fV n]:=by
 unfold G4;refine aZ ?_;dsimp only[Hx,fV,go_sem];try dsimp only[Hx,fV,go_sem]
 refine⟨(by simp[vb]<;>omega),(by simp[vb]<;>omega),?_⟩;exact⟨rfl,[],rfl⟩
theorem Wd.more {C:Ctx} {w0 w w':World} {S:Nat→Prop} {γ:Gh} {μ:AM} (hW:Wd C w0 S γ μ w) (hb:Below w.heap.size w w'):Ext w S γ w' S γ∧Wd C w0 S γ μ w':=by
 have hE:Ext w S γ w' S γ:=⟨⟨fun _ h=>h,fun g hg=>hb.block g (hW.live g hg)⟩,fun _ e h=>⟨e,h,Nat.le_refl _,fun _=>rfl⟩,fun _ h=>.inl h,fun b e h=>.inl ⟨b,e,h,rfl⟩,hb.size,fun g hg _=>hb.block g hg⟩
 exact⟨hE,hW.mem.stay hE.z (fun b e _ hlt=>hb.block _ hlt) (fun _ _ _ _ _ _ _ h=>h),hW.below.trans (hb.mono hW.below.size),fun g hg=>Nat.lt_of_lt_of_le (hW.live g hg) hb.size,hW.env⟩
theorem xx {w0 w:World} {S:Nat→Prop} {γ:Gh} (p q:Value) (a b c d e:PV) (n:Int) (hW:Wd ctx w0 S γ [Hx a b c d e,fV n] w) (hp:VR w S γ (.ptr 0 0 0) p) (hq:VR w S γ (.ptr 1 0 0) q) :
  CallsD Tryz.prog 54 #[p,q] (.panicking Pur.cw) w fun e u' w'=>e= .returned (.tuple #[])∧u'= .panicking [{v:=.iface 84 (.agg #[]),recovered:=true}]∧∃S' γ' junk,Ext w S γ w' S' γ'∧Wd ctx w0 S' γ' ([aE,fV 3]++junk) w':=by
 refine callsD_of_wpS Tryz.func54 rfl fun c₀ cs hu=>?_
 apply wpS_seq;apply wpS_region;simp[wpOpsS,go_sem,recoverD,hu,Tryz.ntmps54,Exit.thenS,Pur.cw];refine wpS_of_wp ?_;have hta:∀w:World,(Instr.typeAssert (.iface 84 (.agg #[])) 20 84 true).run Tryz.prog w= .ok (.tuple #[.agg #[],.bool true]) w:=fun _=>by kernel_rfl
 iterate 19 (go_step<;>try go_simp)
 refine wp_cond_true rfl ?_;iterate 8 (go_step<;>try go_simp)
 obtain⟨hE1,hW1⟩:=hW.more (w':=w.alloc (.cells #[] 84)) ((Below.refl _ w).alloc (Nat.le_refl _) _);refine wp_mono (E8 a b c d e n _ G5 w0 S γ _ _ hW1 ⟨by simp,rfl,fun t=>?_⟩) fun ex a' w' hh=>?_
 ·match t with
  |0=>simpa [Act.eval,get,Nat.beq]using hp.ext hE1
  |1=>simpa [Act.eval,get,Nat.beq]using hq.ext hE1
  |t+2=>exact .any _
 ·obtain⟨S',γ',f',μ',g1,g2,g3,rfl,junk,rfl⟩:=hh;refine⟨g3.defers,_,rfl,.tuple #[],by simp[results,Tryz.results54],rfl,rfl,S',γ',?_,junk,g2⟩;refine hE1.trans ⟨g1.stay,fun b e hb=>g1.gh b e ?_ hb,g1.more,g1.cbs,g1.size,g1.frame⟩;exact Nat.lt_of_not_le fun h=>by rw[hW1.mem.none b (by simpa using h)]at hb;cases hb
end
section
open Rf
def c85:ay:=(⟨_,by conv=>(lhs;reduce;try simp only[cJ,Int.cast_ofNat_Int,Int.reduceNegSucc,UInt8.reduceOfNat])⟩:{x // codeOf Tryz.prog 85 (fun _=>false)=some x}).1
theorem ky (n:Int) (h0: -10000000000≤n) (h1:n≤10000000000):(Lib.itoa n).length≤21:=by
 have hl:=Lib.decDigits_length n.natAbs;have hl2:=Lib.nDigits_le20 n.natAbs (by omega);unfold Lib.itoa;split
 ·rw[List.length_cons];omega
 ·rw[show n.toNat=n.natAbs by omega];omega
end
end Pur
end
section
namespace Rf
def jL {α:Type} (p:α→Bool) (l:List α):Int:=match l.findIdx? p with
 |some i=>i
 |none=> -1
theorem pq {α:Type} (p:α→Bool) (l:List α) (k:Nat) (d:α) (hk:k<l.length) (h:(l.take k).all (fun x=>!p x)=true) (hp:p (l.getD k d)=true):jL p l=k:=by
 have:l.findIdx? p=some k:=by
  rw[List.findIdx?_eq_some_iff_getElem];refine⟨hk,by rw[List.getD,List.getElem?_eq_getElem hk]at hp;exact hp,fun j hj=>?_⟩;have:=List.all_eq_true.mp h (l[j]'(by omega)) (by
   rw[List.mem_take_iff_getElem];exact⟨j,by omega,rfl⟩)
  simpa using this
 rw[jL,this]
theorem nv {α:Type} (p:α→Bool) (l:List α) (h:l.all (fun x=>!p x)=true):jL p l= -1:=by
 have:l.findIdx? p=none:=by
  rw[List.findIdx?_eq_none_iff];intro x hx;have:=List.all_eq_true.mp h x hx;simpa using this
 rw[jL,this]
theorem re {α:Type} (p:α→Bool) (l:List α):decide (0≤jL p l)=l.any p:=by
 cases h:l.findIdx? p with
 |none =>
  rw[List.findIdx?_eq_none_iff]at h;have:l.any p=false:=List.any_eq_false.mpr fun x hx=>by rw[h x hx];simp
  rw[this,jL,List.findIdx?_eq_none_iff.mpr h];rfl
 |some i =>
  rw[jL,h];rw[List.findIdx?_eq_some_iff_getElem]at h;obtain⟨h1,h2,-⟩:=h;rw[show l.any p=true from List.any_eq_true.mpr ⟨_,List.getElem_mem h1,h2⟩];simp
end Rf
namespace Pur
open Go.RowKit
open Rf
theorem iv {α:Type} {g:α→List PV} {f:α→PV} (hg:∀x,g x=[f x]) (l:List α) (k:Nat) (d:α) (e:PV) (hk:k<l.length):(l.flatMap g)[k]?.getD e=f (l.getD k d):=by
 have:=cX (g:=g) (m:=1) (fun x=>by rw[hg];rfl) l k d 0 hk (by omega);rw[Nat.mul_one,Nat.add_zero]at this;rw[this,hg];rfl
theorem aN.JQ {C:Ctx} {g:FuncId} {p r:PV} {B:dT} {ps:List PV} (hB:B.cells=ps.map .pv) (h:aN C g [.pv p,.ptr 0 0 0] [B] (.pv r) [B]) {μ:AM} {j:Nat} (hj:μ[j]?=some B):aN C g [.pv p,.ptr j 0 0] μ (.pv r) μ:=by
 have he:∀aD n,r9 aD n B=B:=fun aD n=>by
  obtain⟨cs,a,b,c,d⟩:=B;simp only at hB;subst hB;simp[r9,pS,Function.comp_def]
 have hlt:=(List.getElem?_eq_some_iff.mp hj).1;have h1:=h.frame [j] μ (by simp) (by simpa using hlt) ⟨by rw[he];exact hj,trivial⟩ (by simp[aP,hB,ck]) (by simp[ck,Nat.blt]) (by simp);have h2:μ.set j B=μ:=by
  refine List.ext_getElem? fun i=>?_
  by_cases hi:j=i
  ·subst hi;rw[List.getElem?_set_self hlt,hj]
  ·rw[List.getElem?_set_ne hi]
 simpa [pS,o9,xY,he,h2]using h1
theorem BE (g:FuncId) (l:List Rg) (hl:l.length≤1000000000) (p:Rg→Bool) (h:∀x∈l,aj ctx g [.agg [.int .i64 x.lo,.int .i64 x.hi]] (.bool (p x))) :
  aj ctx 126 [ai l,.val (.func (.func g) #[] #[])] (.int .i64 (jL p l)):=by
 have f1:=bN l;refine af (C:=ctx) (Fn.of Ga rfl) rfl ?_;unfold BC;repeat' (first|((with_reducible first|show aG _|show aM _);simp[vb]<;>omega)|exact(rfl:some _=_)|((fail_if_success refine aT ?_);refine aZ ?_;(repeat1' dsimp only[BC,ai,go_sem]);first|refine aU ?_ ?_ rfl ?_|apply aV|apply aW|(refine aX (fun hc=>?_) fun hc=>?_<;>first|(cases hc;done)|(exfalso;simp at hc<;>omega)|(try simp only[bn]at hc;try contradiction))|skip))
 refine bg l.length (fun k=>(l.take k).all (fun x=>!p x)=true) (fun k=>[(0,.pv (ai l)),(1,.pv (.val (.func (.func g) #[] #[]))),(7,.pv (.int .i64 l.length)),(8,.pv (.int .i64 k))]) (fun _=>[]) rfl (by (repeat' (first|exact trivial|refine And.intro (by first|rfl|(simp[get,Nat.beq]<;>omega)|(dsimp only[get];congr 1<;>first|rfl|omega|(simp<;>omega))) ?_))) ⟨[],rfl⟩ (fun _=>⟨Nat.zero_le _,rfl,rfl⟩) fun k hk hP=>?_
 by_cases hlt:k<l.length
 ·have e:=bM iq l k zr hlt;have h1:=dh (fun x=>!p x) l k zr hlt;have h2:=pq p l k zr hlt hP;have hx:=h (l.getD k zr) (aO hlt);rw[hP,Bool.true_and]at h1;clear h;generalize l.getD k zr=x at *;generalize p x=px at *;repeat' (first|((with_reducible first|show aG _|show aM _);(try dsimp only[go_sem]);first|(simp[vb,e,f1,hlt,hx,fW]<;>omega)|(simp only[vb,and_true,true_implies];(repeat' (first|(with_reducible assumption)|(with_reducible apply And.intro)|intro _|((fail_if_success (with_reducible show(_:Int)≤_));assumption)))<;>first|omega|(simp only[ab,e,f1,hlt,hx,fW];done)|(simp[e,f1,hlt,hx,fW]<;>omega)))|exact(rfl:some _=_)|((fail_if_success refine aT ?_);refine br [ξ 15 (.agg [.int .i64 x.lo,.int .i64 x.hi]),ξ 16 (.bool px)] ?_;(repeat1' dsimp only[BC,ai,go_sem]);first|refine aU ?_ ?_ rfl ?_|apply aV|apply aW|(refine aX (fun hc=>?_) fun hc=>?_<;>first|(cases hc;done)|(exfalso;simp[e,f1,hlt,hx,fW]at hc<;>omega)|(try simp only[bn]at hc;try contradiction))|skip))
  all_goals first
   |(rw[h2 hc];done)
   |(
    refine⟨hlt,?_,by (repeat' (first|exact trivial|refine And.intro (by first|rfl|(simp[get,Nat.beq]<;>omega)|(dsimp only[get];congr 1<;>first|rfl|omega|(simp<;>omega))) ?_)),[],rfl⟩;rw[h1,hc];rfl)
 ·obtain rfl:k=l.length:=by omega
  rw[List.take_length]at hP;rw[nv p l hP];repeat' (first|((with_reducible first|show aG _|show aM _);simp[vb,hlt]<;>omega)|exact(rfl:some _=_)|((fail_if_success refine aT ?_);refine aZ ?_;(repeat1' dsimp only[BC,ai,go_sem]);first|refine aU ?_ ?_ rfl ?_|apply aV|apply aW|(refine aX (fun hc=>?_) fun hc=>?_<;>first|(cases hc;done)|(exfalso;simp[hlt]at hc<;>omega)|(try simp only[bn]at hc;try contradiction))|skip))
theorem BF (g:FuncId) (l:List Rg) (hl:l.length≤1000000000) (p:Rg→Bool) (h:∀x∈l,aj ctx g [.agg [.int .i64 x.lo,.int .i64 x.hi]] (.bool (p x))) :
  aj ctx 101 [ai l,.val (.func (.func g) #[] #[])] (.bool (l.any p)):=by
 have hx:=BE g l hl p h;rw[←re];generalize jL p l=r at *;unfold ai at hx;refine af (C:=ctx) (Fn.of F0 rfl) rfl ?_;unfold E1;repeat' (first|((with_reducible first|show aG _|show aM _);simp[vb,hx,ai]<;>omega)|exact(rfl:some _=_)|((fail_if_success refine aT ?_);refine fu [(126,fun _=>some (.int .i64 r))] ?_;(repeat1' dsimp only[E1,ai,go_sem]);first|refine aU ?_ ?_ rfl ?_|apply aV|apply aW|(refine aX (fun hc=>?_) fun hc=>?_<;>first|(cases hc;done)|(exfalso;simp[hx,ai]at hc<;>omega)|(try simp only[bn]at hc;try contradiction))|skip))
theorem BG (g:FuncId) (l:List Int) (hl:l.length≤1000000000) (p:Int→Bool) (h:∀x∈l,aj ctx g [.int .i64 x] (.bool (p x))) :
  aj ctx 127 [an l,.val (.func (.func g) #[] #[])] (.int .i64 (jL p l)):=by
 have f1:=dj l;refine af (C:=ctx) (Fn.of Gb rfl) rfl ?_;unfold c127;repeat' (first|((with_reducible first|show aG _|show aM _);simp[vb]<;>omega)|exact(rfl:some _=_)|((fail_if_success refine aT ?_);refine aZ ?_;(repeat1' dsimp only[c127,an,go_sem]);first|refine aU ?_ ?_ rfl ?_|apply aV|apply aW|(refine aX (fun hc=>?_) fun hc=>?_<;>first|(cases hc;done)|(exfalso;simp at hc<;>omega)|(try simp only[bn]at hc;try contradiction))|skip))
 refine bg l.length (fun k=>(l.take k).all (fun x=>!p x)=true) (fun k=>[(0,.pv (an l)),(1,.pv (.val (.func (.func g) #[] #[]))),(7,.pv (.int .i64 l.length)),(8,.pv (.int .i64 k))]) (fun _=>[]) rfl (by (repeat' (first|exact trivial|refine And.intro (by first|rfl|(simp[get,Nat.beq]<;>omega)|(dsimp only[get];congr 1<;>first|rfl|omega|(simp<;>omega))) ?_))) ⟨[],rfl⟩ (fun _=>⟨Nat.zero_le _,rfl,rfl⟩) fun k hk hP=>?_
 by_cases hlt:k<l.length
 ·have e:=iv (g:=bO) (fun _=>rfl) l k 0 default hlt;have h1:=dh (fun x=>!p x) l k 0 hlt;have h2:=pq p l k 0 hlt hP;have hx:=h (l.getD k 0) (aO hlt);rw[hP,Bool.true_and]at h1;clear h;generalize l.getD k 0=x at *;generalize p x=px at *;repeat' (first|((with_reducible first|show aG _|show aM _);(try dsimp only[go_sem]);first|(simp[vb,e,f1,hlt,hx,bO]<;>omega)|(simp only[vb,and_true,true_implies];(repeat' (first|(with_reducible assumption)|(with_reducible apply And.intro)|intro _|((fail_if_success (with_reducible show(_:Int)≤_));assumption)))<;>first|omega|(simp only[ab,e,f1,hlt,hx,bO];done)|(simp[e,f1,hlt,hx,bO]<;>omega)))|exact(rfl:some _=_)|((fail_if_success refine aT ?_);refine br [ξ 15 (.int .i64 x),ξ 16 (.bool px)] ?_;(repeat1' dsimp only[c127,an,go_sem]);first|refine aU ?_ ?_ rfl ?_|apply aV|apply aW|(refine aX (fun hc=>?_) fun hc=>?_<;>first|(cases hc;done)|(exfalso;simp[e,f1,hlt,hx,bO]at hc<;>omega)|(try simp only[bn]at hc;try contradiction))|skip))
  all_goals first
   |(rw[h2 hc];done)
   |(
    refine⟨hlt,?_,by (repeat' (first|exact trivial|refine And.intro (by first|rfl|(simp[get,Nat.beq]<;>omega)|(dsimp only[get];congr 1<;>first|rfl|omega|(simp<;>omega))) ?_)),[],rfl⟩;rw[h1,hc];rfl)
 ·obtain rfl:k=l.length:=by omega
  rw[List.take_length]at hP;rw[nv p l hP];repeat' (first|((with_reducible first|show aG _|show aM _);simp[vb,hlt]<;>omega)|exact(rfl:some _=_)|((fail_if_success refine aT ?_);refine aZ ?_;(repeat1' dsimp only[c127,an,go_sem]);first|refine aU ?_ ?_ rfl ?_|apply aV|apply aW|(refine aX (fun hc=>?_) fun hc=>?_<;>first|(cases hc;done)|(exfalso;simp[hlt]at hc<;>omega)|(try simp only[bn]at hc;try contradiction))|skip))
theorem BH (g:FuncId) (l:List Int) (hl:l.length≤1000000000) (p:Int→Bool) (h:∀x∈l,aj ctx g [.int .i64 x] (.bool (p x))) :
  aj ctx 103 [an l,.val (.func (.func g) #[] #[])] (.bool (l.any p)):=by
 have hx:=BG g l hl p h;rw[←re];generalize jL p l=r at *;unfold an at hx;refine af (C:=ctx) (Fn.of F4 rfl) rfl ?_;unfold E3;repeat' (first|((with_reducible first|show aG _|show aM _);simp[vb,hx,an]<;>omega)|exact(rfl:some _=_)|((fail_if_success refine aT ?_);refine fu [(127,fun _=>some (.int .i64 r))] ?_;(repeat1' dsimp only[E3,an,go_sem]);first|refine aU ?_ ?_ rfl ?_|apply aV|apply aW|(refine aX (fun hc=>?_) fun hc=>?_<;>first|(cases hc;done)|(exfalso;simp[hx,an]at hc<;>omega)|(try simp only[bn]at hc;try contradiction))|skip))
theorem BI (g:FuncId) (μ:AM) (hμ:aP μ μ.length=true) (j:Nat) (hj:j<μ.length) (l:List Rw) (hl:l.length≤1000000000) (p:Rw→Bool) (h:∀x∈l,aN ctx g [.pv (.agg [av x.terms,.int .i64 x.bound]),.ptr j 0 0] μ (.pv (.bool (p x))) μ) :
  aN ctx 125 [.pv (ax l),.fn g [.ptr j 0 0]] μ (.pv (.int .i64 (jL p l))) μ:=by
 have f1:=fL l;refine bo (C:=ctx) (Fn.of F8 rfl) rfl (by simp) rfl hμ ?_;unfold BA;repeat' (first|((with_reducible first|show aG _|show aM _);simp[vb]<;>omega)|exact(rfl:some _=_)|((fail_if_success refine aT ?_);refine aZ ?_;(repeat1' dsimp only[BA,ax,go_sem]);first|refine aU ?_ ?_ rfl ?_|apply aV|apply aW|(refine aX (fun hc=>?_) fun hc=>?_<;>first|(cases hc;done)|(exfalso;simp at hc<;>omega)|(try simp only[bn]at hc;try contradiction))|skip))
 refine bg l.length (fun k=>(l.take k).all (fun x=>!p x)=true) (fun k=>[(0,.pv (ax l)),(1,.fn g [.ptr j 0 0]),(7,.pv (.int .i64 l.length)),(8,.pv (.int .i64 k))]) (fun _=>μ) rfl (by (repeat' (first|exact trivial|refine And.intro (by first|rfl|(simp[get,Nat.beq]<;>omega)|(dsimp only[get];congr 1<;>first|rfl|omega|(simp<;>omega))) ?_))) ⟨[],(List.append_nil _).symm⟩ (fun _=>⟨Nat.le_refl _,by simp[dm,ck,Nat.blt];omega,hμ⟩) fun k hk hP=>?_
 by_cases hlt:k<l.length
 ·have e:=bM kQ l k zw hlt;have h1:=dh (fun x=>!p x) l k zw hlt;have h2:=pq p l k zw hlt hP;have hx:=h (l.getD k zw) (aO hlt);rw[hP,Bool.true_and]at h1;clear h;generalize l.getD k zw=x at *;generalize p x=px at *;repeat' (first|((with_reducible first|show aG _|show aM _);(try dsimp only[go_sem]);first|(simp[vb,e,f1,hlt,hx,dI]<;>omega)|(simp only[vb,and_true,true_implies];(repeat' (first|(with_reducible assumption)|(with_reducible apply And.intro)|intro _|((fail_if_success (with_reducible show(_:Int)≤_));assumption)))<;>first|omega|(simp only[ab,e,f1,hlt,hx,dI];done)|(simp[e,f1,hlt,hx,dI]<;>omega)))|exact(rfl:some _=_)|((fail_if_success refine aT ?_);refine br [ξ 15 (.agg [av x.terms,.int .i64 x.bound]),(16,{val:=some (.pv (.bool px)),ro:=true})] ?_;(repeat1' dsimp only[BA,ax,go_sem]);first|refine aU ?_ ?_ rfl ?_|apply aV|apply aW|(refine aX (fun hc=>?_) fun hc=>?_<;>first|(cases hc;done)|(exfalso;simp[e,f1,hlt,hx,dI]at hc<;>omega)|(try simp only[bn]at hc;try contradiction))|skip))
  all_goals first
   |(rw[h2 hc];exact⟨⟨trivial,rfl⟩,[],(List.append_nil _).symm⟩)
   |(
    refine⟨hlt,?_,by (repeat' (first|exact trivial|refine And.intro (by first|rfl|(simp[get,Nat.beq]<;>omega)|(dsimp only[get];congr 1<;>first|rfl|omega|(simp<;>omega))) ?_)),[],(List.append_nil _).symm⟩;rw[h1,hc];rfl)
 ·obtain rfl:k=l.length:=by omega
  rw[List.take_length]at hP;rw[nv p l hP];repeat' (first|((with_reducible first|show aG _|show aM _);simp[vb,hlt]<;>omega)|exact(rfl:some _=_)|((fail_if_success refine aT ?_);refine aZ ?_;(repeat1' dsimp only[BA,ax,go_sem]);first|refine aU ?_ ?_ rfl ?_|apply aV|apply aW|(refine aX (fun hc=>?_) fun hc=>?_<;>first|(cases hc;done)|(exfalso;simp[hlt]at hc<;>omega)|(try simp only[bn]at hc;try contradiction))|skip))
  all_goals exact⟨⟨trivial,rfl⟩,[],(List.append_nil _).symm⟩
theorem Dq (g:FuncId) (μ:AM) (hμ:aP μ μ.length=true) (j:Nat) (hj:j<μ.length) (l:List Rw) (hl:l.length≤1000000000) (p:Rw→Bool) (h:∀x∈l,aN ctx g [.pv (.agg [av x.terms,.int .i64 x.bound]),.ptr j 0 0] μ (.pv (.bool (p x))) μ) :
  aN ctx 98 [.pv (ax l),.fn g [.ptr j 0 0]] μ (.pv (.bool (l.any p))) μ:=by
 have hx:=BI g μ hμ j hj l hl p h;rw[←re];generalize jL p l=r at *;unfold ax at hx;refine bo (C:=ctx) (Fn.of HX rfl) rfl (by simp) rfl hμ ?_;unfold IB;repeat' (first|((with_reducible first|show aG _|show aM _);simp[vb,hx,ax]<;>omega)|exact(rfl:some _=_)|((fail_if_success refine aT ?_);refine br [(7,{val:=some (.pv (.int .i64 r)),ro:=true})] ?_;(repeat1' dsimp only[IB,ax,go_sem]);first|refine aU ?_ ?_ rfl ?_|apply aV|apply aW|(refine aX (fun hc=>?_) fun hc=>?_<;>first|(cases hc;done)|(exfalso;simp[hx,ax]at hc<;>omega)|(try simp only[bn]at hc;try contradiction))|skip))
 all_goals exact⟨⟨trivial,rfl⟩,[],(List.append_nil _).symm⟩
theorem BJ (g:FuncId) (μ:AM) (hμ:aP μ μ.length=true) (j:Nat) (hj:j<μ.length) (l:List (List Rw)) (hl:l.length≤1000000000) (p:(List Rw)→Bool) (h:∀x∈l,aN ctx g [.pv (ax x),.ptr j 0 0] μ (.pv (.bool (p x))) μ) :
  aN ctx 105 [.pv (aC l),.fn g [.ptr j 0 0]] μ (.pv (.int .i64 (jL p l))) μ:=by
 have f1:=mf l;refine bo (C:=ctx) (Fn.of F6 rfl) rfl (by simp) rfl hμ ?_;unfold c105;repeat' (first|((with_reducible first|show aG _|show aM _);simp[vb]<;>omega)|exact(rfl:some _=_)|((fail_if_success refine aT ?_);refine aZ ?_;(repeat1' dsimp only[c105,aC,go_sem]);first|refine aU ?_ ?_ rfl ?_|apply aV|apply aW|(refine aX (fun hc=>?_) fun hc=>?_<;>first|(cases hc;done)|(exfalso;simp at hc<;>omega)|(try simp only[bn]at hc;try contradiction))|skip))
 refine bg l.length (fun k=>(l.take k).all (fun x=>!p x)=true) (fun k=>[(0,.pv (aC l)),(1,.fn g [.ptr j 0 0]),(7,.pv (.int .i64 l.length)),(8,.pv (.int .i64 k))]) (fun _=>μ) rfl (by (repeat' (first|exact trivial|refine And.intro (by first|rfl|(simp[get,Nat.beq]<;>omega)|(dsimp only[get];congr 1<;>first|rfl|omega|(simp<;>omega))) ?_))) ⟨[],(List.append_nil _).symm⟩ (fun _=>⟨Nat.le_refl _,by simp[dm,ck,Nat.blt];omega,hμ⟩) fun k hk hP=>?_
 by_cases hlt:k<l.length
 ·have e:=iv (g:=sE) (fun _=>rfl) l k [] default hlt;have h1:=dh (fun x=>!p x) l k [] hlt;have h2:=pq p l k [] hlt hP;have hx:=h (l.getD k []) (aO hlt);rw[hP,Bool.true_and]at h1;clear h;generalize l.getD k []=x at *;generalize p x=px at *;repeat' (first|((with_reducible first|show aG _|show aM _);(try dsimp only[go_sem]);first|(simp[vb,e,f1,hlt,hx,sE]<;>omega)|(simp only[vb,and_true,true_implies];(repeat' (first|(with_reducible assumption)|(with_reducible apply And.intro)|intro _|((fail_if_success (with_reducible show(_:Int)≤_));assumption)))<;>first|omega|(simp only[ab,e,f1,hlt,hx,sE];done)|(simp[e,f1,hlt,hx,sE]<;>omega)))|exact(rfl:some _=_)|((fail_if_success refine aT ?_);refine br [ξ 15 (ax x),(16,{val:=some (.pv (.bool px)),ro:=true})] ?_;(repeat1' dsimp only[c105,aC,go_sem]);first|refine aU ?_ ?_ rfl ?_|apply aV|apply aW|(refine aX (fun hc=>?_) fun hc=>?_<;>first|(cases hc;done)|(exfalso;simp[e,f1,hlt,hx,sE]at hc<;>omega)|(try simp only[bn]at hc;try contradiction))|skip))
  all_goals first
   |(rw[h2 hc];exact⟨⟨trivial,rfl⟩,[],(List.append_nil _).symm⟩)
   |(
    refine⟨hlt,?_,by (repeat' (first|exact trivial|refine And.intro (by first|rfl|(simp[get,Nat.beq]<;>omega)|(dsimp only[get];congr 1<;>first|rfl|omega|(simp<;>omega))) ?_)),[],(List.append_nil _).symm⟩;rw[h1,hc];rfl)
 ·obtain rfl:k=l.length:=by omega
  rw[List.take_length]at hP;rw[nv p l hP];repeat' (first|((with_reducible first|show aG _|show aM _);simp[vb,hlt]<;>omega)|exact(rfl:some _=_)|((fail_if_success refine aT ?_);refine aZ ?_;(repeat1' dsimp only[c105,aC,go_sem]);first|refine aU ?_ ?_ rfl ?_|apply aV|apply aW|(refine aX (fun hc=>?_) fun hc=>?_<;>first|(cases hc;done)|(exfalso;simp[hlt]at hc<;>omega)|(try simp only[bn]at hc;try contradiction))|skip))
  all_goals exact⟨⟨trivial,rfl⟩,[],(List.append_nil _).symm⟩
theorem Dr (g:FuncId) (μ:AM) (hμ:aP μ μ.length=true) (j:Nat) (hj:j<μ.length) (l:List (List Rw)) (hl:l.length≤1000000000) (p:(List Rw)→Bool) (h:∀x∈l,aN ctx g [.pv (ax x),.ptr j 0 0] μ (.pv (.bool (p x))) μ) :
  aN ctx 75 [.pv (aC l),.fn g [.ptr j 0 0]] μ (.pv (.bool (l.any p))) μ:=by
 have hx:=BJ g μ hμ j hj l hl p h;rw[←re];generalize jL p l=r at *;unfold aC at hx;refine bo (C:=ctx) (Fn.of HS rfl) rfl (by simp) rfl hμ ?_;unfold c75;repeat' (first|((with_reducible first|show aG _|show aM _);simp[vb,hx,aC]<;>omega)|exact(rfl:some _=_)|((fail_if_success refine aT ?_);refine br [(7,{val:=some (.pv (.int .i64 r)),ro:=true})] ?_;(repeat1' dsimp only[c75,aC,go_sem]);first|refine aU ?_ ?_ rfl ?_|apply aV|apply aW|(refine aX (fun hc=>?_) fun hc=>?_<;>first|(cases hc;done)|(exfalso;simp[hx,aC]at hc<;>omega)|(try simp only[bn]at hc;try contradiction))|skip))
 all_goals exact⟨⟨trivial,rfl⟩,[],(List.append_nil _).symm⟩
theorem BK (g:FuncId) (μ:AM) (hμ:aP μ μ.length=true) (j:Nat) (hj:j<μ.length) (l:List Tm) (hl:l.length≤1000000000) (p:Tm→Bool) (h:∀x∈l,aN ctx g [.pv (.agg [.int .i64 x.cell,.int .i64 x.fac]),.ptr j 0 0] μ (.pv (.bool (p x))) μ) :
  aN ctx 147 [.pv (av l),.fn g [.ptr j 0 0]] μ (.pv (.int .i64 (jL p l))) μ:=by
 have f1:=gX l;refine bo (C:=ctx) (Fn.of Ge rfl) rfl (by simp) rfl hμ ?_;unfold BD;repeat' (first|((with_reducible first|show aG _|show aM _);simp[vb]<;>omega)|exact(rfl:some _=_)|((fail_if_success refine aT ?_);refine aZ ?_;(repeat1' dsimp only[BD,av,go_sem]);first|refine aU ?_ ?_ rfl ?_|apply aV|apply aW|(refine aX (fun hc=>?_) fun hc=>?_<;>first|(cases hc;done)|(exfalso;simp at hc<;>omega)|(try simp only[bn]at hc;try contradiction))|skip))
 refine bg l.length (fun k=>(l.take k).all (fun x=>!p x)=true) (fun k=>[(0,.pv (av l)),(1,.fn g [.ptr j 0 0]),(7,.pv (.int .i64 l.length)),(8,.pv (.int .i64 k))]) (fun _=>μ) rfl (by (repeat' (first|exact trivial|refine And.intro (by first|rfl|(simp[get,Nat.beq]<;>omega)|(dsimp only[get];congr 1<;>first|rfl|omega|(simp<;>omega))) ?_))) ⟨[],(List.append_nil _).symm⟩ (fun _=>⟨Nat.le_refl _,by simp[dm,ck,Nat.blt];omega,hμ⟩) fun k hk hP=>?_
 by_cases hlt:k<l.length
 ·have e:=bM me l k zm hlt;have h1:=dh (fun x=>!p x) l k zm hlt;have h2:=pq p l k zm hlt hP;have hx:=h (l.getD k zm) (aO hlt);rw[hP,Bool.true_and]at h1;clear h;generalize l.getD k zm=x at *;generalize p x=px at *;repeat' (first|((with_reducible first|show aG _|show aM _);(try dsimp only[go_sem]);first|(simp[vb,e,f1,hlt,hx,j5]<;>omega)|(simp only[vb,and_true,true_implies];(repeat' (first|(with_reducible assumption)|(with_reducible apply And.intro)|intro _|((fail_if_success (with_reducible show(_:Int)≤_));assumption)))<;>first|omega|(simp only[ab,e,f1,hlt,hx,j5];done)|(simp[e,f1,hlt,hx,j5]<;>omega)))|exact(rfl:some _=_)|((fail_if_success refine aT ?_);refine br [ξ 15 (.agg [.int .i64 x.cell,.int .i64 x.fac]),(16,{val:=some (.pv (.bool px)),ro:=true})] ?_;(repeat1' dsimp only[BD,av,go_sem]);first|refine aU ?_ ?_ rfl ?_|apply aV|apply aW|(refine aX (fun hc=>?_) fun hc=>?_<;>first|(cases hc;done)|(exfalso;simp[e,f1,hlt,hx,j5]at hc<;>omega)|(try simp only[bn]at hc;try contradiction))|skip))
  all_goals first
   |(rw[h2 hc];exact⟨⟨trivial,rfl⟩,[],(List.append_nil _).symm⟩)
   |(
    refine⟨hlt,?_,by (repeat' (first|exact trivial|refine And.intro (by first|rfl|(simp[get,Nat.beq]<;>omega)|(dsimp only[get];congr 1<;>first|rfl|omega|(simp<;>omega))) ?_)),[],(List.append_nil _).symm⟩;rw[h1,hc];rfl)
 ·obtain rfl:k=l.length:=by omega
  rw[List.take_length]at hP;rw[nv p l hP];repeat' (first|((with_reducible first|show aG _|show aM _);simp[vb,hlt]<;>omega)|exact(rfl:some _=_)|((fail_if_success refine aT ?_);refine aZ ?_;(repeat1' dsimp only[BD,av,go_sem]);first|refine aU ?_ ?_ rfl ?_|apply aV|apply aW|(refine aX (fun hc=>?_) fun hc=>?_<;>first|(cases hc;done)|(exfalso;simp[hlt]at hc<;>omega)|(try simp only[bn]at hc;try contradiction))|skip))
  all_goals exact⟨⟨trivial,rfl⟩,[],(List.append_nil _).symm⟩
end Pur
end
section
namespace Rf
open Pur
def E9 (k:Int) (_:Int) (t:Tree):Bool×Int:=(true,IntKind.i64.wrap (k+t.steps.length))
def H0 (k:Int) (lev:Int) (_:Tree):Bool×Int:=(true,if k<lev then lev else k)
theorem An {n:Int} (h1:0≤n) (h2:n≤4000000000):IntKind.i64.wrap n=n:=gP (by unfold lI;omega) (by unfold fX;omega)
mutual
theorem Ao:∀(t:Tree) (k lev:Int),0≤k→k+wt t≤3000000000→qO E9 k lev t=(true,k+bU t)
 | .node kd s c a l,k,lev,h0,h1=>by
  rw[bE]at h1;rw[qO,fv];show(match E9 k lev (.node kd s c a l) with|(false,k1)=>(false,k1)|(true,k1)=>il E9 k1 (lev+1) l)=_;have hs:E9 k lev (.node kd s c a l)=(true,k+s.length):=by
   simp only[E9,Tree.steps];rw[An (by omega) (by omega)]
  rw[hs];show il E9 _ _ l=_;rw[xy l _ _ (by omega) (by push_cast at h1;omega)];simp only[Prod.mk.injEq,true_and];push_cast;omega
theorem xy:∀(l:List Tree) (k lev:Int),0≤k→k+fg l≤3000000000→il E9 k lev l=(true,k+bj l)
 |[],k,lev,h0,h1=>by rw[il];simp[bj]
 |t::r,k,lev,h0,h1=>by
  rw[fg]at h1;have:=gV t;rw[il,Ao t k lev h0 (by push_cast at h1;omega)];show il E9 _ _ r=_;rw[xy r _ _ (by omega) (by push_cast at h1;omega),bj];simp only[Prod.mk.injEq,true_and];push_cast;omega
end
mutual
theorem Ap:∀(t:Tree) (k lev:Int),lev-1≤k→qO H0 k lev t=(true,if k<lev+db t-1 then lev+db t-1 else k)
 | .node kd s c a l,k,lev,h0=>by
  rw[qO,jA];show il H0 (if k<lev then lev else k) (lev+1) l=_;rw[xz l _ _ (by split<;>omega)];simp only[Prod.mk.injEq,true_and];(repeat' split)<;>omega
theorem xz:∀(l:List Tree) (k lev:Int),lev-1≤k→il H0 k lev l=(true,if k<lev+bR l-1 then lev+bR l-1 else k)
 |[],k,lev,h0=>by
  rw[il];simp only[bR,Prod.mk.injEq,true_and];(repeat' split)<;>omega
 |t::r,k,lev,h0=>by
  rw[il,Ap t k lev h0];show il H0 _ lev r=_;rw[xz r _ _ (by split<;>omega),bR];simp only[Prod.mk.injEq,true_and];rcases Nat.le_total (db t) (bR r) with h|h
  ·rw[Nat.max_eq_right h];(repeat' split)<;>omega
  ·rw[Nat.max_eq_left h];(repeat' split)<;>omega
end
def uw (k:Int×Bool) (lev:Int) (t:Tree):Bool×Int×Bool :=
 let c:=IntKind.i64.wrap (k.1+(1+t.steps.length))
 let bad:=bif decide (lev>4096) then true else bif decide (c>65536) then true else !qE t
 (!bad,c,bad)
theorem G6 (a b:Bool):(bif a then true else b)=(a||b):=by cases a<;>rfl
mutual
theorem Aq:∀(t:Tree) (c lev:Int),0≤c→c+wt t≤3000000000→(qO uw (c,false) lev t).2.2= !(qO uw (c,false) lev t).1 ∧
  ((qO uw (c,false) lev t).1=true↔(lev+db t≤4097∧c+wt t≤65536∧cT t=true))∧((qO uw (c,false) lev t).1=true→(qO uw (c,false) lev t).2=(c+wt t,false))
 | .node kd s x a l,c,lev,h0,h1=>by
  rw[bE]at h1 ⊢;rw[qO,jA,cD];have hs:uw (c,false) lev (.node kd s x a l)=(!(decide (lev>4096)||(decide (c+(1+s.length)>65536)|| !(s.all bk&&bQ kd x a l.length))),c+(1+s.length),decide (lev>4096)||(decide (c+(1+s.length)>65536)|| !(s.all bk&&bQ kd x a l.length))):=by
   have hw:IntKind.i64.wrap (c+(1+s.length))=c+(1+s.length):=An (by omega) (by push_cast at h1;omega);simp only[uw,qE,Tree.steps,Tree.kind,Tree.cell,Tree.pos,Tree.kids,G6,hw]
  rw[hs];cases hb:decide (lev>4096)||(decide (c+(1+s.length)>65536)|| !(s.all bk&&bQ kd x a l.length)) with
  |true =>
   refine⟨rfl,⟨(fun h=>by cases h),fun ⟨g1,g2,g3⟩=>?_⟩,(fun h=>by cases h)⟩;exfalso;simp only[Bool.and_eq_true]at g3;simp only[Bool.or_eq_true,decide_eq_true_eq,Bool.not_eq_true',Bool.and_eq_false_iff]at hb;rw[g3.1.1,g3.1.2]at hb;push_cast at g1 g2;simp at hb;omega
  |false =>
   simp only[Bool.or_eq_false_iff,decide_eq_false_iff_not,Bool.not_eq_false']at hb;obtain⟨b1,b2,b3⟩:=hb;obtain⟨q1,q2,q3⟩:=xA l (c+(1+s.length)) (lev+1) (by omega) (by push_cast at h1;omega) (by omega) (by omega);refine⟨q1,q2.trans ?_,fun h=>(q3 h).trans ?_⟩
   ·rw[b3,Bool.true_and];push_cast;constructor
    ·rintro⟨g1,g2,g3⟩;exact⟨by omega,by omega,g3⟩
    ·rintro⟨g1,g2,g3⟩;exact⟨by omega,by omega,g3⟩
   ·push_cast;rw[Prod.mk.injEq];exact⟨by omega,rfl⟩
theorem xA:∀(l:List Tree) (c lev:Int),0≤c→c+fg l≤3000000000→c≤65536→lev≤4097→(il uw (c,false) lev l).2.2= !(il uw (c,false) lev l).1 ∧
  ((il uw (c,false) lev l).1=true↔(lev+bR l≤4097∧c+fg l≤65536∧l.all cT=true))∧((il uw (c,false) lev l).1=true→(il uw (c,false) lev l).2=(c+fg l,false))
 |[],c,lev,h0,h1,h2,h3=>by
  rw[il];refine⟨rfl,⟨fun _=>⟨by simp[bR];omega,by simp[fg];omega,rfl⟩,fun _=>rfl⟩,fun _=>by simp[fg]⟩
 |t::r,c,lev,h0,h1,h2,h3=>by
  rw[fg]at h1 ⊢;rw[il,bR,List.all_cons];obtain⟨q1,q2,q3⟩:=Aq t c lev h0 (by push_cast at h1;omega);generalize qO uw (c,false) lev t=v at *;obtain⟨b,k1⟩:=v;simp only at q1 q2 q3;cases b with
  |false =>
   refine⟨q1,⟨(fun h=>by cases h),fun ⟨g1,g2,g3⟩=>?_⟩,(fun h=>by cases h)⟩;rw[Bool.and_eq_true]at g3;have:=Nat.le_max_left (db t) (bR r);exact absurd (q2.mpr ⟨by omega,by push_cast at g2;omega,g3.1⟩) (by simp)
  |true =>
   obtain⟨g1,g2,g3⟩:=q2.mp rfl;obtain rfl:=q3 rfl;obtain⟨p1,p2,p3⟩:=xA r (c+wt t) lev (by omega) (by push_cast at h1;omega) (by omega) h3;refine⟨p1,p2.trans ?_,fun h=>(p3 h).trans ?_⟩
   ·rw[g3,Bool.true_and];push_cast;constructor
    ·rintro⟨e1,e2,e3⟩;exact⟨by rcases Nat.le_total (db t) (bR r) with h|h<;>simp only[Nat.max_eq_right h,Nat.max_eq_left h]<;>omega,by omega,e3⟩
    ·rintro⟨e1,e2,e3⟩;exact⟨by have:=Nat.le_max_right (db t) (bR r);omega,by omega,e3⟩
   ·push_cast;rw[Prod.mk.injEq];exact⟨by omega,rfl⟩
end
theorem Ds (t:Tree) (h:wt t≤1000000000):(qO uw (0,false) 1 t).2.2= !eV t:=by
 obtain⟨q1,q2,-⟩:=Aq t 0 1 (by omega) (by omega);rw[q1];congr 1;rw[Bool.eq_iff_iff,q2];simp only[eV,Bool.and_eq_true,decide_eq_true_eq];constructor
 ·rintro⟨a,b,c⟩;exact⟨⟨by omega,by omega⟩,c⟩
 ·rintro⟨⟨a,b⟩,c⟩;exact⟨by omega,by omega,c⟩
end Rf
namespace Pur
open Go.RowKit
open Rf
def gL (k:Int):dT:=⟨[.pv (.int .i64 k)],0,1,3,false⟩
theorem Ar (k:Int):∀b∈[gL k],Bi b:=by
 intro b hb;rw[List.mem_singleton.mp hb];exact⟨by simp[gL,wS],rfl,rfl,by simp[gL]⟩
theorem Dt (t:Tree) (hw:wt t≤1000000000):aj ctx 15 [aA t] (.int .i64 (bU t)):=by
 refine oy (C:=ctx) (Fn.of IZ rfl) rfl ?_;unfold IY;refine gE (eR fun D=>?_);refine aZ ?_;dsimp only[aA,go_sem];try dsimp only[aA,go_sem]
 refine⟨(by simp[vb]<;>omega),(by simp[vb]<;>omega),?_⟩;refine gE (eR fun D=>?_);refine aZ ?_;dsimp only[aA,go_sem];try dsimp only[aA,go_sem]
 refine⟨(by simp[vb]<;>omega),(by simp[vb]<;>omega),?_⟩;refine gE (gE (eR fun D=>?_));have hn:=(sC t [ae t,gL 0] rfl).ED D;refine br [(7,{val:=some (.fn 67 [.ptr 2 0 0]),mem:=some ([ae t,gL 0]++[ae t])})] ?_;dsimp only[aA,ae,gL,go_sem];try dsimp only[aA,ae,gL,go_sem]
 refine⟨(by simp[vb]<;>omega),?_,?_⟩
 ·exact⟨hn,trivial⟩
 refine sj [1,2] rfl ?_;dsimp only[iz,gI,j0,dB,idxOf,go_sem]
 refine pW (pX (σ:=Int) (q:=1) (bt:=1) (k0:=0) (k':=bU t) (fo:=fun k=>[gL k]) (stop:=fun _=>false) (junk:=[ae t]) (kb:=ae t) (cells:=[.int .i64 t.kind,aa t.steps,.int .i64 t.cell,.int .i64 t.pos,ah t.kids]) (g0:=[(3,.ptr 0 0 0)]) (rv:=.pv (.tup [])) rfl (by omega) rfl rfl rfl (by simp[ae]) (by kernel_rfl) (fun _=>rfl) Ar rfl rfl (by (repeat' (first|exact trivial|refine And.intro (by first|rfl|(simp[get,Nat.beq]<;>omega)|(dsimp only[get];congr 1<;>first|rfl|omega|(simp<;>omega))) ?_))) (by omega) (by omega) (by omega) ?_ (fun _=>?_) (fun h=>by cases h))
 ·intro w0 w1 S γ l L hX hround;have:=p7 (X:=⟨_,hX.hE,_⟩) l E9 (fun _=>True) (fun _ _ _ _ _=>trivial) (fun k lev u μ _ hμ hwu hl0 hl1=>hround (.int .i64 lev) (aA u) k _ true μ rfl rfl ?_) t hw 0 trivial
  ·rw[Ao t 0 1 (by omega) (by omega)]at this;rw[Int.zero_add]at this;exact this
  ·refine j4 false [] ?_;dsimp only[aA,aa,ah,gL,cW,go_sem];refine⟨by simp[aG],by simp[aM],?_⟩;refine pV (j4 false [(4,{mode:=1})] ?_);dsimp only[aA,aa,ah,gL,cW,go_sem];refine⟨by simp[aG],by simp[aM],?_⟩;exact⟨rfl,_,rfl⟩
 ·refine eR fun D=>?_
  repeat' (first|((with_reducible first|show aG _|show aM _);simp[vb]<;>omega)|exact(rfl:some _=_)|((fail_if_success refine aT ?_);refine aZ ?_;(repeat1' dsimp only[IY,gL,go_sem]);first|refine aU ?_ ?_ rfl ?_|apply aV|apply aW|(refine aX (fun hc=>?_) fun hc=>?_<;>first|(cases hc;done)|(exfalso;simp at hc<;>omega)|(try simp only[bn]at hc;try contradiction))|skip))
theorem Du (t:Tree) (hw:wt t≤1000000000):aj ctx 17 [aA t] (.int .i64 (db t)):=by
 refine oy (C:=ctx) (Fn.of I1 rfl) rfl ?_;unfold I0;refine gE (eR fun D=>?_);refine aZ ?_;dsimp only[aA,go_sem];try dsimp only[aA,go_sem]
 refine⟨(by simp[vb]<;>omega),(by simp[vb]<;>omega),?_⟩;refine gE (eR fun D=>?_);refine aZ ?_;dsimp only[aA,go_sem];try dsimp only[aA,go_sem]
 refine⟨(by simp[vb]<;>omega),(by simp[vb]<;>omega),?_⟩;refine gE (gE (eR fun D=>?_));have hn:=(sC t [ae t,gL 0] rfl).ED D;refine br [(6,{val:=some (.fn 67 [.ptr 2 0 0]),mem:=some ([ae t,gL 0]++[ae t])})] ?_;dsimp only[aA,ae,gL,go_sem];try dsimp only[aA,ae,gL,go_sem]
 refine⟨(by simp[vb]<;>omega),?_,?_⟩
 ·exact⟨hn,trivial⟩
 refine sj [1,2] rfl ?_;dsimp only[iz,gI,j0,dB,idxOf,go_sem]
 refine pW (pX (σ:=Int) (q:=1) (bt:=1) (k0:=0) (k':=db t) (fo:=fun k=>[gL k]) (stop:=fun _=>false) (junk:=[ae t]) (kb:=ae t) (cells:=[.int .i64 t.kind,aa t.steps,.int .i64 t.cell,.int .i64 t.pos,ah t.kids]) (g0:=[(3,.ptr 0 0 0)]) (rv:=.pv (.tup [])) rfl (by omega) rfl rfl rfl (by simp[ae]) (by kernel_rfl) (fun _=>rfl) Ar rfl rfl (by (repeat' (first|exact trivial|refine And.intro (by first|rfl|(simp[get,Nat.beq]<;>omega)|(dsimp only[get];congr 1<;>first|rfl|omega|(simp<;>omega))) ?_))) (by omega) (by omega) (by omega) ?_ (fun _=>?_) (fun h=>by cases h))
 ·intro w0 w1 S γ l L hX hround;have:=p7 (X:=⟨_,hX.hE,_⟩) l H0 (fun _=>True) (fun _ _ _ _ _=>trivial) (fun k lev u μ _ hμ hwu hl0 hl1=>hround (.int .i64 lev) (aA u) k _ true μ rfl rfl ?_) t hw 0 trivial
  ·rw[Ap t 0 1 (by omega)]at this;have e:(if (0:Int)<1+db t-1 then (1:Int)+db t-1 else 0)=db t:=by split<;>omega
   rw[e]at this;exact this
  ·refine j4 false [] ?_;dsimp only[aA,aa,ah,gL,cW,go_sem];refine⟨by simp[aG],by simp[aM],?_⟩;refine pV (j4 false [] ?_);dsimp only[aA,aa,ah,gL,cW,go_sem];refine⟨by simp[aG],by simp[aM],?_⟩;exact⟨rfl,[],rfl⟩
 ·refine eR fun D=>?_
  repeat' (first|((with_reducible first|show aG _|show aM _);simp[vb]<;>omega)|exact(rfl:some _=_)|((fail_if_success refine aT ?_);refine aZ ?_;(repeat1' dsimp only[I0,gL,go_sem]);first|refine aU ?_ ?_ rfl ?_|apply aV|apply aW|(refine aX (fun hc=>?_) fun hc=>?_<;>first|(cases hc;done)|(exfalso;simp at hc<;>omega)|(try simp only[bn]at hc;try contradiction))|skip))
def pt (k:Int×Bool):AM:=[⟨[.pv (.bool false)],0,1,4,false⟩,gL k.1]
theorem Fc (k:Int×Bool):∀b∈pt k,Bi b:=by
 intro b hb;simp only[pt,List.mem_cons,List.not_mem_nil,or_false]at hb;rcases hb with rfl|rfl
 ·exact⟨by simp[wS],rfl,rfl,by simp⟩
 ·exact⟨by simp[gL,wS],rfl,rfl,by simp[gL]⟩
theorem sK (t:Tree) (hw:wt t≤1000000000):aj ctx 13 [aA t] (.bool (eV t)):=by
 refine oy (C:=ctx) (Fn.of I3 rfl) rfl ?_;unfold I2;refine gE (eR fun D=>?_);refine aZ ?_;dsimp only[aA,go_sem];try dsimp only[aA,go_sem]
 refine⟨(by simp[vb]<;>omega),(by simp[vb]<;>omega),?_⟩;refine gE (eR fun D=>?_);refine aZ ?_;dsimp only[aA,go_sem];try dsimp only[aA,go_sem]
 refine⟨(by simp[vb]<;>omega),(by simp[vb]<;>omega),?_⟩;refine gE (gE (eR fun D=>?_));have hn:=(sC t ([ae t]++pt (0,false)) rfl).ED D;refine br [(7,{val:=some (.fn 67 [.ptr 3 0 0]),mem:=some (([ae t]++pt (0,false))++[ae t])})] ?_;dsimp only[aA,ae,gL,pt,go_sem];try dsimp only[aA,ae,gL,pt,go_sem]
 refine⟨(by simp[vb]<;>omega),?_,?_⟩
 ·exact⟨hn,trivial⟩
 refine sj [1,2,3] rfl ?_;dsimp only[iz,gI,j0,dB,idxOf,go_sem];have hve:=Ds t hw
 refine pW (pX (σ:=Int×Bool) (q:=2) (bt:=2) (k0:=(0,false)) (k':=(qO uw (0,false) 1 t).2) (fo:=pt) (stop:=fun k=>k.2) (junk:=[ae t]) (kb:=ae t) (cells:=[.int .i64 t.kind,aa t.steps,.int .i64 t.cell,.int .i64 t.pos,ah t.kids]) (g0:=[(2,.ptr 0 0 0),(3,.ptr 1 0 0)]) (rv:=.pv (.tup [])) rfl (by omega) rfl rfl rfl (by simp[ae]) (by kernel_rfl) (fun _=>rfl) Fc rfl rfl (by (repeat' (first|exact trivial|refine And.intro (by first|rfl|(simp[get,Nat.beq]<;>omega)|(dsimp only[get];congr 1<;>first|rfl|omega|(simp<;>omega))) ?_))) (by omega) (by omega) (by omega) ?_ (fun hst=>?_) (fun hst=>?_))
 ·intro w0 w1 S γ l L hX hround;refine p7 (X:=⟨_,hX.hE,_⟩) l uw (fun k=>k.2=false) (fun k lev u hk hst=>?_) (fun k lev u μ hk hμ hwu hl0 hl1=>hround (.int .i64 lev) (aA u) k _ (uw k lev u).1 μ hk ?_ ?_) t hw (0,false) rfl
  ·simp only[uw,Bool.not_eq_true']at hst ⊢;exact hst
  ·simp only[uw,Bool.not_not]
  ·refine qX (j4 false [] ?_);dsimp only[aA,aa,ah,gL,pt,cW,go_sem];refine⟨by simp[aG],by simp[aM],?_⟩;refine j4 false [] ?_;dsimp only[aA,aa,ah,gL,pt,cW,go_sem];refine⟨by simp[aG],by simp[aM],?_⟩;have hnode:=EX u hwu;refine pV (qX (j4 false [(5,{mode:=1})] ?_));dsimp only[aA,aa,ah,gL,pt,cW,go_sem];have hsl:u.steps.length≤1000000000:=by
    obtain⟨kd,s,c,a,ks⟩:=u;rw[bE]at hwu;simp only[Tree.steps];omega
   refine⟨by simp[aG,lI,fX];omega,by simp[aM],?_⟩;have hst:uw k lev u=(!(bif decide (4096<lev) then true else bif decide (65536<IntKind.i64.wrap (k.1+(1+(u.steps.length:Int)))) then true else !qE u),IntKind.i64.wrap (k.1+(1+u.steps.length)),bif decide (4096<lev) then true else bif decide (65536<IntKind.i64.wrap (k.1+(1+(u.steps.length:Int)))) then true else !qE u):=rfl;rw[hst];unfold aA aa ah at hnode;refine qX (j4 true [ξ 8 (.bool (qE u))] ?_);dsimp only[aA,aa,ah,gL,pt,cW,go_sem];generalize decide (4096<lev)=A
   generalize decide (65536<IntKind.i64.wrap (k.1+(1+(u.steps.length:Int))))=B;generalize qE u=N at *;refine⟨by simp[aG],by cases A<;>cases B<;>simp[aM,aG]<;>exact hnode,?_⟩;refine CL rfl ?_;cases A<;>cases B<;>cases N;all_goals first
    |(
     refine CM ?_;exact⟨rfl,_,rfl⟩)
    |(
     refine qX (j4 false [] ?_);dsimp only[aA,aa,ah,gL,pt,cW,go_sem];refine⟨by simp[aG],by simp[aM],?_⟩;refine EA ?_;exact⟨rfl,_,rfl⟩)
 ·rw[hve,Bool.not_eq_false']at hst;refine eR fun D=>?_
  repeat' (first|((with_reducible first|show aG _|show aM _);simp[vb]<;>omega)|exact(rfl:some _=_)|((fail_if_success refine aT ?_);refine aZ ?_;(repeat1' dsimp only[I2,gL,pt,go_sem]);first|refine aU ?_ ?_ rfl ?_|apply aV|apply aW|(refine aX (fun hc=>?_) fun hc=>?_<;>first|(cases hc;done)|(exfalso;simp at hc<;>omega)|(try simp only[bn]at hc;try contradiction))|skip))
  rw[hst]
 ·rw[hve,Bool.not_eq_true']at hst;rw[hst];dsimp only[dH,cW,pt,gL,go_sem];exact⟨by simp[aG],rfl⟩
end Pur
end
section
namespace Rf
def mi (x:aS):List UInt8:=(if x.kind=1 then [103,114,97,112,104,32] else [114,111,119,32])++Lib.itoa x.index++[32]++Lib.itoa x.cell++[10]
def jD (k c a:Int) (n:Nat):List UInt8 :=
 if k=1 then [115,112,108,105,116,32]++Lib.itoa c++[32]++Lib.itoa a++[10]
 else if k=2 then [99,97,115,101,115,32]++Lib.itoa n++[10]
 else [99,108,111,115,101,100,10]
def eG:Tree→List UInt8
 | .node k s c a l=>(s.map mi).flatten++jD k c a l.length++(l.attach.map fun x=>eG x.1).flatten
decreasing_by
 have:=List.sizeOf_lt_of_mem x.2;simp;omega
theorem iR (k:Int) (s:List aS) (c a:Int) (l:List Tree):eG (.node k s c a l)=(s.map mi).flatten++jD k c a l.length++(l.map eG).flatten:=by
 rw[eG,attach_map]
end Rf
namespace Pur
open Go.RowKit
open Rf
theorem mj {x:aS} (h:bk x=true):(0≤x.index∧x.index≤2048)∧(-1≤x.cell∧x.cell≤127):=by
 simp only[bk,aL,Bool.and_eq_true,decide_eq_true_eq]at h;split at h<;>omega
theorem nw {k c a:Int} {n:Nat} (h:bQ k c a n=true):(0≤c∧c≤127)∧(-1000000≤a∧a≤1000000):=by
 simp only[bQ,aL]at h;(repeat' split at h)<;>simp only[Bool.and_eq_true,decide_eq_true_eq,Bool.false_eq_true]at h<;>omega
theorem xB {x:aS} (h:bk x=true):(mi x).length≤60:=by
 have h1:=mj h;have h2:=ky x.index (by omega) (by omega);have h3:=ky x.cell (by omega) (by omega);unfold mi;split<;>simp only[List.length_append,List.length_cons,List.length_nil]<;>omega
theorem qh {k c a:Int} {n:Nat} (h:bQ k c a n=true) (hn:n≤1000000000):(jD k c a n).length≤60:=by
 have h1:=nw h;have h2:=ky c (by omega) (by omega);have h3:=ky a (by omega) (by omega);have h4:=ky n (by omega) (by omega);unfold jD;(repeat' split)<;>simp only[List.length_append,List.length_cons,List.length_nil]<;>omega
theorem sL:∀(s:List aS),s.all bk=true→(s.map mi).flatten.length≤60*s.length
 |[],_=>by simp
 |x::r,h=>by
  rw[List.all_cons,Bool.and_eq_true]at h;have h1:=xB h.1;have h2:=sL r h.2;rw[List.map_cons,List.flatten_cons,List.length_append,List.length_cons];omega
theorem ux:∀(l:List Tree),(∀t∈l,(eG t).length≤60*wt t)→(l.map eG).flatten.length≤60*fg l
 |[],_=>by simp
 |t::r,h=>by
  have h1:=h t (by simp);have h2:=ux r fun x hx=>h x (by simp[hx])
  rw[List.map_cons,List.flatten_cons,List.length_append,fg];omega
theorem BL:∀(t:Tree),cT t=true→wt t≤1000000000→(eG t).length≤60*wt t:=by
 refine Tree.ind fun k s c a l ih h hw=>?_
 rw[cD,Bool.and_eq_true,Bool.and_eq_true]at h;rw[bE]at hw;have hl:=dR l;have h1:=sL s h.1.1;have h2:=qh h.1.2 (by omega);have:∀(l:List Tree),(∀t∈l,cT t=true→wt t≤1000000000→(eG t).length≤60*wt t)→l.all cT=true→fg l≤1000000000→(l.map eG).flatten.length≤60*fg l:=fun l=>by
  induction l with
  |nil=>intro _ _ _;simp
  |cons t r ihr =>
   intro hh ha hb;rw[List.all_cons,Bool.and_eq_true]at ha;rw[fg]at hb ⊢;have h3:=hh t (by simp) ha.1 (by omega);have h4:=ihr (fun x hx=>hh x (by simp[hx])) ha.2 (by omega);rw[List.map_cons,List.flatten_cons,List.length_append];omega
 have h5:=this l ih h.2 (by omega);rw[iR,bE];simp only[List.length_append];omega
def c53:ay:=(⟨_,by conv=>(lhs;reduce;try simp only[cJ,Int.cast_ofNat_Int,Int.reduceNegSucc,UInt8.reduceOfNat])⟩:{x // codeOf Tryz.prog 53 (fun _=>false)=some x}).1
end Pur
end
section
namespace Rf
def cu (w:List UInt8) (ns:List Int):List UInt8:=w++(ns.map fun n=>32::Lib.itoa n).flatten++[10]
def mB (ns:List Int):List UInt8:=(ns.map fun n=>32::Lib.itoa n).flatten
theorem sN (l:List Int) (n:Int):mB (l++[n])=mB l++32::Lib.itoa n:=by simp[mB]
end Rf
namespace Pur
open Go.RowKit
open Rf
def ey (μ:AM) (b g r:Nat) (out:List UInt8) (j:Nat):AM:=(μ.set r (dc out j)).set b (cx (.ptr b g 0) (.ref r j 0 out.length) g)
def a7 (b g:Nat):dT:=⟨[.ptr b g 0],0,1,75,false⟩
theorem bT {μ:AM} {b g r j:Nat} {out:List UInt8}:(ey μ b g r out j).length=μ.length:=by simp[ey]
theorem H2 {μ:AM} {b g r j:Nat} {out:List UInt8} (hb:b<μ.length):(ey μ b g r out j)[b]?=some (cx (.ptr b g 0) (.ref r j 0 out.length) g):=by
 unfold ey;exact List.getElem?_set_self (by simpa using hb)
theorem H3 {μ:AM} {b g r j:Nat} {out:List UInt8} (hr:r<μ.length) (hne:r≠b):(ey μ b g r out j)[r]?=some (dc out j):=by
 unfold ey;rw[List.getElem?_set_ne (Ne.symm hne)];exact List.getElem?_set_self hr
theorem As {μ:AM} {b g r j c:Nat} {out:List UInt8} (hb:c≠b) (hr:c≠r):(ey μ b g r out j)[c]?=μ[c]?:=by
 unfold ey;rw[List.getElem?_set_ne (Ne.symm hb),List.getElem?_set_ne (Ne.symm hr)]
theorem Fe {μ:AM} {b g r j j':Nat} {out out':List UInt8} (hne:r≠b):ey (ey μ b g r out j) b g r out' j'=ey μ b g r out' j':=by
 unfold ey;rw[List.set_comm _ _ (Ne.symm hne),List.set_set,List.set_set]
theorem k9 {μ:AM} {b g r j m:Nat} {out:List UInt8} (h:aP μ m=true) (hb:b<m) (hr:r<m):aP (ey μ b g r out j) m=true:=by
 unfold ey;refine lA (lA h (p8 _ _)) ?_;simp[cx,ck,Nat.blt_eq,hb,hr,Nat.blt,Nat.ble_eq,Nat.succ_le_iff]
theorem qj {μ:AM} (hμ:aP μ μ.length=true) {b g r j:Nat} {old:List UInt8} (hb:b<μ.length) (hr:r<μ.length) (hne:r≠b) (l:List UInt8) (hl:old.length+l.length≤140737488355328) :
  aN ctx 83 [.ptr b g 0,.pv (.str l)] (ey μ b g r old j) (.pv (.tup [.int .i64 l.length,.val .nilIface])) (ey μ b g r (old++l) (j+1)):=by
 have:=yZ (μ:=ey μ b g r old j) (by rw[bT];exact k9 hμ hb hr) hne (H2 hb) (H3 hr hne) l hl;have e:((ey μ b g r old j).set r (dc (old++l) (j+1))).set b (cx (.ptr b g 0) (.ref r (j+1) 0 (old.length+l.length)) g)=ey μ b g r (old++l) (j+1):=by
  have:=Fe (μ:=μ) (b:=b) (g:=g) (r:=r) (j:=j) (j':=j+1) (out:=old) (out':=old++l) hne;rw[←this];conv=>rhs;unfold ey
  rw[List.length_append];rfl
 rw[e]at this;exact this
def Ji:ay:=(⟨_,by conv=>(lhs;reduce;try simp only[cJ,Int.cast_ofNat_Int,Int.reduceNegSucc,UInt8.reduceOfNat])⟩:{x // codeOf Tryz.prog 82 (fun _=>false)=some x}).1
theorem H4:bp Tryz.prog 82 (fun _=>false)=some (Ji,[],24,true):=by kernel_rfl
def H5:ay:=(⟨_,by conv=>(lhs;reduce;try simp only[cJ,Int.cast_ofNat_Int,Int.reduceNegSucc,UInt8.reduceOfNat])⟩:{x // (codeOf Tryz.prog 82 (fun _=>false)).map (fun y=>y.sub [1])=some x}).1
theorem Dv (ns:List Int) (hns:∀n∈ns,-10000000000≤n∧n≤10000000000):∀k,k≤ns.length→(mB (ns.take k)).length≤22*k:=by
 intro k;induction k with
 |zero=>intro _;simp[mB]
 |succ k ih =>
  intro hk;rw[aJ ns k 0 (by omega),sN,List.length_append,List.length_cons];have:=ky (ns.getD k 0) (hns _ (aO (by omega))).1 (hns _ (aO (by omega))).2;have:=ih (by omega);omega
theorem uy {μ:AM} (hμ:aP μ μ.length=true) {m b g r j c:Nat} {old:List UInt8} (hmm:m≤μ.length) (hb:b<μ.length) (hr:r<μ.length) (hne:r≠b) (hcb:c≠b) (hcr:c≠r) (hc:μ[c]?=some (a7 b g)) (ns:List Int) (hn:ns.length≤1000) (hns:∀n∈ns,-10000000000≤n∧n≤10000000000) (ho:old.length≤10000001000) {f:AF} (hf:Sub [(1,.pv (.sl ns.length (ns.map (.int .i64)))),(2,.ptr c 0 0)] f) :
  Aw ctx (fun _=>false) 24 m H5 (iE [] (.pv (.tup [])) (ey μ b g r (old++mB ns++[10]) (j+(ns.length+1)))) f (ey μ b g r old j):=by
 have hcl:c<μ.length:=(List.getElem?_eq_some_iff.mp hc).1;have hcell:∀o i,(ey μ b g r o i)[c]?=some (a7 b g):=fun o i=>(As hcb hcr).trans hc
 have hnl:=Dv ns hns;refine bz _ hf ?_;unfold H5;refine aZ ?_;simp only[hcell,a7,aB,aq,ar,au,az,mem_set,aH,go_sem];try simp only[hcell,a7,aB,aq,ar,au,az,mem_set,aH,go_sem]
 refine⟨(by simp[vb]<;>omega),(by simp[vb]<;>omega),?_⟩;refine bS ?_
 refine bg ns.length (fun _=>True) (fun k=>[(2,.ptr c 0 0),(10,.pv (.sl ns.length (ns.map (.int .i64)))),(11,.pv (.int .i64 ns.length)),(12,.pv (.int .i64 k))]) (fun k=>ey μ b g r (old++mB (ns.take k)) (j+k)) trivial (by (repeat' (first|exact trivial|refine And.intro (by first|rfl|(simp[get,Nat.beq]<;>omega)|(dsimp only[get];congr 1<;>first|rfl|omega|(simp<;>omega))) ?_))) ⟨[],by simp[mB]⟩ (fun k=>⟨by rw[bT];omega,by simp[dm,ck,bT,Nat.blt,Nat.succ_le_iff,hcl],by rw[bT];exact k9 hμ hb hr⟩) fun k hk _=>?_
 by_cases hlt:k<ns.length
 ·have hnk:=hns _ (aO (d:=0) hlt);have e:(ns.map (PV.int .i64))[k]?=some (.int .i64 (ns.getD k 0)):=by rw[List.getElem?_map,List.getD,List.getElem?_eq_getElem hlt];rfl
  have e2:=aJ ns k 0 hlt;have e0:ns[k]=ns.getD k 0:=by rw[List.getD,List.getElem?_eq_getElem hlt];rfl
  have hli:=ky (ns.getD k 0) hnk.1 hnk.2;have hi:=EI (ns.getD k 0) (by omega) (by omega);have hnum:=hnl k hk;generalize ns.getD k 0=n at *;have h2:=qj (g:=g) (j:=j+k) (old:=old++mB (ns.take k)) hμ hb hr hne (32::Lib.itoa n) (by simp only[List.length_append,List.length_cons];omega);iterate 7 first
   |refine⟨fun _=>?_,fun h=>by simp at h<;>omega⟩
   |refine⟨by simp[vb,e,e0,hlt]<;>omega,by simp[vb,e,e0,hlt]<;>omega,?_⟩
   |(refine br [ξ 15 (.int .i64 n)] ?_;iterate 2 (try simp only[hcell,a7,aB,aq,ar,au,az,mem_set,aH,go_sem]))
  refine kN (T:=[(84,fun _=>some (.str (Lib.itoa n)))]) (H:=[(20,{val:=some (.pv (.tup [.int .i64 (32::Lib.itoa n).length,.val .nilIface])),mem:=some (ey μ b g r (old++mB (ns.take k)++32::Lib.itoa n) (j+k+1))})]) (by rfl) ?_;simp only[c6,go_sem,hcell,a7];refine⟨by simp[aG,fX];omega,⟨h2,hi,trivial⟩,?_⟩;refine aZ ?_;simp only[hcell,a7,aB,aq,ar,au,az,mem_set,aH,go_sem];try simp only[hcell,a7,aB,aq,ar,au,az,mem_set,aH,go_sem]
  refine⟨(by simp[vb]<;>omega),(by simp[vb]<;>omega),?_⟩;exact⟨hlt,trivial,by (repeat' (first|exact trivial|refine And.intro (by first|rfl|(simp[get,Nat.beq]<;>omega)|(dsimp only[get];congr 1<;>first|rfl|omega|(simp<;>omega))) ?_)),[],by rw[e2,sN,List.append_nil,List.append_assoc,Nat.add_assoc j k 1]⟩
 ·obtain rfl:k=ns.length:=by omega
  rw[List.take_length];have h3:=qj (g:=g) (j:=j+ns.length) (old:=old++mB ns) hμ hb hr hne [10] (by have:=hnl _ (Nat.le_refl _);rw[List.take_length]at this;simp only[List.length_append,List.length_cons,List.length_nil];omega);iterate 5 first
   |refine⟨fun h=>by simp at h<;>omega,fun _=>?_⟩
   |refine⟨by simp[vb]<;>omega,by simp[vb]<;>omega,?_⟩
   |(refine aZ ?_;iterate 2 (try simp only[hcell,a7,aB,aq,ar,au,az,mem_set,aH,go_sem]))
  refine br [(23,{val:=some (.pv (.tup [.int .i64 1,.val .nilIface])),mem:=some (ey μ b g r (old++mB ns++[10]) (j+ns.length+1))})] ?_;simp only[hcell,a7,aB,aq,ar,au,az,mem_set,aH,go_sem];try simp only[hcell,a7,aB,aq,ar,au,az,mem_set,aH,go_sem]
  refine⟨(by simp[vb]<;>omega),?_,?_⟩
  ·exact⟨h3,trivial⟩
  exact⟨⟨trivial,trivial⟩,[],by simp[Nat.add_assoc]⟩
theorem H6 {μ:AM} (hμ:aP μ μ.length=true) {b g r j c:Nat} {old:List UInt8} (hb:b<μ.length) (hr:r<μ.length) (hne:r≠b) (hcb:c≠b) (hcr:c≠r) (hc:μ[c]?=some (a7 b g)) (w:List UInt8) (ns:List Int) (hn:ns.length≤1000) (hns:∀n∈ns,-10000000000≤n∧n≤10000000000) (hw:w.length≤100) (ho:old.length≤10000000000) :
  aN ctx 82 [.pv (.str w),.pv (.sl ns.length (ns.map (.int .i64))),.ptr c 0 0] (ey μ b g r old j) (.pv (.tup [])) (ey μ b g r (old++cu w ns) (j+(ns.length+2))):=by
 have hcell:∀o i,(ey μ b g r o i)[c]?=some (a7 b g):=fun o i=>(As hcb hcr).trans hc
 refine bo (C:=ctx) (Fn.of H4 rfl) rfl (by rw[bT,bT];omega) rfl (by rw[bT];exact k9 hμ hb hr) ?_;rw[bT];unfold Ji;have h1:=qj (g:=g) (j:=j) (old:=old) hμ hb hr hne w (by omega);refine br [(9,{val:=some (.pv (.tup [.int .i64 w.length,.val .nilIface])),mem:=some (ey μ b g r (old++w) (j+1))})] ?_;simp only[hcell,a7,aB,aq,ar,au,az,mem_set,aH,go_sem];try simp only[hcell,a7,aB,aq,ar,au,az,mem_set,aH,go_sem]
 refine⟨(by simp[vb]<;>omega),?_,?_⟩
 ·exact⟨h1,trivial⟩
 have:=uy hμ (m:=μ.length) (b:=b) (g:=g) (r:=r) (j:=j+1) (c:=c) (old:=old++w) (Nat.le_refl _) hb hr hne hcb hcr hc ns hn hns (by rw[List.length_append];omega) (f:=[(9,.pv (.tup [.int .i64 w.length,.val .nilIface])),(8,.pv (.str w)),(7,.ptr b g 0),(0,.pv (.str w)),(1,.pv (.sl ns.length (ns.map (.int .i64)))),(2,.ptr c 0 0)]) (by (repeat' (first|exact trivial|refine And.intro (by first|rfl|(simp[get,Nat.beq]<;>omega)|(dsimp only[get];congr 1<;>first|rfl|omega|(simp<;>omega))) ?_)))
 rw[List.append_assoc old w,List.append_assoc old,show j+1+(ns.length+1)=j+(ns.length+2) by omega]at this;exact this
theorem Gl {μ:AM} (hμ:aP μ μ.length=true) {b g c:Nat} (hk:μ[b]?=some (cx (.pv (.val (.pointer none))) (.pv .nilsl) g)) (hcb:c≠b) (hc:μ[c]?=some (a7 b g)) (w:List UInt8) (ns:List Int) (hn:ns.length≤1000) (hns:∀n∈ns,-10000000000≤n∧n≤10000000000) (hw0:1≤w.length) (hw:w.length≤100) :
  aN ctx 82 [.pv (.str w),.pv (.sl ns.length (ns.map (.int .i64))),.ptr c 0 0] μ (.pv (.tup [])) (ey (μ++[dc [] 0]) b g μ.length (cu w ns) (ns.length+1)):=by
 have hb:b<μ.length:=(List.getElem?_eq_some_iff.mp hk).1;have hcl:c<μ.length:=(List.getElem?_eq_some_iff.mp hc).1;have hl:(μ++[dc [] 0]).length=μ.length+1:=by simp
 have hok:aP (μ++[dc [] 0]) (μ++[dc [] 0]).length=true:=by rw[hl];exact j9 (iQ hμ (by omega)) rfl
 have hc1:(μ++[dc [] 0])[c]?=some (a7 b g):=by rw[List.getElem?_append_left hcl];exact hc
 have h1:=xg hμ hk w hw0 (by omega);have e:μ.set b (cx (.ptr b g 0) (.ref μ.length 0 0 w.length) g)++[dc w 0]=ey (μ++[dc [] 0]) b g μ.length w 0:=by
  unfold ey;rw[mem_set,List.set_append_left _ _ hb]
 rw[e]at h1;refine bo (C:=ctx) (Fn.of H4 rfl) rfl (by rw[bT,hl];omega) rfl (by rw[bT];exact k9 hok (by omega) (by omega)) ?_;unfold Ji;refine br [(9,{val:=some (.pv (.tup [.int .i64 w.length,.val .nilIface])),mem:=some (ey (μ++[dc [] 0]) b g μ.length w 0)})] ?_;simp only[hc,a7,aB,aq,ar,au,az,mem_set,aH,go_sem];try simp only[hc,a7,aB,aq,ar,au,az,mem_set,aH,go_sem]
 refine⟨(by simp[vb]<;>omega),?_,?_⟩
 ·exact⟨h1,trivial⟩
 have:=uy hok (m:=μ.length) (b:=b) (g:=g) (r:=μ.length) (j:=0) (c:=c) (old:=w) (by omega) (by omega) (by omega) (by omega) hcb (by omega) hc1 ns hn hns (by omega) (f:=[(9,.pv (.tup [.int .i64 w.length,.val .nilIface])),(8,.pv (.str w)),(7,.ptr b g 0),(0,.pv (.str w)),(1,.pv (.sl ns.length (ns.map (.int .i64)))),(2,.ptr c 0 0)]) (by (repeat' (first|exact trivial|refine And.intro (by first|rfl|(simp[get,Nat.beq]<;>omega)|(dsimp only[get];congr 1<;>first|rfl|omega|(simp<;>omega))) ?_)));rw[Nat.zero_add]at this;exact this
theorem aN.AY {C:Ctx} {g:FuncId} {al al':List AV} {μ μ':AM} {r:AV} (h:aN C g al μ r μ') (hw:PW CW al' al):aN C g al' μ r μ' :=
 ⟨h.1,fun w0 S γ w vs hW hp=>h.2 w0 S γ w vs hW ⟨hw.len.symm.trans hp.len,fun i a v ha hv=>by
  have hi:i<al'.length:=by rw[hw.len];exact(List.getElem?_eq_some_iff.mp ha).1
  exact hw.at_ i _ a (List.getElem?_eq_getElem hi) ha w S γ v (hp.at_ i _ v (List.getElem?_eq_getElem hi) hv)⟩⟩
end Pur
end
section
namespace Rf
def jE (k:Int):Nat:=if k=1 then 4 else if k=2 then 3 else 2
def eh:Tree→Nat
 | .node k s c a l=>4*s.length+jE k+(l.attach.map fun x=>eh x.1).sum
decreasing_by
 have:=List.sizeOf_lt_of_mem x.2;simp;omega
theorem pw (k:Int) (s:List aS) (c a:Int) (l:List Tree):eh (.node k s c a l)=4*s.length+jE k+(l.map eh).sum:=by
 rw[eh,attach_map]
def lE (l:List Tree):List UInt8:=(l.map eG).flatten
theorem zf (l:List Tree) (t:Tree):lE (l++[t])=lE l++eG t:=by simp[lE]
def jR (l:List Tree):Nat:=(l.map eh).sum
theorem zh (l:List Tree) (t:Tree):jR (l++[t])=jR l+eh t:=by simp[jR]
def ew (s:List aS):List UInt8:=(s.map mi).flatten
theorem nx (s:List aS) (x:aS):ew (s++[x])=ew s++mi x:=by simp[ew]
theorem uz (x:aS):mi x=if x.kind=1 then cu [103,114,97,112,104] [x.index,x.cell] else cu [114,111,119] [x.index,x.cell]:=by
 unfold mi cu;split<;>simp
theorem sO (k c a:Int) (n:Nat):jD k c a n=if k=1 then cu [115,112,108,105,116] [c,a] else if k=2 then cu [99,97,115,101,115] [(n:Int)] else cu [99,108,111,115,101,100] []:=by
 unfold jD cu;split
 ·simp
 ·split<;>simp
end Rf
namespace Pur
open Go.RowKit
open Rf
theorem rf {μ:AM} {b g r j:Nat} {o:List UInt8} (hb:b<μ.length) (hr:r<μ.length) (tl:AM):ey μ b g r o j++tl=ey (μ++tl) b g r o j:=by
 unfold ey;rw[List.set_append_left _ _ hr,List.set_append_left _ _ (by simpa using hb)]
def Jj:ay:=(⟨_,by conv=>(lhs;reduce;try simp only[cJ,Int.cast_ofNat_Int,Int.reduceNegSucc,UInt8.reduceOfNat])⟩:{x // codeOf Tryz.prog 50 (fun _=>false)=some x}).1
theorem H7:bp Tryz.prog 50 (fun _=>false)=some (Jj,[],67,true):=by kernel_rfl
def H8:ay:=(⟨_,by conv=>(lhs;reduce;try simp only[cJ,Int.cast_ofNat_Int,Int.reduceNegSucc,UInt8.reduceOfNat])⟩:{x // (codeOf Tryz.prog 50 (fun _=>false)).map (fun y=>y.sub [1,1,0,1,0,0])=some x}).1
def Ff:ay:=(⟨_,by conv=>(lhs;reduce;try simp only[cJ,Int.cast_ofNat_Int,Int.reduceNegSucc,UInt8.reduceOfNat])⟩:{x // (codeOf Tryz.prog 50 (fun _=>false)).map (fun y=>y.sub [1,1,1])=some x}).1
def H9:ay:=(⟨_,by conv=>(lhs;reduce;try simp only[cJ,Int.cast_ofNat_Int,Int.reduceNegSucc,UInt8.reduceOfNat])⟩:{x // (codeOf Tryz.prog 50 (fun _=>false)).map (fun y=>y.sub [1,1,1,1])=some x}).1
structure tH (μ:AM) (b g r:Nat) (t:Tree):Prop where
 ok:aP μ μ.length=true
 hb:b<μ.length
 hr:r<μ.length
 ne:r≠b
 hf:cT t=true
 hw:wt t≤1000000
def jS (μ:AM) (b g:Nat) (t:Tree):AM:=μ++[a7 b g,ae t]
section
variable {μ:AM} {b g r:Nat} {t:Tree}
theorem py:(jS μ b g t).length=μ.length+2:=by simp[jS]
theorem Dw (h:tH μ b g r t) (o:List UInt8) (i:Nat):(ey (jS μ b g t) b g r o i)[μ.length]?=some (a7 b g):=by
 rw[As (by have:=h.hb;omega) (by have:=h.hr;omega),jS,List.getElem?_append_right (Nat.le_refl _),Nat.sub_self];rfl
theorem Dx (h:tH μ b g r t) (o:List UInt8) (i:Nat):(ey (jS μ b g t) b g r o i)[μ.length+1]?=some (ae t):=by
 rw[As (by have:=h.hb;omega) (by have:=h.hr;omega),jS,List.getElem?_append_right (by omega),show μ.length+1-μ.length=1 by omega];rfl
theorem qk (h:tH μ b g r t):aP (jS μ b g t) (jS μ b g t).length=true:=by
 rw[py];have h1:=iQ h.ok (m':=μ.length+2) (by omega);have h2:=j9 (k:=a7 b g) h1 (by have:=h.hb;simp only[a7,List.all_cons,List.all_nil,Bool.and_true,ck];exact Nat.blt_eq.mpr (by omega));have h3:=j9 (k:=ae t) h2 rfl;simpa [jS]using h3
theorem zi {x:dT} {o:List UInt8} {i q:Nat} (hq:q<(jS μ b g t).length):(ey (jS μ b g t) b g r o i++[x])[q]?=(ey (jS μ b g t) b g r o i)[q]?:=List.getElem?_append_left (by rw[bT];exact hq)
end
def vM (x:aS):dT:=⟨[.pv (.int .i64 x.kind),.pv (.int .i64 x.index),.pv (.int .i64 x.cell)],0,3,66,false⟩
def At (n:Nat) (s:List aS) (k:Nat):AF:=[(2,.ptr n 0 0),(3,.ptr (n+1) 0 0),(4,.fn 82 [.ptr n 0 0]),(11,.pv (.sl s.length (s.flatMap aw))),(12,.pv (.int .i64 s.length)),(13,.pv (.int .i64 k))]
theorem vB {μ:AM} {b g r:Nat} {t:Tree} (h:tH μ b g r t) (tl:AM) (htl:aP (jS μ b g t++tl) (jS μ b g t++tl).length=true) (w:List UInt8) (ns:List Int) (o:List UInt8) (j:Nat) (hn:ns.length≤1000) (hns:∀n∈ns,-10000000000≤n∧n≤10000000000) (hw:w.length≤100) (ho:o.length≤10000000000) :
  aN ctx 82 [.pv (.str w),.pv (.sl ns.length (ns.map (.int .i64))),.ptr μ.length 0 0] (ey (jS μ b g t) b g r o j++tl) (.pv (.tup [])) (ey (jS μ b g t) b g r (o++cu w ns) (j+(ns.length+2))++tl):=by
 have hl:=py (μ:=μ) (b:=b) (g:=g) (t:=t);have hb:=h.hb;have hr:=h.hr;have e:∀o j,ey (jS μ b g t) b g r o j++tl=ey (jS μ b g t++tl) b g r o j:=fun o j=>rf (by omega) (by omega) tl
 rw[e,e];refine H6 htl (by rw[List.length_append];omega) (by rw[List.length_append];omega) h.ne (by omega) (by omega) ?_ w ns hn hns hw ho;rw[List.getElem?_append_left (by omega)];simp[jS]
theorem sP {μ:AM} {b g r:Nat} {kd c a:Int} {s:List aS} {ks:List Tree} (h:tH μ b g r (.node kd s c a ks)) {m:Nat} {R:Exit→AF→AM→Prop} {o:List UInt8} {j k:Nat} (hlt:k<s.length) (ho:o.length≤1000000000) :
  Aw ctx (fun _=>false) 67 m H8 (cW (fun f' μ'=>Sub (At μ.length s (k+1)) f'∧∃junk,μ'=ey (jS μ b g (.node kd s c a ks)) b g r (o++mi (s.getD k zs)) (j+4)++junk) R) (At μ.length s k) (ey (jS μ b g (.node kd s c a ks)) b g r o j):=by
 have hf:=h.hf;rw[cD]at hf;simp only[Bool.and_eq_true]at hf;have hxo:bk (s.getD k zs)=true:=List.all_eq_true.mp hf.1.1 _ (aO hlt);have hw:=h.hw;rw[bE]at hw;have e:=bM bu s k zs hlt;have hle:=cR s;generalize s.getD k zs=x at *;obtain⟨b1,b2⟩:=mj hxo;have hkind:x.kind=0∨x.kind=1:=by
  simp[bk,aL]at hxo;omega
 have hok3:aP (jS μ b g (.node kd s c a ks)++[vM x]) (jS μ b g (.node kd s c a ks)++[vM x]).length=true:=by
  rw[List.length_append,List.length_singleton];exact j9 (iQ (qk h) (by omega)) rfl
 have hc:=Dw h;have hlen:∀o i,(ey (jS μ b g (.node kd s c a ks)) b g r o i).length=μ.length+2:=fun o i=>by rw[bT,py]
 unfold H8 At;obtain⟨xk,xi,xc⟩:=x;simp only at b1 b2 hkind;have hb2:∀n∈[xi,xc],-10000000000≤n∧n≤10000000000:=by
  intro n hn;simp only[List.mem_cons,List.not_mem_nil,or_false]at hn;rcases hn with rfl|rfl<;>omega
 have h6:=vB h [vM ⟨xk,xi,xc⟩] hok3 [114,111,119] [xi,xc] o j (by simp) hb2 (by decide) (by omega);have h7:=vB h [vM ⟨xk,xi,xc⟩] hok3 [103,114,97,112,104] [xi,xc] o j (by simp) hb2 (by decide) (by omega);rw[uz];simp only;rcases hkind with rfl|rfl
 ·iterate 9 first
   |refine⟨fun _=>?_,fun h=>by simp at h<;>omega⟩
   |refine⟨by simp[vb,e,hle,hlt,aw]<;>omega,by simp[vb,e,hle,hlt,aw]<;>omega,?_⟩
   |(refine br [ξ 16 (.agg (aw ⟨0,xi,xc⟩))] ?_;iterate 2 (try simp only[a7,aw,aB,aq,ar,au,az,mem_set,aH,go_sem]))
  refine br [(26,{val:=some (.pv (.tup [])),mem:=some (ey (jS μ b g (.node kd s c a ks)) b g r (o++cu [114,111,119] [xi,xc]) (j+4)++[vM ⟨0,xi,xc⟩])})] ?_;simp only[a7,aw,aB,aq,ar,au,az,mem_set,aH,go_sem];refine⟨fun _=>?_,fun h=>by simp at h<;>omega⟩;refine br [(26,{val:=some (.pv (.tup [])),mem:=some (ey (jS μ b g (.node kd s c a ks)) b g r (o++cu [114,111,119] [xi,xc]) (j+4)++[vM ⟨0,xi,xc⟩])})] ?_;simp only[a7,aw,aB,aq,ar,au,az,mem_set,aH,go_sem]
  try simp only[a7,aw,aB,aq,ar,au,az,mem_set,aH,go_sem]
  refine⟨(by simp[vb,e,hle,hlt]<;>omega),?_,?_⟩
  ·exact⟨h6,trivial⟩
  refine aZ ?_;simp only[a7,aw,aB,aq,ar,au,az,mem_set,aH,go_sem];try simp only[a7,aw,aB,aq,ar,au,az,mem_set,aH,go_sem]
  refine⟨(by simp[vb,e,hle,hlt]<;>omega),(by simp[vb,e,hle,hlt]<;>omega),?_⟩;exact⟨by (repeat' (first|exact trivial|refine And.intro (by first|rfl|(simp[get,Nat.beq]<;>omega)|(dsimp only[get];congr 1<;>first|rfl|omega|(simp<;>omega))) ?_)),_,rfl⟩
 ·iterate 9 first
   |refine⟨fun _=>?_,fun h=>by simp at h<;>omega⟩
   |refine⟨by simp[vb,e,hle,hlt,aw]<;>omega,by simp[vb,e,hle,hlt,aw]<;>omega,?_⟩
   |(refine br [ξ 16 (.agg (aw ⟨1,xi,xc⟩))] ?_;iterate 2 (try simp only[a7,aw,aB,aq,ar,au,az,mem_set,aH,go_sem]))
  refine br [(33,{val:=some (.pv (.tup [])),mem:=some (ey (jS μ b g (.node kd s c a ks)) b g r (o++cu [103,114,97,112,104] [xi,xc]) (j+4)++[vM ⟨1,xi,xc⟩])})] ?_;simp only[a7,aw,aB,aq,ar,au,az,mem_set,aH,go_sem];refine⟨fun h=>by simp at h<;>omega,fun _=>?_⟩;refine br [(33,{val:=some (.pv (.tup [])),mem:=some (ey (jS μ b g (.node kd s c a ks)) b g r (o++cu [103,114,97,112,104] [xi,xc]) (j+4)++[vM ⟨1,xi,xc⟩])})] ?_;simp only[a7,aw,aB,aq,ar,au,az,mem_set,aH,go_sem]
  try simp only[a7,aw,aB,aq,ar,au,az,mem_set,aH,go_sem]
  refine⟨(by simp[vb,e,hle,hlt]<;>omega),?_,?_⟩
  ·exact⟨h7,trivial⟩
  refine aZ ?_;simp only[a7,aw,aB,aq,ar,au,az,mem_set,aH,go_sem];try simp only[a7,aw,aB,aq,ar,au,az,mem_set,aH,go_sem]
  refine⟨(by simp[vb,e,hle,hlt]<;>omega),(by simp[vb,e,hle,hlt]<;>omega),?_⟩;exact⟨by (repeat' (first|exact trivial|refine And.intro (by first|rfl|(simp[get,Nat.beq]<;>omega)|(dsimp only[get];congr 1<;>first|rfl|omega|(simp<;>omega))) ?_)),_,rfl⟩
theorem Dy {μ:AM} (h:aP μ μ.length=true) (t:Tree):aP (μ++[ae t]) (μ++[ae t]).length=true:=by
 rw[List.length_append,List.length_singleton];exact j9 (iQ h (by omega)) rfl
def rh (x:Tree):Prop:=∀(μ:AM) (b g r:Nat) (o:List UInt8) (j:Nat),tH μ b g r x→o.length+60*wt x≤1000000000 →
 aN ctx 50 [.ptr b g 0,.pv (aA x)] (ey μ b g r o j) (.pv (.tup [])) (ey μ b g r (o++eG x) (j+eh x))
theorem Au {μ:AM} {b g r:Nat} {t:Tree} (h:tH μ b g r t) (o:List UInt8) (j:Nat):ey (jS μ b g t) b g r o j=ey μ b g r o j++[a7 b g,ae t]:=(rf h.hb h.hr _).symm
theorem sQ {μ:AM} {b g r:Nat} {kd c a:Int} {s:List aS} {ks:List Tree} (h:tH μ b g r (.node kd s c a ks)) {m:Nat} (hm:m≤μ.length) (ih:∀x∈ks,rh x) {o:List UInt8} {j:Nat} (ho:o.length+60*fg ks≤1000000000) {f:AF} (hf:Sub [(2,.ptr μ.length 0 0),(3,.ptr (μ.length+1) 0 0)] f) :
  Aw ctx (fun _=>false) 67 m H9 (iE [] (.pv (.tup [])) (ey μ b g r (o++lE ks) (j+jR ks))) f (ey (jS μ b g (.node kd s c a ks)) b g r o j):=by
 have hft:=h.hf;rw[cD]at hft;simp only[Bool.and_eq_true]at hft;have hw:=h.hw;rw[bE]at hw;have hwl:=dR ks;have hb:=h.hb;have hr:=h.hr;have hc:=Dw h;have ht:=Dx h;have hL:=py (μ:=μ) (b:=b) (g:=g) (t:=.node kd s c a ks);have htx:∀l:List Tree,(∀x∈l,x∈ks)→(lE l).length≤60*fg l:=fun l hl=>ux l fun x hx=>BL x (List.all_eq_true.mp hft.2 _ (hl x hx)) (by have:=fw (hl x hx);omega)
 refine bz _ hf ?_;unfold H9;refine aZ ?_;simp only[ht,ae,Tree.kind,Tree.steps,Tree.cell,Tree.pos,Tree.kids,ah,aB,aq,ar,au,az,mem_set,aH,go_sem];try simp only[ht,ae,Tree.kind,Tree.steps,Tree.cell,Tree.pos,Tree.kids,ah,aB,aq,ar,au,az,mem_set,aH,go_sem]
 refine⟨(by simp[vb]<;>omega),(by simp[vb]<;>omega),?_⟩;refine bS ?_
 refine bg ks.length (fun _=>True) (fun k=>[(2,.ptr μ.length 0 0),(57,.pv (.sl ks.length (ks.flatMap cy))),(58,.pv (.int .i64 ks.length)),(59,.pv (.int .i64 k))]) (fun k=>ey (jS μ b g (.node kd s c a ks)) b g r (o++lE (ks.take k)) (j+jR (ks.take k))) trivial (by (repeat' (first|exact trivial|refine And.intro (by first|rfl|(simp[get,Nat.beq]<;>omega)|(dsimp only[get];congr 1<;>first|rfl|omega|(simp<;>omega))) ?_))) ⟨[],by simp[lE,jR]⟩ (fun k=>⟨by rw[bT,hL];omega,by simp only[dm,List.all_cons,List.all_nil,ck,bT,hL,Bool.and_true];exact Nat.blt_eq.mpr (by omega),by rw[bT];exact k9 (qk h) (by omega) (by omega)⟩) fun k hk _=>?_
 by_cases hlt:k<ks.length
 ·have e:=cK ks k hlt;have hle:=cL ks;have hmem:=aO (d:=zt) hlt;have hx:=ih _ hmem;have hfx:=List.all_eq_true.mp hft.2 _ hmem;have hwx:=fw hmem;have e2:=aJ ks k zt hlt;have htk:=htx (ks.take k) fun x hx=>List.mem_of_mem_take hx
  have hws:fg (ks.take k)+wt (ks.getD k zt)≤fg ks:=by
   have h1:=nk ks (k+1);rw[e2,iP]at h1;simpa [fg]using h1
  generalize ks.getD k zt=x at *;have hok3:=Dy (qk h) x;have hcall:=hx (jS μ b g (.node kd s c a ks)++[ae x]) b g r (o++lE (ks.take k)) (j+jR (ks.take k)) ⟨hok3,by rw[List.length_append];omega,by rw[List.length_append];omega,h.ne,hfx,by omega⟩ (by rw[List.length_append];omega);rw[←rf (by omega) (by omega),←rf (by omega) (by omega)]at hcall;obtain⟨xk,xs,xc,xa,xl⟩:=x;simp only[Tree.kind,Tree.steps,Tree.cell,Tree.pos,Tree.kids]at e;iterate 7 first
   |refine⟨fun _=>?_,fun h=>by simp at h<;>omega⟩
   |refine⟨by simp[vb,e,hle,hlt,aa,ah]<;>omega,by simp[vb,e,hle,hlt,aa,ah]<;>omega,?_⟩
   |(refine br [ξ 62 (.agg [.int .i64 xk,aa xs,.int .i64 xc,.int .i64 xa,ah xl])] ?_;iterate 2 (try simp only[ht,ae,aa,ah,aB,aq,ar,au,az,mem_set,aH,go_sem]))
  have hc2:∀(o:List UInt8) (i:Nat) (y:dT),(ey (jS μ b g (.node kd s c a ks)) b g r o i++[y])[μ.length]?=some (a7 b g):=fun o i y=>(zi (by omega)).trans (hc o i)
  refine br [(65,{val:=some (.pv (.tup [])),mem:=some (ey (jS μ b g (.node kd s c a ks)) b g r (o++lE (ks.take k)++eG (.node xk xs xc xa xl)) (j+jR (ks.take k)+eh (.node xk xs xc xa xl))++[ae (.node xk xs xc xa xl)])})] ?_;simp only[hc2,a7,aB,aq,ar,au,az,mem_set,aH,go_sem];try simp only[hc2,a7,aB,aq,ar,au,az,mem_set,aH,go_sem]
  refine⟨(by simp[vb]<;>omega),?_,?_⟩
  ·exact⟨hcall,trivial⟩
  refine aZ ?_;simp only[ht,aB,aq,ar,au,az,mem_set,aH,go_sem];try simp only[ht,aB,aq,ar,au,az,mem_set,aH,go_sem]
  refine⟨(by simp[vb,hlt]<;>omega),(by simp[vb,hlt]<;>omega),?_⟩;exact⟨hlt,trivial,by (repeat' (first|exact trivial|refine And.intro (by first|rfl|(simp[get,Nat.beq]<;>omega)|(dsimp only[get];congr 1<;>first|rfl|omega|(simp<;>omega))) ?_)),_,by rw[e2,zf,zh,List.append_assoc o,Nat.add_assoc j]⟩
 ·obtain rfl:k=ks.length:=by omega
  rw[List.take_length];iterate 5 first
   |refine⟨fun h=>by simp at h<;>omega,fun _=>?_⟩
   |refine⟨by simp[vb,hlt]<;>omega,by simp[vb,hlt]<;>omega,?_⟩
   |(refine aZ ?_;iterate 2 (try simp only[ht,aB,aq,ar,au,az,mem_set,aH,go_sem]))
  exact⟨⟨trivial,trivial⟩,_,Au h _ _⟩
theorem sR {k c a:Int} {n:Nat} (h:Rf.bQ k c a n=true):(k=0∧n=0)∨k=1∨(k=2∧n≤1024):=by
 unfold Rf.bQ at h;split at h
 ·simp at h;omega
 ·split at h
  ·omega
  ·split at h
   ·simp at h;omega
   ·cases h
theorem sS {μ:AM} {b g r:Nat} {kd c a:Int} {s:List aS} {ks:List Tree} (h:tH μ b g r (.node kd s c a ks)) {m:Nat} (hm:m≤μ.length) (ih:∀x∈ks,rh x) {o:List UInt8} {j:Nat} (ho:o.length+60+60*fg ks≤1000000000) {f:AF} (hf:Sub [(2,.ptr μ.length 0 0),(3,.ptr (μ.length+1) 0 0),(4,.fn 82 [.ptr μ.length 0 0])] f) :
  Aw ctx (fun _=>false) 67 m Ff (iE [] (.pv (.tup [])) (ey μ b g r (o++jD kd c a ks.length++lE ks) (j+jE kd+jR ks))) f (ey (jS μ b g (.node kd s c a ks)) b g r o j):=by
 have hft:=h.hf;rw[cD]at hft;simp only[Bool.and_eq_true]at hft;have hw:=h.hw;rw[bE]at hw;have hwl:=dR ks;have hc:=Dw h;have ht:=Dx h;obtain⟨b1,b2⟩:=nw hft.1.2;have htl:=qh hft.1.2 (by omega);have hkk:=fun f hf=>sQ h (m:=m) hm ih (o:=o++jD kd c a ks.length) (j:=j+jE kd) (by rw[List.length_append];omega) (f:=f) hf
 have hln:=fun w ns hn hns hw=>vB h [] (by rw[List.append_nil];exact qk h) w ns o j hn hns hw (by omega)
 simp only[List.append_nil]at hln;refine bz _ hf ?_;rw[sO]at hkk ⊢;unfold Ff;rcases sR hft.1.2 with⟨rfl,h0⟩|rfl|⟨rfl,h2⟩
 ·have h1:=(hln [99,108,111,115,101,100] [] (by simp) (by simp) (by decide)).AY (al':=[.pv (.str [99,108,111,115,101,100]),.pv .nilsl,.ptr μ.length 0 0]) ⟨rfl,fun i x y hx hy=>by
   match i,hx,hy with
   |0,hx,hy=>injection hx with hx;injection hy with hy;subst hx hy;exact .refl _
   |1,hx,hy=>injection hx with hx;injection hy with hy;subst hx hy;exact CW.nil
   |2,hx,hy=>injection hx with hx;injection hy with hy;subst hx hy;exact .refl _
   |_+3,hx,_=>simp at hx⟩
  refine aZ ?_;simp only[ht,ae,Tree.kind,Tree.steps,Tree.cell,Tree.pos,Tree.kids,aB,aq,ar,au,az,mem_set,aH,go_sem];try simp only[ht,ae,Tree.kind,Tree.steps,Tree.cell,Tree.pos,Tree.kids,aB,aq,ar,au,az,mem_set,aH,go_sem]
  refine⟨(by simp[vb]<;>omega),(by simp[vb]<;>omega),?_⟩;refine aZ ?_;simp only[ht,ae,Tree.kind,Tree.steps,Tree.cell,Tree.pos,Tree.kids,aB,aq,ar,au,az,mem_set,aH,go_sem];try simp only[ht,ae,Tree.kind,Tree.steps,Tree.cell,Tree.pos,Tree.kids,aB,aq,ar,au,az,mem_set,aH,go_sem]
  refine⟨(by simp[vb]<;>omega),(by simp[vb]<;>omega),?_⟩;refine br [(46,{val:=some (.pv (.tup [])),mem:=some (ey (jS μ b g (.node 0 s c a ks)) b g r (o++cu [99,108,111,115,101,100] []) (j+2))})] ?_;simp only[ht,ae,Tree.kind,Tree.steps,Tree.cell,Tree.pos,Tree.kids,aB,aq,ar,au,az,mem_set,aH,go_sem];refine⟨fun _=>?_,fun h=>by simp at h<;>omega⟩;refine br [(46,{val:=some (.pv (.tup [])),mem:=some (ey (jS μ b g (.node 0 s c a ks)) b g r (o++cu [99,108,111,115,101,100] []) (j+2))})] ?_
  simp only[ht,ae,Tree.kind,Tree.steps,Tree.cell,Tree.pos,Tree.kids,aB,aq,ar,au,az,mem_set,aH,go_sem];try simp only[ht,ae,Tree.kind,Tree.steps,Tree.cell,Tree.pos,Tree.kids,aB,aq,ar,au,az,mem_set,aH,go_sem]
  refine⟨(by simp[vb]<;>omega),?_,?_⟩
  ·exact⟨h1,trivial⟩
  exact hkk _ (by (repeat' (first|exact trivial|refine And.intro (by first|rfl|(simp[get,Nat.beq]<;>omega)|(dsimp only[get];congr 1<;>first|rfl|omega|(simp<;>omega))) ?_)))
 ·have h1:=hln [115,112,108,105,116] [c,a] (by simp) (by intro n hn;simp only[List.mem_cons,List.not_mem_nil,or_false]at hn;rcases hn with rfl|rfl<;>omega) (by decide);refine aZ ?_;simp only[ht,ae,Tree.kind,Tree.steps,Tree.cell,Tree.pos,Tree.kids,aB,aq,ar,au,az,mem_set,aH,go_sem];try simp only[ht,ae,Tree.kind,Tree.steps,Tree.cell,Tree.pos,Tree.kids,aB,aq,ar,au,az,mem_set,aH,go_sem]
  refine⟨(by simp[vb]<;>omega),(by simp[vb]<;>omega),?_⟩;refine aZ ?_;simp only[ht,ae,Tree.kind,Tree.steps,Tree.cell,Tree.pos,Tree.kids,aB,aq,ar,au,az,mem_set,aH,go_sem];try simp only[ht,ae,Tree.kind,Tree.steps,Tree.cell,Tree.pos,Tree.kids,aB,aq,ar,au,az,mem_set,aH,go_sem]
  refine⟨(by simp[vb]<;>omega),(by simp[vb]<;>omega),?_⟩;refine aZ ?_;simp only[ht,ae,Tree.kind,Tree.steps,Tree.cell,Tree.pos,Tree.kids,aB,aq,ar,au,az,mem_set,aH,go_sem];refine⟨fun h=>by simp at h<;>omega,fun _=>?_⟩;refine aZ ?_;simp only[ht,ae,Tree.kind,Tree.steps,Tree.cell,Tree.pos,Tree.kids,aB,aq,ar,au,az,mem_set,aH,go_sem];try simp only[ht,ae,Tree.kind,Tree.steps,Tree.cell,Tree.pos,Tree.kids,aB,aq,ar,au,az,mem_set,aH,go_sem]
  refine⟨(by simp[vb]<;>omega),(by simp[vb]<;>omega),?_⟩;refine br [(55,{val:=some (.pv (.tup [])),mem:=some (ey (jS μ b g (.node 1 s c a ks)) b g r (o++cu [115,112,108,105,116] [c,a]) (j+4))})] ?_;simp only[ht,ae,Tree.kind,Tree.steps,Tree.cell,Tree.pos,Tree.kids,aB,aq,ar,au,az,mem_set,aH,go_sem];refine⟨fun _=>?_,fun h=>by simp at h<;>omega⟩;refine br [(55,{val:=some (.pv (.tup [])),mem:=some (ey (jS μ b g (.node 1 s c a ks)) b g r (o++cu [115,112,108,105,116] [c,a]) (j+4))})] ?_
  simp only[ht,ae,Tree.kind,Tree.steps,Tree.cell,Tree.pos,Tree.kids,aB,aq,ar,au,az,mem_set,aH,go_sem];try simp only[ht,ae,Tree.kind,Tree.steps,Tree.cell,Tree.pos,Tree.kids,aB,aq,ar,au,az,mem_set,aH,go_sem]
  refine⟨(by simp[vb]<;>omega),?_,?_⟩
  ·exact⟨h1,trivial⟩
  exact hkk _ (by (repeat' (first|exact trivial|refine And.intro (by first|rfl|(simp[get,Nat.beq]<;>omega)|(dsimp only[get];congr 1<;>first|rfl|omega|(simp<;>omega))) ?_)))
 ·have h1:=hln [99,97,115,101,115] [(ks.length:Int)] (by simp) (by intro n hn;simp only[List.mem_cons,List.not_mem_nil,or_false]at hn;subst hn;omega) (by decide);refine aZ ?_;simp only[ht,ae,Tree.kind,Tree.steps,Tree.cell,Tree.pos,Tree.kids,ah,aB,aq,ar,au,az,mem_set,aH,go_sem];try simp only[ht,ae,Tree.kind,Tree.steps,Tree.cell,Tree.pos,Tree.kids,ah,aB,aq,ar,au,az,mem_set,aH,go_sem]
  refine⟨(by simp[vb]<;>omega),(by simp[vb]<;>omega),?_⟩;refine aZ ?_;simp only[ht,ae,Tree.kind,Tree.steps,Tree.cell,Tree.pos,Tree.kids,ah,aB,aq,ar,au,az,mem_set,aH,go_sem];try simp only[ht,ae,Tree.kind,Tree.steps,Tree.cell,Tree.pos,Tree.kids,ah,aB,aq,ar,au,az,mem_set,aH,go_sem]
  refine⟨(by simp[vb]<;>omega),(by simp[vb]<;>omega),?_⟩;refine aZ ?_;simp only[ht,ae,Tree.kind,Tree.steps,Tree.cell,Tree.pos,Tree.kids,ah,aB,aq,ar,au,az,mem_set,aH,go_sem];refine⟨fun h=>by simp at h<;>omega,fun _=>?_⟩;refine aZ ?_;simp only[ht,ae,Tree.kind,Tree.steps,Tree.cell,Tree.pos,Tree.kids,ah,aB,aq,ar,au,az,mem_set,aH,go_sem];try simp only[ht,ae,Tree.kind,Tree.steps,Tree.cell,Tree.pos,Tree.kids,ah,aB,aq,ar,au,az,mem_set,aH,go_sem]
  refine⟨(by simp[vb]<;>omega),(by simp[vb]<;>omega),?_⟩;refine br [(42,{val:=some (.pv (.tup [])),mem:=some (ey (jS μ b g (.node 2 s c a ks)) b g r (o++cu [99,97,115,101,115] [(ks.length:Int)]) (j+3))})] ?_;simp only[ht,ae,Tree.kind,Tree.steps,Tree.cell,Tree.pos,Tree.kids,ah,aB,aq,ar,au,az,mem_set,aH,go_sem];refine⟨fun h=>by simp at h<;>omega,fun _=>?_⟩;refine br [(42,{val:=some (.pv (.tup [])),mem:=some (ey (jS μ b g (.node 2 s c a ks)) b g r (o++cu [99,97,115,101,115] [(ks.length:Int)]) (j+3))})] ?_
  simp only[ht,ae,Tree.kind,Tree.steps,Tree.cell,Tree.pos,Tree.kids,ah,aB,aq,ar,au,az,mem_set,aH,go_sem];try simp only[ht,ae,Tree.kind,Tree.steps,Tree.cell,Tree.pos,Tree.kids,ah,aB,aq,ar,au,az,mem_set,aH,go_sem]
  refine⟨(by simp[vb]<;>omega),?_,?_⟩
  ·exact⟨h1,trivial⟩
  exact hkk _ (by (repeat' (first|exact trivial|refine And.intro (by first|rfl|(simp[get,Nat.beq]<;>omega)|(dsimp only[get];congr 1<;>first|rfl|omega|(simp<;>omega))) ?_)))
end Pur
end
section
namespace Pur
open Go.RowKit
section
open Rf
theorem da {α:Type} (l:List α) (k:Nat) (d:α) (hk:k<l.length):l.drop k=l.getD k d::l.drop (k+1):=by
 rw[List.drop_eq_getElem_cons hk,List.getD,List.getElem?_eq_getElem hk];rfl
theorem sT (x:Rg):aj ctx 102 [.agg [.int .i64 x.lo,.int .i64 x.hi]] (.bool (dX x)):=by
 refine af (C:=ctx) (Fn.of F3 rfl) rfl ?_;unfold E2;repeat' (first|((with_reducible first|show aG _|show aM _);simp[vb]<;>omega)|exact(rfl:some _=_)|((fail_if_success refine aT ?_);refine aZ ?_;(repeat1' dsimp only[E2,dX,go_sem]);first|refine aU ?_ ?_ rfl ?_|apply aV|apply aW|(refine aX (fun hc=>?_) fun hc=>?_<;>first|(cases hc;done)|(exfalso;simp at hc<;>omega)|(try simp only[bn]at hc;try contradiction))|skip))
theorem xC (b:List Rg) (hb:b.length≤1000000000):aj ctx 72 [ai b] (.bool (dt b)):=by
 have hx:=BF 102 b hb dX fun x _=>sT x
 unfold dt;generalize b.any dX=q at *;unfold ai at hx;refine af (C:=ctx) (Fn.of HQ rfl) rfl ?_;unfold c72;repeat' (first|((with_reducible first|show aG _|show aM _);simp[vb,hx,ai]<;>omega)|exact(rfl:some _=_)|((fail_if_success refine aT ?_);refine fu [(101,fun _=>some (.bool q))] ?_;(repeat1' dsimp only[c72,ai,go_sem]);first|refine aU ?_ ?_ rfl ?_|apply aV|apply aW|(refine aX (fun hc=>?_) fun hc=>?_<;>first|(cases hc;done)|(exfalso;simp[hx,ai]at hc<;>omega)|(try simp only[bn]at hc;try contradiction))|skip))
theorem G7 (b:List Rg) (hb:b.length≤1000000000):aj ctx 97 [ai b] (.bool (cz b)):=by
 unfold cz;have f1:=bN b;refine af (C:=ctx) (Fn.of HW rfl) rfl ?_;unfold Hw;repeat' (first|((with_reducible first|show aG _|show aM _);simp[vb]<;>omega)|exact(rfl:some _=_)|((fail_if_success refine aT ?_);refine aZ ?_;(repeat1' dsimp only[Hw,ai,go_sem]);first|refine aU ?_ ?_ rfl ?_|apply aV|apply aW|(refine aX (fun hc=>?_) fun hc=>?_<;>first|(cases hc;done)|(exfalso;simp at hc<;>omega)|(try simp only[bn]at hc;try contradiction))|skip))
 refine bg b.length (fun k=>(b.take k).all mc=true) (fun k=>[(0,.pv (ai b)),(5,.pv (ai b)),(6,.pv (.int .i64 b.length)),(7,.pv (.int .i64 k))]) (fun _=>[]) rfl (by (repeat' (first|exact trivial|refine And.intro (by first|rfl|(simp[get,Nat.beq]<;>omega)|(dsimp only[get];congr 1<;>first|rfl|omega|(simp<;>omega))) ?_))) ⟨[],rfl⟩ (fun _=>⟨Nat.zero_le _,rfl,rfl⟩) fun k hk hP=>?_
 by_cases hlt:k<b.length
 ·have e:=bM iq b k zr hlt;have h1:=dh mc b k zr hlt;have h2:=kq mc b k zr hlt;rw[h1,hP,Bool.true_and];clear h1;generalize b.getD k zr=x at *;repeat' (first|((with_reducible show aG _);first|exact True.intro|(simp only[vb,lb,e,f1,hlt,fW];and_intros<;>first|omega|(simp<;>omega)))|((with_reducible show aM _);first|exact True.intro|((try dsimp only[go_sem]);(simp[vb,e,f1,hlt,fW]<;>omega)))|exact(rfl:some _=_)|((fail_if_success refine aT ?_);refine br [ξ 10 (.agg [.int .i64 x.lo,.int .i64 x.hi])] ?_;(repeat1' dsimp only[Hw,ai,go_sem]);first|refine aU ?_ ?_ rfl ?_|apply aV|apply aW|(refine aX (fun hc=>?_) fun hc=>?_<;>first|(cases hc;done)|(exfalso;(simp at hc<;>omega))|(try simp only[bn]at hc;try contradiction))|skip))
  all_goals first
   |(rw[h2 (by
     cases h:mc x with
     |false=>rfl
     |true =>
      exfalso;simp only[mc,aL,Bool.and_eq_true,decide_eq_true_eq]at h;omega),Bool.false_and];done)
   |(
    refine⟨hlt,?_,by (repeat' (first|exact trivial|refine And.intro (by first|rfl|(simp[get,Nat.beq]<;>omega)|(dsimp only[get];congr 1<;>first|rfl|omega|(simp<;>omega))) ?_)),_,rfl⟩;simp only[mc,aL,Bool.and_eq_true,decide_eq_true_eq];omega)
 ·obtain rfl:k=b.length:=by omega
  rw[List.take_length]at hP;repeat' (first|((with_reducible show aG _);exact True.intro)|((with_reducible show aM _);exact True.intro)|exact(rfl:some _=_)|((fail_if_success refine aT ?_);refine aZ ?_;(repeat1' dsimp only[Hw,ai,go_sem]);first|refine aU ?_ ?_ rfl ?_|apply aV|apply aW|(refine aX (fun hc=>?_) fun hc=>?_<;>first|(cases hc;done)|(exfalso;(simp at hc<;>omega))|(try simp only[bn]at hc;try contradiction))|skip))
  rw[hP,Bool.true_and];simp;omega
theorem Fg (n : Int) (r : Rw) (hr : r.terms.length ≤ 1000000000) : aj ctx 100 [.int .i64 n, .agg [av r.terms, .int .i64 r.bound]] (.bool (gA n r)) := by
  obtain ⟨ts, bd⟩ := r
  unfold gA
  simp only at hr ⊢
  generalize hq : dF n (-1) ts = q
  have f1 := gX ts
  refine af (C := ctx) (Fn.of F9 rfl) rfl ?_
  unfold BB
  repeat' (first
    | ((with_reducible first | show aG _ | show aM _); simp [vb] <;> omega)
    | exact (rfl : some _ = _)
    | (
      fail_if_success refine aT ?_
      refine aZ ?_
      repeat1' dsimp only [BB, av, go_sem]
      first
      | refine aU ?_ ?_ rfl ?_
      | apply aV
      | apply aW
      | (refine aX (fun hc => ?_) fun hc => ?_ <;> first | (cases hc; done) | (exfalso; simp at hc <;> omega) | (try simp only [bn] at hc; try contradiction))
      | skip))
  refine cC (σ := Nat × Int) (fun s => s.1 ≤ ts.length ∧ dF n s.2 (ts.drop s.1) = q) (fun s => [(0, .pv (.int .i64 n)), (3, .ptr 0 0 0), (5, .pv (.int .i64 s.2)), (9, .pv (av ts)), (10, .pv (.int .i64 ts.length)), (11, .pv (.int .i64 s.1))]) (fun _ => [⟨[.pv (av ts), .pv (.int .i64 bd)], 0, 2, 62, false⟩]) (fun s => ts.length - s.1) (0, -1) ⟨Nat.zero_le _, hq⟩ (by (repeat' (first | exact trivial | refine And.intro (by first | rfl | (simp [get, Nat.beq]; done) | (simp [get, Nat.beq]; omega) | (dsimp only [get]; congr 1 <;> first | rfl | omega | (simp; done) | (simp; omega))) ?_))) ⟨[], rfl⟩ (fun _ _ => ⟨Nat.zero_le _, rfl, rfl⟩) fun s hP => ?_
  obtain ⟨k, last⟩ := s
  obtain ⟨p1, p2⟩ := hP
  simp only at p1 p2
  by_cases hlt : k < ts.length
  · have e := bM me ts k zm hlt
    rw [da ts k zm hlt, dF] at p2
    generalize ts.getD k zm = x at *
    generalize hq2 : dF n x.cell (ts.drop (k + 1)) = q2 at *
    repeat' (first
      | ((with_reducible show aG _); first | exact True.intro | (simp only [vb, lb, e, f1, hlt, j5]; and_intros <;> first | omega | (simp <;> omega)))
      | ((with_reducible show aM _); first | exact True.intro | ((try dsimp only [go_sem]); (simp [vb, e, f1, hlt, j5] <;> omega)))
      | exact (rfl : some _ = _)
      | (
        fail_if_success refine aT ?_
        refine br [ξ 14 (.agg [.int .i64 x.cell, .int .i64 x.fac])] ?_
        repeat1' dsimp only [BB, av, go_sem]
        first
        | refine aU ?_ ?_ rfl ?_
        | apply aV
        | apply aW
        | (refine aX (fun hc => ?_) fun hc => ?_ <;> first | (cases hc; done) | (exfalso; (simp at hc <;> omega)) | (try simp only [bn] at hc; try contradiction))
        | skip))
    all_goals first
      | (rw [← p2, show (decide (last < x.cell) && decide (x.cell < n) && decide (x.fac ≠ 0) && aL x.fac (-1000) 1000) = false from by
          rw [Bool.eq_false_iff]
          simp only [aL, ne_eq, Bool.and_eq_true, decide_eq_true_eq]
          omega]; rfl)
      | (
        refine ⟨(k + 1, x.cell), by show ts.length - (k + 1) < ts.length - k; omega, ⟨by show k + 1 ≤ _; omega, ?_⟩, by (repeat' (first | exact trivial | refine And.intro (by first | rfl | (simp [get, Nat.beq]; done) | (simp [get, Nat.beq]; omega) | (dsimp only [get]; congr 1 <;> first | rfl | omega | (simp; done) | (simp; omega))) ?_)), _, rfl⟩
        show dF n x.cell (ts.drop (k + 1)) = q
        rw [hq2, ← p2, show (decide (last < x.cell) && decide (x.cell < n) && decide (x.fac ≠ 0) && aL x.fac (-1000) 1000) = true from by
         simp only [aL, ne_eq, Bool.and_eq_true, decide_eq_true_eq]
         omega, Bool.true_and])
  · obtain rfl : k = ts.length := by omega
    rw [List.drop_length, dF] at p2
    subst p2
    repeat' (first
      | ((with_reducible show aG _); first | exact True.intro | (simp only [vb, lb, hlt]; and_intros <;> first | omega | (simp <;> omega)))
      | ((with_reducible show aM _); first | exact True.intro | ((try dsimp only [go_sem]); (simp [vb, hlt] <;> omega)))
      | exact (rfl : some _ = _)
      | (
        fail_if_success refine aT ?_
        refine aZ ?_
        repeat1' dsimp only [BB, av, go_sem]
        first
        | refine aU ?_ ?_ rfl ?_
        | apply aV
        | apply aW
        | (refine aX (fun hc => ?_) fun hc => ?_ <;> first | (cases hc; done) | (exfalso; (simp at hc <;> omega)) | (try simp only [bn] at hc; try contradiction))
        | skip))
    all_goals simp [aL]
theorem BM (b:List Rg) (r:Rw) (hr:r.terms.length≤1000000000):aN ctx 99 [.pv (.agg [av r.terms,.int .i64 r.bound]),.ptr 0 0 0] [⟨[.pv (ai b)],0,1,31,false⟩] (.pv (.bool (!gA b.length r))) [⟨[.pv (ai b)],0,1,31,false⟩]:=by
 have hx:=Fg b.length r hr;generalize gA b.length r=q at *;unfold av at hx;refine bo (C:=ctx) (Fn.of HY rfl) rfl (by simp) rfl rfl ?_;unfold IC;repeat' (first|((with_reducible first|show aG _|show aM _);simp[vb,hx]<;>omega)|exact(rfl:some _=_)|((fail_if_success refine aT ?_);refine br [ξ 7 (.bool q)] ?_;(repeat1' dsimp only[IC,ai,av,go_sem]);first|refine aU ?_ ?_ rfl ?_|apply aV|apply aW|(refine aX (fun hc=>?_) fun hc=>?_<;>first|(cases hc;done)|(exfalso;simp[hx]at hc<;>omega)|(try simp only[bn]at hc;try contradiction))|skip))
 exact⟨⟨trivial,rfl⟩,_,rfl⟩
theorem sU (b:List Rg) (l:List Rw) (hb:b.length≤1000000000) (hl:l.length≤1000000000) (ht:∀r∈l,r.terms.length≤1000000000):aj ctx 71 [ai b,ax l] (.bool (eA b l)):=by
 have h1:=G7 b hb;have h2:=Dq 99 [⟨[.pv (ai b)],0,1,31,false⟩] rfl 0 (by simp) l hl (fun r=>!gA b.length r) fun r hr=>BM b r (ht r hr)
 unfold eA;have e:l.all (gA b.length)= !(l.any fun r=>!gA b.length r):=by simp[List.any_eq_not_all_not]
 rw[e];clear e;generalize (l.any fun r=>!gA b.length r)=q at *;generalize cz b=q2 at *;unfold ai ax at h2;unfold ai at h1;cases q2 with
 |false =>
  refine af (C:=ctx) (Fn.of G3 rfl) rfl ?_;unfold Iy;refine fu [(97,fun _=>some (.bool false))] ?_;dsimp only[ai,ax,go_sem];try dsimp only[ai,ax,go_sem]
  refine⟨(by simp[vb,h1]<;>omega),(by simp[vb,h1]<;>omega),?_⟩;refine bJ (jl (T:=[(97,fun _=>some (.bool false))]) (H:=[]) ?_);dsimp only[ai,ax,go_sem];try dsimp only[ai,ax,go_sem]
  refine⟨(by simp[vb,h1]<;>omega),(by simp[vb,h1]<;>omega),?_⟩;refine fu [(97,fun _=>some (.bool false))] ?_;dsimp only[ai,ax,go_sem];exact⟨trivial,rfl⟩
 |true =>
  refine af (C:=ctx) (Fn.of G3 rfl) rfl ?_;unfold Iy;refine bX [(97,fun _=>some (.bool true))] [(10,{val:=some (.pv (.bool q)),ro:=true})] ?_;dsimp only[ai,ax,go_sem];try dsimp only[ai,ax,go_sem]
  refine⟨(by simp[vb,h1,h2]<;>omega),(by simp[vb,h1,h2]<;>omega),?_⟩;refine bJ (jl (T:=[(97,fun _=>some (.bool true))]) (H:=[(10,{val:=some (.pv (.bool q)),ro:=true})]) ?_);dsimp only[ai,ax,go_sem];try dsimp only[ai,ax,go_sem]
  refine⟨(by simp[vb,h1,h2]<;>omega),(by simp[vb,h1,h2]<;>omega),?_⟩;refine bX [(97,fun _=>some (.bool true))] [(10,{val:=some (.pv (.bool q)),ro:=true})] ?_;dsimp only[ai,ax,go_sem];exact⟨trivial,rfl⟩
theorem BN (b:List Rg) (hb:b.length≤1000000000):aj ctx 71 [ai b,.nilsl] (.bool (cz b)):=by
 have h:=sU b [] hb (by simp) (by simp);rw[show eA b []=cz b by simp[eA]]at h;refine aj.oA 1 ?_;have e:∀l:List PV,l.map (canon 0)=l:=fun l=>by rw[show canon 0=id from funext fun _=>by simp[canon]];simp
 simpa [canon,ai,ax,e]using h
end
section
open Rf
def vC (l:List Int):dT:=⟨(l.flatMap bO).map .pv,1,1,3,false⟩
theorem Fh (k:Nat) (cells:List PV) (hk:k≤1000000000) (hc:cells.length=(k+1)*1):aN ctx 167 [.pv (.sl (k+1) cells)] [] (.ref 0 1 0 (k+1)) [⟨cells.map .pv,1,1,3,false⟩]:=by
 refine bo (C:=ctx) (Fn.of Gk rfl) rfl (by simp) rfl (by simp[aP,ck]) ?_;unfold c167;iterate 9 first
  |refine⟨fun h=>by simp at h<;>omega,fun _=>?_⟩
  |refine⟨by simp[vb]<;>omega,by simp[vb]<;>omega,?_⟩
  |(refine br [(7,{mode:=1})] ?_;iterate 2 (try dsimp only[go_sem]))
 refine aZ ?_;dsimp only[go_sem];exact⟨⟨trivial,by simp⟩,[],rfl⟩
theorem G8 (l:List Int) (h0:l≠[]) (hl:l.length≤1000000000) (μ:AM):aN ctx 167 [.pv (.sl l.length (l.flatMap bO))] μ (.ref μ.length 1 0 l.length) (μ++[vC l]):=by
 cases l with
 |nil=>exact absurd rfl h0
 |cons x r =>
  have h:=Fh r.length ((x::r).flatMap bO) (by simp at hl;omega) (by rw[dj];rfl);have:=h.frame [] μ (by simp) (by simp) trivial rfl (by simp[ck]) (by simp);have he:∀cs:List PV,(cs.map AV.pv).map (pS [] μ.length 3)=cs.map AV.pv:=fun cs=>by simp[pS,Function.comp_def]
  simpa [pS,o9,xY,r9,vC,he,Function.comp_def]using this
theorem Dz (n:Nat) (es:List Bool) (a b:Nat) (hlen:es.length=n*n) (ha:a<n) (hb:b<n):(es.flatMap dG)[a*n+b]?.getD default= .bool (bL n es a b):=by
 have hlt:a*n+b<es.length:=by
  rw[hlen];calc a*n+b<a*n+n:=by omega
   _=(a+1)*n:=by rw[Nat.add_mul,Nat.one_mul]
   _≤n*n:=Nat.mul_le_mul_right _ ha
 rw[iv (g:=dG) (fun _=>rfl) es _ false default hlt];rfl
theorem G9 (n:Nat) (es:List Bool) (a b:Nat) (hlen:es.length=n*n) (hn:n≤6) (ha:a<n) (hb:b<n) :
  aj ctx 166 [.agg [.int .i64 n,bF es],.int .i64 a,.int .i64 b] (.bool (bL n es a b)):=by
 have e:=Dz n es a b hlen ha hb;have f1:=eT es;generalize bL n es a b=q at *;have hlt:a*n+b<es.length:=by
  rw[hlen];calc a*n+b<a*n+n:=by omega
   _=(a+1)*n:=by rw[Nat.add_mul,Nat.one_mul]
   _≤n*n:=Nat.mul_le_mul_right _ ha
 have hm:a*n≤36:=by
  have:=Nat.mul_le_mul (show a≤6 by omega) hn;omega
 have ez:((a:Int)*(n:Int)+(b:Int))=((a*n+b:Nat):Int):=by simp
 have ez2:((a:Int)*(n:Int))=((a*n:Nat):Int):=by simp
 generalize a*n=m at *;refine af (C:=ctx) (Fn.of Gj rfl) rfl ?_;unfold E7;repeat' (first|((with_reducible show aG _);first|exact True.intro|(simp only[vb,lb,e,f1,hlt,ez,ez2];and_intros<;>first|omega|(simp<;>omega)))|((with_reducible show aM _);first|exact True.intro|((try dsimp only[go_sem]);(simp only[vb,and_true,true_implies];(repeat' (first|(with_reducible assumption)|(with_reducible apply And.intro)|intro _|((fail_if_success (with_reducible show(_:Int)≤_));assumption)))<;>first|rfl|(simp only[ab,e,f1,hlt,ez,ez2];done))))|exact(rfl:some _=_)|((fail_if_success refine aT ?_);refine br [ξ 12 (.int .i64 m),ξ 14 (.int .i64 (m+b:Nat)),ξ 16 (.bool q)] ?_;(repeat1' dsimp only[E7,bF,go_sem]);first|refine aU ?_ ?_ rfl ?_|apply aV|apply aW|(refine aX (fun hc=>?_) fun hc=>?_<;>first|(cases hc;done)|(try simp only[bn]at hc;try contradiction))|skip))
end
section
open Rf
def DA:Nat→Bool:=fun d=>Nat.beq d 20||Nat.beq d 64
def Gm:ay:=(⟨_,by conv=>(lhs;reduce;try simp only[cJ,Int.cast_ofNat_Int,Int.reduceNegSucc,UInt8.reduceOfNat])⟩:{x // codeOf Tryz.prog 146 DA=some x}).1
theorem Ha:bp Tryz.prog 146 DA=some (Gm,[.t 6],67,true):=by kernel_rfl
def ny (n:Nat) (es:List Bool):dT:=⟨[.pv (.int .i64 n),.pv (bF es)],0,2,187,false⟩
def kz (s:List Bool):dT:=⟨(s.flatMap dG).map .pv,0,1,4,false⟩
def eW (l:List (List Int)):List PV:=l.map an
def nz (l:List (List Int)) (g:Nat):dT:=⟨(eW l).map .pv,g,1,49,false⟩
def zj:List Int→PV
 |[]=>.nilsl
 |x::r=>an (x::r)
theorem Fi {l:List Int} (h:l≠[]):zj l=an l:=by
 cases l with
 |nil=>exact absurd rfl h
 |cons x r=>rfl
theorem BO (l:List Int) (h:l≠[]):∃m u,l=m++[u]:=⟨l.dropLast,l.getLast h,(List.dropLast_concat_getLast h).symm⟩
theorem nA (s:List Bool):s.flatMap dG=s.map PV.bool:=by
 induction s with
 |nil=>rfl
 |cons b r ih=>rw[List.flatMap_cons,ih];rfl
theorem xD (s:List Bool) (k:Nat):setAt ((s.flatMap dG).map AV.pv) k [.pv (.bool true)]=((s.set k true).flatMap dG).map AV.pv:=by
 rw[nA,nA,setAt,setAt,List.map_set,List.map_set]
theorem oH:∀n:Nat,eC [.bool false] n=(List.replicate n false).flatMap dG
 |0=>rfl
 |n+1=>by rw[eC,oH n,List.replicate_succ,List.flatMap_cons];rfl
theorem Fj (s:List Bool) (k:Nat) (hk:k<s.length):(s.flatMap dG)[k]?=some (.bool (s.getD k false)):=by
 rw[nA,List.getElem?_map,List.getElem?_eq_getElem hk,List.getD,List.getElem?_eq_getElem hk];rfl
theorem Fk (pre:List (List Int)) (l:List Int) (r:List (List Int)):((eW (pre++l::r)).map AV.pv)[pre.length]?.getD .any= .pv (an l):=by
 simp[eW]
theorem Fl (m:List Int) (u:Int):((m++[u]).flatMap bO)[m.length]?.getD default= .int .i64 u:=by
 rw[iv (g:=bO) (fun _=>rfl) (m++[u]) m.length 0 default (by simp)];simp
theorem Hb (aD:List Nat) (l:List PV):(l.map AV.pv).map (dB aD 3)=l.map AV.pv:=by
 simp[dB,Function.comp_def]
theorem uA {own:Nat→Bool} {nn:Nat} {x:ay} {R:Exit→AF→AM→Prop} {f:AF} {b0 b1 b4:dT} {p0 p1 cs ps:List PV} {g g3 k:Nat} {e e3:TypeId} (h0:b0.cells=p0.map .pv) (h1:b1.cells=p1.map .pv) (hl:ps.length=k)
  (hr:iz [0,1,2,3] f=f) (hs:∀M,kp M 3 f=f) (ho:dm f 3=true)
  (h:Aw ctx own nn 0 x R f [b0,b1,⟨cs.map .pv++[.pv (.sl k ps)],g,1,e,false⟩]):Aw ctx own nn 0 x R f [b0,b1,⟨cs.map .pv++[.ref 3 g3 0 k],g,1,e,false⟩,⟨ps.map .pv,g3,1,e3,false⟩,b4]:=by
 refine fK [0,1,2,3] rfl ?_;rw[hr];have hm:gI [0,1,2,3] [b0,b1,⟨cs.map .pv++[.ref 3 g3 0 k],g,1,e,false⟩,⟨ps.map .pv,g3,1,e3,false⟩,b4]=[b0,b1,⟨cs.map .pv++[.ref 3 g3 0 k],g,1,e,false⟩,⟨ps.map .pv,g3,1,e3,false⟩]:=by
  obtain⟨a0,a1,a2,a3,a4⟩:=b0;obtain⟨d0,d1,d2,d3,d4⟩:=b1;simp only at h0 h1;subst h0 h1;simp[gI,j0,dB,idxOf,Function.comp_def];rfl
 rw[hm];have hk:aP [b0,b1] 2=true:=by simp[aP,h0,h1,ck]
 exact gJ (μ:=[b0,b1]) (c1:=cs) (c2:=[]) hk (Nat.zero_le _) (by simp) (by omega) hs ho h
theorem DB (n:Nat) (es:List Bool) (fr tg:Nat) (hlen:es.length=n*n) (hn:n≤6) (hf:fr<n) (ht:tg<n) :
  aj ctx 146 [.agg [.int .i64 n,bF es],.int .i64 fr,.int .i64 tg] (zj (pj n (bL n es) tg (n+2) [[(fr:Int)]] (jB n fr))):=by
 generalize hres:pj n (bL n es) tg (n+2) [[(fr:Int)]] (jB n fr)=res;have hb0:=uk (e:=bL n es) hf;have hz:=oH n;have hzl:(eC [.bool false] n).length=n:=by rw[hz,eT];simp
 refine af (C:=ctx) (Fn.of Ha rfl) rfl ?_;unfold Gm;repeat' (first|((with_reducible first|show aG _|show aM _);simp[vb,hf,hzl]<;>omega)|exact(rfl:some _=_)|((fail_if_success refine aT ?_);refine aZ ?_;(repeat1' dsimp only[c146,bF,go_sem]);first|refine aU ?_ ?_ rfl ?_|apply aV|apply aW|(refine aX (fun hc=>?_) fun hc=>?_<;>first|(cases hc;done)|(exfalso;simp[hf,hzl]at hc<;>omega)|(try simp only[bn]at hc;try contradiction))|skip))
 refine cC (σ:=List (List Int)×List (List Int)×List Bool×Nat×Nat)
  (fun s=>GU n (bL n es) fr s.2.1 s.2.2.1∧s.1.length+s.2.1.length+dY s.2.2.1≤n+1∧pj n (bL n es) tg s.2.2.2.2 s.2.1 s.2.2.1=res∧s.2.1.length+dY s.2.2.1<s.2.2.2.2)
  (fun s=>[(2,.pv (.int .i64 tg)),(3,.ptr 0 0 0),(7,.ref 1 0 0 n),(8,.ref 2 s.2.2.2.1 s.1.length s.2.1.length)])
  (fun s=>[ny n es,kz s.2.2.1,nz (s.1++s.2.1) s.2.2.2.1]) (fun s=>s.2.1.length+dY s.2.2.1) ([],[[(fr:Int)]],jB n fr,0,n+2) ⟨hb0,?_,hres,?_⟩ (by (repeat' (first|exact trivial|refine And.intro (by first|rfl|(simp[get,Nat.beq]<;>omega)|(dsimp only[get];congr 1<;>first|rfl|omega|(simp<;>omega))) ?_))) ?_ (fun s _=>⟨Nat.zero_le _,rfl,by simp[aP,ny,kz,nz,ck]⟩) fun s hP=>?_
 ·have:=(hb0.ne [(fr:Int)] (by simp)).2.2.2.2;simp at this ⊢;omega
 ·have:=(hb0.ne [(fr:Int)] (by simp)).2.2.2.2;simp at this ⊢;omega
 ·refine⟨[],?_⟩;simp[ny,kz,nz,eW,jB,←xD,setAt,hz,an,bO,bF]
 obtain⟨pre,q,seen,g,f⟩:=s;obtain⟨p1,p2,p3,p4⟩:=hP;simp only at p1 p2 p3 p4 ⊢;cases q with
 |nil =>
  cases f with
  |zero=>omega
  |succ f =>
   rw[pj]at p3;subst p3;repeat' (first|((with_reducible first|show aG _|show aM _);simp[vb]<;>omega)|exact(rfl:some _=_)|((fail_if_success refine aT ?_);refine aZ ?_;(repeat1' dsimp only[c146,zj,go_sem]);first|refine aU ?_ ?_ rfl ?_|apply aV|apply aW|(refine aX (fun hc=>?_) fun hc=>?_<;>first|(cases hc;done)|(exfalso;simp at hc<;>omega)|(try simp only[bn]at hc;try contradiction))|skip))
 |cons l r =>
  cases f with
  |zero=>omega
  |succ f =>
   obtain⟨q1,q2,q3,q4,q5⟩:=p1.ne l (by simp);obtain⟨m,u',rfl⟩:=BO l q1;obtain⟨u,rfl⟩:∃u:Nat,u'=(u:Int):=⟨u'.toNat,by simp at q2;omega⟩
   obtain⟨hu,-⟩:=qb m u;have e1:=Fk pre (m++[(u:Int)]) r;have e2:=Fl m (u:Int);have f1:=dj (m++[(u:Int)]);rw[pj,hu]at p3;rw[hu]at q3 q4;have hml:m.length≤7:=by simp at q5;omega
   by_cases hut:u=tg
   ·rw[if_pos hut]at p3;subst hut p3;repeat' (first|((with_reducible show aG _);first|exact True.intro|(simp only[vb,lb,e1,e2,f1,an,eW];and_intros<;>first|omega|(simp<;>omega)))|((with_reducible show aM _);first|exact True.intro|((try dsimp only[go_sem]);first|(simp[vb,e1,e2,f1,an,eW]<;>omega)|(simp only[vb,and_true,true_implies];(repeat' (first|(with_reducible assumption)|(with_reducible apply And.intro)|intro _|((fail_if_success (with_reducible show(_:Int)≤_));assumption)))<;>(simp_all;done))))|exact(rfl:some _=_)|((fail_if_success refine aT ?_);refine br [ξ 28 (.sl (m++[(u:Int)]).length ((m++[(u:Int)]).flatMap bO)),ξ 34 (.int .i64 u)] ?_;(repeat1' dsimp only[c146,ny,nz,an,go_sem]);first|refine aU ?_ ?_ rfl ?_|apply aV|apply aW|(refine aX (fun hc=>?_) fun hc=>?_<;>first|(cases hc;done)|(exfalso;(simp at hc<;>omega))|(try simp only[bn]at hc;try contradiction))|skip))
    rw[Fi q1];rfl
   ·rw[if_neg hut]at p3;repeat' (first|((with_reducible show aG _);first|exact True.intro|(simp only[vb,lb,e1,e2,f1,an,eW];and_intros<;>first|omega|(simp<;>omega)))|((with_reducible show aM _);first|exact True.intro|((try dsimp only[go_sem]);first|(simp[vb,e1,e2,f1,an,eW]<;>omega)|(simp only[vb,and_true,true_implies];(repeat' (first|(with_reducible assumption)|(with_reducible apply And.intro)|intro _|((fail_if_success (with_reducible show(_:Int)≤_));assumption)))<;>(simp_all;done))))|exact(rfl:some _=_)|((fail_if_success refine aT ?_);refine br [ξ 28 (.sl (m++[(u:Int)]).length ((m++[(u:Int)]).flatMap bO)),ξ 34 (.int .i64 u)] ?_;(repeat1' dsimp only[c146,ny,nz,an,go_sem]);first|refine aU ?_ ?_ rfl ?_|apply aV|apply aW|(refine aX (fun hc=>?_) fun hc=>?_<;>first|(cases hc;done)|(exfalso;(simp at hc<;>omega))|(try simp only[bn]at hc;try contradiction))|skip))
    have hLl:(m++[(u:Int)]).length≤8:=by simp;omega
    have hX:=fun k hk=>sF p1 (l:=m++[(u:Int)]) (by simp) k hk
    rw[hu]at hX;clear e1 e2 q2 q4 hml hres hb0 hz hzl;generalize m++[(u:Int)]=L at *;have hX1:=fun k=>ui k (bL n es) L u (L::r) seen
    have hX0:mg 0 (bL n es) L u (L::r) seen=(L::r,seen):=rfl;generalize hXX:(fun k=>mg k (bL n es) L u (L::r) seen)=X;have hXe:∀k,mg k (bL n es) L u (L::r) seen=X k:=fun k=>by rw[←hXX]
    simp only[hXe]at hX hX1 hX0 p3;clear hXe hXX;refine cC (σ:=Nat×List (List Int)×Nat) (fun s=>s.1≤n∧s.2.1.length+(X s.1).1.length+dY (X s.1).2≤n+1)
     (fun s=>[(2,.pv (.int .i64 tg)),(3,.ptr 0 0 0),(7,.ref 1 0 0 n),(8,.ref 2 s.2.2 s.2.1.length (X s.1).1.length),(9,.pv (.sl L.length (L.flatMap bO))),(10,.pv (.int .i64 u)),(40,.pv (.int .i64 n)),(41,.pv (.int .i64 s.1))])
     (fun s=>[ny n es,kz (X s.1).2,nz (s.2.1++(X s.1).1) s.2.2]) (fun s=>n-s.1) (0,pre,g) ⟨Nat.zero_le _,by simp only[hX0];exact p2⟩ (by simp only[hX0];(repeat' (first|exact trivial|refine And.intro (by first|rfl|(simp[get,Nat.beq]<;>omega)|(dsimp only[get];congr 1<;>first|rfl|omega|(simp<;>omega))) ?_))) ⟨[],by simp only[hX0];rfl⟩ (fun s _=>⟨Nat.zero_le _,rfl,by simp[aP,ny,kz,nz,ck]⟩) fun s hP=>?_
    obtain⟨k,pre,g⟩:=s;obtain⟨t1,t2⟩:=hP;simp only at t1 t2 ⊢;obtain⟨b1,b2,⟨mm,b3⟩,-,-,-⟩:=hX k t1;have hxl:=b1.len;by_cases hlt:k<n
    ·have hs1:=hX1 k;have hha:=G9 n es u k hlen hn q3 hlt;have hsa:=Fj (X k).2 k (by omega);have hse:=xD (X k).2 k;have f3:=eT (X k).2;have hsd:(X k).2.getD k true=(X k).2.getD k false:=by rw[List.getD,List.getD,List.getElem?_eq_getElem (by omega)];rfl
     unfold qa at hs1;rw[hsd]at hs1;generalize hsb:(X k).2.getD k false=sb at *;generalize bL n es u k=eb at *;have same:X (k+1)=X k→∃s',n-s'.1<n-k∧(s'.1≤n∧s'.2.1.length+(X s'.1).1.length+dY (X s'.1).2≤n+1)∧s'=(k+1,pre,g):=fun h=>⟨(k+1,pre,g),by show n-(k+1)<n-k;omega,⟨by show k+1≤n;omega,by show pre.length+(X (k+1)).1.length+_≤_;rw[h];exact t2⟩,rfl⟩
     unfold bF at hha;cases eb with
     |false =>
      have hs2:X (k+1)=X k:=by rw[hs1];simp
      obtain⟨s',w1,w2,rfl⟩:=same hs2;repeat' (first|((with_reducible show aG _);first|exact True.intro|(simp only[vb,lb,hha,hlt,hxl,f3];and_intros<;>first|omega|(simp<;>omega)))|((with_reducible show aM _);first|exact True.intro|((try dsimp only[go_sem]);(simp[vb,hha,hlt,hxl,f3]<;>omega)))|exact(rfl:some _=_)|((fail_if_success refine aT ?_);refine bX [(166,fun _=>some (.bool false))] [ξ 52 (.bool false)] ?_;(repeat1' dsimp only[c146,ny,kz,bF,go_sem]);first|refine aU ?_ ?_ rfl ?_|apply aV|apply aW|(refine aX (fun hc=>?_) fun hc=>?_<;>first|(cases hc;done)|(exfalso;(simp at hc<;>omega))|(try simp only[bn]at hc;try contradiction))|skip))
      exact⟨_,w1,w2,by simp only[hs2];(repeat' (first|exact trivial|refine And.intro (by first|rfl|(simp[get,Nat.beq]<;>omega)|(dsimp only[get];congr 1<;>first|rfl|omega|(simp<;>omega))) ?_)),[],by simp only[hs2]<;>rfl⟩
     |true =>
      cases sb with
      |true =>
       have hs2:X (k+1)=X k:=by rw[hs1];simp
       obtain⟨s',w1,w2,rfl⟩:=same hs2;repeat' (first|((with_reducible show aG _);first|exact True.intro|(simp only[vb,lb,hha,hlt,hsa,hxl,f3];and_intros<;>first|omega|(simp<;>omega)))|((with_reducible show aM _);first|exact True.intro|((try dsimp only[go_sem]);(simp only[vb,and_true,true_implies];(repeat' (first|(with_reducible assumption)|(with_reducible apply And.intro)|intro _|((fail_if_success (with_reducible show(_:Int)≤_));assumption)))<;>first|omega|(simp only[ab,hha,hlt,hsa,hxl,f3];done)|(simp[Nat.mul_one,hha,hlt,hsa,hxl,f3]<;>omega)|(simp_all;done))))|exact(rfl:some _=_)|((fail_if_success refine aT ?_);refine bX [(166,fun _=>some (.bool true))] [ξ 52 (.bool true)] ?_;(repeat1' dsimp only[c146,ny,kz,bF,go_sem]);first|refine aU ?_ ?_ rfl ?_|apply aV|apply aW|(refine aX (fun hc=>?_) fun hc=>?_<;>first|(cases hc;done)|(exfalso;(simp at hc<;>omega))|(try simp only[bn]at hc;try contradiction))|skip))
       exact⟨_,w1,w2,by simp only[hs2];(repeat' (first|exact trivial|refine And.intro (by first|rfl|(simp[get,Nat.beq]<;>omega)|(dsimp only[get];congr 1<;>first|rfl|omega|(simp<;>omega))) ?_)),[],by simp only[hs2]<;>rfl⟩
      |false =>
       iterate 7 first
        |refine⟨fun _=>?_,fun h=>by simp at h<;>omega⟩
        |refine⟨by simp[vb,hha,hlt,hsa,hxl,f3]<;>omega,by simp[vb,hha,hlt,hsa,hxl,f3]<;>omega,?_⟩
        |(refine bX [(166,fun _=>some (.bool true))] [ξ 52 (.bool false)] ?_;iterate 2 (try dsimp only[ny,kz,bF,go_sem]))
       refine bJ (jl (T:=[(166,fun _=>some (.bool true))]) (H:=[ξ 52 (.bool false)]) ?_);dsimp only[ny,kz,bF,go_sem];try dsimp only[ny,kz,bF,go_sem]
       refine⟨(by first|exact True.intro|(simp only[vb,lb];omega)|(simp only[vb,lb,hha,hlt,hsa,hxl,f3];and_intros<;>first|omega|(simp<;>omega))|(simp[vb,hha,hlt,hsa,hxl,f3]<;>omega)),(by first|exact True.intro|((try dsimp only[go_sem]);first|(simp[vb,hha,hlt,hsa,hxl,f3]<;>omega)|(simp only[vb,and_true,true_implies];(repeat' (first|(with_reducible assumption)|(with_reducible apply And.intro)|intro _|((fail_if_success (with_reducible show(_:Int)≤_));assumption)))<;>first|omega|rfl|(simp only[ab,hha,hlt,hsa,hxl,f3];done)|(simp[Nat.mul_one,hha,hlt,hsa,hxl,f3]<;>omega)|(simp_all;done)))),?_⟩
       refine bX [(166,fun _=>some (.bool true))] [ξ 52 (.bool false)] ?_;dsimp only[ny,kz,bF,go_sem];refine⟨fun _=>?_,fun h=>by simp at h<;>omega⟩;refine bX [(166,fun _=>some (.bool true))] [ξ 52 (.bool false)] ?_;dsimp only[ny,kz,bF,go_sem];try dsimp only[ny,kz,bF,go_sem]
       refine⟨(by first|exact True.intro|(simp only[vb,lb];omega)|(simp only[vb,lb,hha,hlt,hsa,hxl,f3];and_intros<;>first|omega|(simp<;>omega))|(simp[vb,hha,hlt,hsa,hxl,f3]<;>omega)),(by first|exact True.intro|((try dsimp only[go_sem]);first|(simp[vb,hha,hlt,hsa,hxl,f3]<;>omega)|(simp only[vb,and_true,true_implies];(repeat' (first|(with_reducible assumption)|(with_reducible apply And.intro)|intro _|((fail_if_success (with_reducible show(_:Int)≤_));assumption)))<;>first|omega|rfl|(simp only[ab,hha,hlt,hsa,hxl,f3];done)|(simp[Nat.mul_one,hha,hlt,hsa,hxl,f3]<;>omega)|(simp_all;done)))),?_⟩
       have hcl:=fun μ=>G8 L q1 (by omega) μ
       rw[show(((X k).2.flatMap dG).map AV.pv).set (0+(k:Int).toNat*1) (.pv (.bool true))=(((X k).2.set k true).flatMap dG).map AV.pv from by rw[←hse];simp[setAt]];refine CE 7 false [(2,{val:=some (.ref 3 1 0 L.length),mem:=some ([⟨[.pv (.int .i64 n),.pv (.sl es.length (es.flatMap dG))],0,2,187,false⟩,⟨(((X k).2.set k true).flatMap dG).map .pv,0,1,4,false⟩,nz (pre++(X k).1) g]++[vC L])}),(5,{mode:=1})] [] ?_;iterate 3 (try dsimp only[vk,nz,vC,go_sem])
       have hls:∀l:List (List Int),(eW l).length=l.length:=fun l=>by simp[eW]
       have hxk:X (k+1)=((X k).1++[L++[(k:Int)]],(X k).2.set k true):=by rw[hs1];simp
       have hun:=ku (X k).2 k hsd;have fin:∀(pre':List (List Int)),pre'.length≤pre.length→∃s',n-s'.1<n-k∧(s'.1≤n∧s'.2.1.length+(X s'.1).1.length+dY (X s'.1).2≤n+1)∧s'=(k+1,pre',g+1):=fun pre' h=>⟨(k+1,pre',g+1),by show n-(k+1)<n-k;omega,⟨by show k+1≤n;omega,by show pre'.length+(X (k+1)).1.length+dY (X (k+1)).2≤n+1;rw[hxk];simp;omega⟩,rfl⟩
       have hps:(L.flatMap bO).map AV.pv++[.pv (.int .i64 k)]=((L++[(k:Int)]).flatMap bO).map AV.pv:=by simp[bO]
       rw[hps];have hcs:∀pre':List (List Int),(eW (pre'++(X k).1)).map AV.pv++[.pv (.sl (L.length+1) ((L++[(k:Int)]).flatMap bO))]=(eW (pre'++(X (k+1)).1)).map AV.pv:=fun pre'=>by rw[hxk];simp[eW,an]
       have c1:pre.length+(X k).1.length*1=((eW (pre++(X k).1)).map AV.pv).length:=by simp[eW]
       have c2:0<(X k).1.length:=by rw[b3];simp
       refine⟨by simp[vb,f1]<;>omega,⟨hcl _,trivial⟩,by simp[vb],⟨rfl,rfl,rfl,rfl,c1,c2,by omega,by omega⟩,⟨trivial,trivial,?_⟩,trivial,trivial,?_⟩
       ·refine bz [(2,.pv (.int .i64 tg)),(3,.ptr 0 0 0),(7,.ref 1 0 0 n),(8,.ref 2 (g+1) pre.length ((X k).1.length+1)),(9,.pv (.sl L.length (L.flatMap bO))),(10,.pv (.int .i64 u)),(40,.pv (.int .i64 n)),(41,.pv (.int .i64 k))] (by (repeat' (first|exact trivial|refine And.intro (by first|rfl|(simp[get,Nat.beq]<;>omega)|(dsimp only[get];congr 1<;>first|rfl|omega|(simp<;>omega))) ?_))) ?_;refine uA (p0:=[.int .i64 n,.sl es.length (es.flatMap dG)]) rfl rfl (by rw[dj];simp) rfl (fun _=>rfl) rfl ?_;rw[hcs]
        obtain⟨s',w1,w2,rfl⟩:=fin pre (Nat.le_refl _);repeat' (first|((with_reducible show aG _);(simp only[vb,lb,hlt];and_intros<;>first|omega|(simp<;>omega)))|((with_reducible show aM _);exact True.intro)|exact(rfl:some _=_)|((fail_if_success refine aT ?_);refine aZ ?_;(repeat1' dsimp only[c146,go_sem]);first|refine aU ?_ ?_ rfl ?_|apply aV|apply aW|(refine aX (fun hc=>?_) fun hc=>?_<;>first|(cases hc;done)|(try simp only[bn]at hc;try contradiction))|skip))
        exact⟨_,w1,w2,by simp only[hxk];(repeat' (first|exact trivial|refine And.intro (by first|rfl|(simp[get,Nat.beq]<;>omega)|(dsimp only[get];congr 1<;>first|rfl|omega|(simp<;>omega))) ?_)),[],by simp only[hxk]<;>rfl⟩
       ·refine bz [(2,.pv (.int .i64 tg)),(3,.ptr 0 0 0),(7,.ref 1 0 0 n),(8,.ref 2 (g+1) 0 ((X k).1.length+1)),(9,.pv (.sl L.length (L.flatMap bO))),(10,.pv (.int .i64 u)),(40,.pv (.int .i64 n)),(41,.pv (.int .i64 k))] (by (repeat' (first|exact trivial|refine And.intro (by first|rfl|(simp[get,Nat.beq]<;>omega)|(dsimp only[get];congr 1<;>first|rfl|omega|(simp<;>omega))) ?_))) ?_;rw[show((eW (pre++(X k).1)).map AV.pv).drop pre.length=(eW ([]++(X k).1)).map AV.pv from by simp[eW]]
        refine uA (p0:=[.int .i64 n,.sl es.length (es.flatMap dG)]) rfl rfl (by rw[dj];simp) rfl (fun _=>rfl) rfl ?_;rw[hcs];obtain⟨s',w1,w2,rfl⟩:=fin [] (Nat.zero_le _);repeat' (first|((with_reducible show aG _);(simp only[vb,lb,hlt];and_intros<;>first|omega|(simp<;>omega)))|((with_reducible show aM _);exact True.intro)|exact(rfl:some _=_)|((fail_if_success refine aT ?_);refine aZ ?_;(repeat1' dsimp only[c146,go_sem]);first|refine aU ?_ ?_ rfl ?_|apply aV|apply aW|(refine aX (fun hc=>?_) fun hc=>?_<;>first|(cases hc;done)|(try simp only[bn]at hc;try contradiction))|skip))
        exact⟨_,w1,w2,by simp only[hxk];(repeat' (first|exact trivial|refine And.intro (by first|rfl|(simp[get,Nat.beq]<;>omega)|(dsimp only[get];congr 1<;>first|rfl|omega|(simp<;>omega))) ?_)),[],by simp only[hxk]<;>rfl⟩
    ·obtain rfl:k=n:=by omega
     repeat' (first|((with_reducible show aG _);first|exact True.intro|(simp only[vb,lb,hlt,b3];and_intros<;>first|omega|(simp<;>omega)))|((with_reducible show aM _);exact True.intro)|exact(rfl:some _=_)|((fail_if_success refine aT ?_);refine aZ ?_;(repeat1' dsimp only[c146,ny,kz,nz,go_sem]);first|refine aU ?_ ?_ rfl ?_|apply aV|apply aW|(refine aX (fun hc=>?_) fun hc=>?_<;>first|(cases hc;done)|(exfalso;(simp at hc<;>omega))|(try simp only[bn]at hc;try contradiction))|skip))
     generalize X k=Z at *;obtain⟨Z1,Z2⟩:=Z;simp only at b1 b2 b3 t2 p3 ⊢;subst b3;refine⟨(pre++[L],r++mm,Z2,g,f),?_,⟨⟨b1.len,fun x hx=>b1.ne x (by simp only[List.cons_append,List.mem_cons];exact .inr hx),b1.sr⟩,?_,p3,?_⟩,?_,[],?_⟩
     ·simp at b2 ⊢;omega
     ·simp at t2 ⊢;omega
     ·simp at b2 p4 ⊢;omega
     ·simp only[List.length_append,List.length_cons,List.length_nil];(repeat' (first|exact trivial|refine And.intro (by first|rfl|(simp[get,Nat.beq]<;>omega)|(dsimp only[get];congr 1<;>first|rfl|omega|(simp<;>omega))) ?_))
     ·simp[ny,kz,nz]
end
section
open Rf
theorem vD {t:Tree} (h:eV t=true):cT t=true∧wt t≤65536:=by
 simp only[eV,Bool.and_eq_true,decide_eq_true_eq]at h;exact⟨h.2,h.1.2⟩
def jn (t:Tree):List UInt8×Int:=if eV t then (if (eG t).length>65536 then ([],8) else (eG t,0)) else ([],1)
end
section
open Rf
theorem qF (s:List aS) (h:s.all bk=true):∀k,k≤s.length→(ew (s.take k)).length≤60*k:=by
 intro k;induction k with
 |zero=>intro _;simp[ew]
 |succ k ih =>
  intro hk;rw[aJ s k zs (by omega),nx,List.length_append];have:=xB (List.all_eq_true.mp h _ (aO (d:=zs) (by omega:k<s.length)));have:=ih (by omega);omega
theorem DC:∀t,rh t:=by
 refine Tree.ind fun kd s c a ks ih μ b g r o j h ho=>?_
 have hft:=h.hf;rw[cD]at hft;simp only[Bool.and_eq_true]at hft;have hw:=h.hw;rw[bE]at hw ho;have hb:=h.hb;have hr:=h.hr;have ht:=Dx h;have hL:=py (μ:=μ) (b:=b) (g:=g) (t:=.node kd s c a ks);have hsl:=qF s hft.1.1;refine bo (C:=ctx) (Fn.of H7 rfl) rfl (by rw[bT,bT];omega) rfl (by rw[bT];exact k9 h.ok hb hr) ?_;rw[bT,iR,pw];unfold Jj;refine aZ ?_;simp only[aA,Tree.kind,Tree.steps,Tree.cell,Tree.pos,Tree.kids,ah,aa,aB,aq,ar,au,az,mem_set,aH,go_sem]
 try simp only[aA,Tree.kind,Tree.steps,Tree.cell,Tree.pos,Tree.kids,ah,aa,aB,aq,ar,au,az,mem_set,aH,go_sem]
 refine⟨(by simp[vb]<;>omega),(by simp[vb]<;>omega),?_⟩;have e:ey μ b g r o j++[⟨[.ptr b g 0],0,1,75,false⟩]++[⟨[.pv (.int .i64 kd),.pv (.sl s.length (s.flatMap aw)),.pv (.int .i64 c),.pv (.int .i64 a),.pv (.sl ks.length (ks.flatMap cy))],0,5,25,false⟩]=ey (jS μ b g (.node kd s c a ks)) b g r o j:=by
  rw[Au h,List.append_assoc];rfl
 rw[e];simp only[List.length_append,List.length_cons,List.length_nil,bT];refine aZ ?_;simp only[ht,ae,Tree.kind,Tree.steps,Tree.cell,Tree.pos,Tree.kids,ah,aa,aB,aq,ar,au,az,mem_set,aH,go_sem];try simp only[ht,ae,Tree.kind,Tree.steps,Tree.cell,Tree.pos,Tree.kids,ah,aa,aB,aq,ar,au,az,mem_set,aH,go_sem]
 refine⟨(by simp[vb]<;>omega),(by simp[vb]<;>omega),?_⟩;refine aZ ?_;simp only[ht,ae,Tree.kind,Tree.steps,Tree.cell,Tree.pos,Tree.kids,ah,aa,aB,aq,ar,au,az,mem_set,aH,go_sem];try simp only[ht,ae,Tree.kind,Tree.steps,Tree.cell,Tree.pos,Tree.kids,ah,aa,aB,aq,ar,au,az,mem_set,aH,go_sem]
 refine⟨(by simp[vb]<;>omega),(by simp[vb]<;>omega),?_⟩;refine bS ?_
 refine bg s.length (fun _=>True) (At μ.length s) (fun k=>ey (jS μ b g (.node kd s c a ks)) b g r (o++ew (s.take k)) (j+4*k)) trivial (by unfold At;(repeat' (first|exact trivial|refine And.intro (by first|rfl|(simp[get,Nat.beq]<;>omega)|(dsimp only[get];congr 1<;>first|rfl|omega|(simp<;>omega))) ?_))) ⟨[],by simp[ew]⟩ (fun k=>⟨by rw[bT,hL];omega,by simp only[At,dm,List.all_cons,List.all_nil,ck,bT,hL,Bool.and_true,Bool.true_and,Bool.and_eq_true];exact⟨Nat.blt_eq.mpr (by omega),Nat.blt_eq.mpr (by omega),Nat.blt_eq.mpr (by omega)⟩,by rw[bT];exact k9 (qk h) (by omega) (by omega)⟩) fun k hk _=>?_
 have hsk:=hsl k hk;by_cases hlt:k<s.length
 ·have hs:=sP h (m:=μ.length) (R:=dH 0 (cW (fun f μ'=>Aw ctx (fun _=>false) 67 μ.length Ff (iE [] (.pv (.tup [])) (ey μ b g r (o++((s.map mi).flatten++jD kd c a ks.length++(ks.map eG).flatten)) (j+(4*s.length+jE kd+(ks.map eh).sum)))) f μ') (iE [] (.pv (.tup [])) (ey μ b g r (o++((s.map mi).flatten++jD kd c a ks.length++(ks.map eG).flatten)) (j+(4*s.length+jE kd+(ks.map eh).sum)))))) (o:=o++ew (s.take k)) (j:=j+4*k) hlt (by rw[List.length_append];omega);refine ed hs fun e' f' μ' hh=>?_
  cases e' with
  |normal =>
   obtain⟨h1,junk,h2⟩:=hh;refine⟨hlt,trivial,h1,junk,?_⟩;rw[h2,aJ s k zs hlt,nx,List.append_assoc o,show j+4*k+4=j+4*(k+1) by omega]
  |_=>exact hh
 ·obtain rfl:k=s.length:=by omega
  rw[List.take_length]at hsk ⊢;have htl:=fun f hf=>sS h (m:=μ.length) (Nat.le_refl _) ih (o:=o++ew s) (j:=j+4*s.length) (by rw[List.length_append];omega) (f:=f) hf
  unfold At;iterate 5 first
   |refine⟨fun h=>by simp at h<;>omega,fun _=>?_⟩
   |refine⟨by simp[vb]<;>omega,by simp[vb]<;>omega,?_⟩
   |(refine aZ ?_;iterate 2 (try simp only[ht,aB,aq,ar,au,az,mem_set,aH,go_sem]))
  have:=htl [(14,.pv (.bool (decide ((s.length:Int)<s.length)))),(2,.ptr μ.length 0 0),(3,.ptr (μ.length+1) 0 0),(4,.fn 82 [.ptr μ.length 0 0]),(11,.pv (.sl s.length (s.flatMap aw))),(12,.pv (.int .i64 s.length)),(13,.pv (.int .i64 s.length))] (by (repeat' (first|exact trivial|refine And.intro (by first|rfl|(simp[get,Nat.beq]<;>omega)|(dsimp only[get];congr 1<;>first|rfl|omega|(simp<;>omega))) ?_)))
  rw[show o++ew s++jD kd c a ks.length++lE ks=o++((s.map mi).flatten++jD kd c a ks.length++(ks.map eG).flatten) by simp[ew,lE],show j+4*s.length+jE kd+jR ks=j+(4*s.length+jE kd+(ks.map eh).sum) by simp[jR];omega]at this;exact this
theorem pz (aD:List Nat) (d:Nat) (l:List UInt8):(eB l).map (dB aD d)=eB l:=by
 unfold eB;rw[List.map_map];refine List.map_congr_left fun x _=>?_
 cases d<;>rfl
def gM:dT:=cx (.pv (.val (.pointer none))) (.pv .nilsl) 0
def Hc (s:List aS):Nat→AF
 |0=>At 2 s 0
 |k+1=>At 3 s (k+1)
def B9 (t:Tree) (s:List aS):Nat→AM
 |0=>[ae t,gM,a7 1 0,ae t]
 |k+1=>ey (jS [ae t,gM,dc [] 0] 1 0 t) 1 0 2 (ew (s.take (k+1))) (4*(k+1)-1)
theorem BP (t:Tree) (hf:cT t=true) (hw:wt t≤1000000):aN ctx 50 [.ptr 1 0 0,.pv (aA t)] [ae t,gM] (.pv (.tup [])) (ey [ae t,gM,dc [] 0] 1 0 2 (eG t) (eh t-1)):=by
 obtain⟨kd,s,c,a,ks⟩:=t;have h:tH [ae (.node kd s c a ks),gM,dc [] 0] 1 0 2 (.node kd s c a ks):=⟨rfl,by simp,by simp,by simp,hf,hw⟩
 have hft:=hf;rw[cD]at hft;simp only[Bool.and_eq_true]at hft;rw[bE]at hw;have hsl:=qF s hft.1.1;have ih:∀x∈ks,rh x:=fun x _=>DC x
 refine bo (C:=ctx) (Fn.of H7 rfl) rfl (by simp[bT]) rfl (by rw[bT];exact k9 (by rfl) (by simp) (by simp)) ?_;rw[iR,pw];unfold Jj;refine aZ ?_;dsimp only[aA,ae,gM,cx,Tree.kind,Tree.steps,Tree.cell,Tree.pos,Tree.kids,ah,aa,go_sem];try dsimp only[aA,ae,gM,cx,Tree.kind,Tree.steps,Tree.cell,Tree.pos,Tree.kids,ah,aa,go_sem]
 refine⟨(by simp[vb]<;>omega),(by simp[vb]<;>omega),?_⟩;refine aZ ?_;dsimp only[aA,ae,Tree.kind,Tree.steps,Tree.cell,Tree.pos,Tree.kids,ah,aa,go_sem];try dsimp only[aA,ae,Tree.kind,Tree.steps,Tree.cell,Tree.pos,Tree.kids,ah,aa,go_sem]
 refine⟨(by simp[vb]<;>omega),(by simp[vb]<;>omega),?_⟩;refine aZ ?_;dsimp only[aA,ae,Tree.kind,Tree.steps,Tree.cell,Tree.pos,Tree.kids,ah,aa,go_sem];try dsimp only[aA,ae,Tree.kind,Tree.steps,Tree.cell,Tree.pos,Tree.kids,ah,aa,go_sem]
 refine⟨(by simp[vb]<;>omega),(by simp[vb]<;>omega),?_⟩;refine bS ?_;refine cC (fun k=>k≤s.length) (Hc s) (B9 (.node kd s c a ks) s) (fun k=>s.length-k) 0 (Nat.zero_le _) (by unfold Hc At;(repeat' (first|exact trivial|refine And.intro (by first|rfl|(simp[get,Nat.beq]<;>omega)|(dsimp only[get];congr 1<;>first|rfl|omega|(simp<;>omega))) ?_))) ⟨[],rfl⟩ (fun k hk=>?_) fun k hk=>?_
 ·cases k with
  |zero=>exact⟨by simp[B9],rfl,rfl⟩
  |succ k=>exact⟨by simp[B9,bT,jS],by simp only[B9,bT,jS];rfl,by simp only[B9];rw[bT];exact k9 (qk h) (by simp[jS]) (by simp[jS])⟩
 have hsk:=hsl k hk;by_cases hlt:k<s.length
 ·cases k with
  |succ k =>
   have hs:=sP h (m:=2) (R:=dH 0 (cW (fun f μ'=>Aw ctx (fun _=>false) 67 2 Ff (iE [] (.pv (.tup [])) (ey [ae (.node kd s c a ks),gM,dc [] 0] 1 0 2 ((s.map mi).flatten++jD kd c a ks.length++(ks.map eG).flatten) (4*s.length+jE kd+(ks.map eh).sum-1))) f μ') (iE [] (.pv (.tup [])) (ey [ae (.node kd s c a ks),gM,dc [] 0] 1 0 2 ((s.map mi).flatten++jD kd c a ks.length++(ks.map eG).flatten) (4*s.length+jE kd+(ks.map eh).sum-1))))) (o:=ew (s.take (k+1))) (j:=4*(k+1)-1) hlt (by omega);refine ed hs fun e' f' μ' hh=>?_
   cases e' with
   |normal =>
    obtain⟨h1,junk,h2⟩:=hh;refine⟨k+1+1,by omega,by omega,h1,junk,?_⟩;rw[h2,B9,aJ s (k+1) zs hlt,nx,show 4*(k+1)-1+4=4*(k+1+1)-1 by omega]
   |_=>exact hh
  |zero =>
   have hxo:bk (s.getD 0 zs)=true:=List.all_eq_true.mp hft.1.1 _ (aO hlt);have e:=bM bu s 0 zs hlt;rw[Nat.zero_mul,List.drop_zero]at e;have hle:=cR s;have e1:=aJ s 0 zs hlt;generalize s.getD 0 zs=x at *;obtain⟨b1,b2⟩:=mj hxo;have hkind:x.kind=0∨x.kind=1:=by
    simp[bk,aL]at hxo;omega
   obtain⟨xk,xi,xc⟩:=x;simp only at b1 b2 hkind;have hb2:∀n∈[xi,xc],-10000000000≤n∧n≤10000000000:=by
    intro n hn;simp only[List.mem_cons,List.not_mem_nil,or_false]at hn;rcases hn with rfl|rfl<;>omega
   have hl1:=fun w hw0 hw1=>Gl (μ:=[ae (.node kd s c a ks),gM,a7 1 0,ae (.node kd s c a ks),vM ⟨xk,xi,xc⟩]) rfl (b:=1) (g:=0) (c:=2) rfl (by simp) rfl w [xi,xc] (by simp) hb2 hw0 hw1
   have hr:=uz ⟨xk,xi,xc⟩;have e3:ew (s.take 1)=mi ⟨xk,xi,xc⟩:=by rw[e1];simp[ew]
   have a1:Hc s 0=[(2,.ptr 2 0 0),(3,.ptr 3 0 0),(4,.fn 82 [.ptr 2 0 0]),(11,.pv (.sl s.length (s.flatMap aw))),(12,.pv (.int .i64 s.length)),(13,.pv (.int .i64 0))]:=rfl;have a2:B9 (.node kd s c a ks) s 0=[ae (.node kd s c a ks),gM,a7 1 0,ae (.node kd s c a ks)]:=rfl;rw[a1,a2];rcases hkind with rfl|rfl
   ·have h6:=hl1 [114,111,119] (by simp) (by simp);replace hr:mi ⟨0,xi,xc⟩=cu [114,111,119] [xi,xc]:=hr;refine aZ ?_;dsimp only[go_sem];try dsimp only[go_sem]
    refine⟨(by simp[vb]<;>omega),(by simp[vb]<;>omega),?_⟩;refine aZ ?_;dsimp only[go_sem];refine⟨fun _=>?_,fun h=>by simp at h;subst h;simp at hlt⟩;iterate 5 first
     |refine⟨by simp[vb,e,hle,hlt,aw]<;>omega,by simp[vb,e,hle,hlt,aw]<;>omega,?_⟩
     |(refine br [ξ 16 (.agg (aw ⟨0,xi,xc⟩))] ?_;iterate 2 (try dsimp only[a7,aw,ae,gM,cx,Tree.kind,Tree.steps,Tree.cell,Tree.pos,Tree.kids,go_sem]))
    refine br [(26,{val:=some (.pv (.tup [])),mem:=some [ae (.node kd s c a ks),cx (.ptr 1 0 0) (.ref 5 3 0 (cu [114,111,119] [xi,xc]).length) 0,a7 1 0,ae (.node kd s c a ks),vM ⟨0,xi,xc⟩,dc (cu [114,111,119] [xi,xc]) 3]})] ?_;dsimp only[a7,aw,go_sem];refine⟨fun _=>?_,fun h=>by simp at h<;>omega⟩;refine br [(26,{val:=some (.pv (.tup [])),mem:=some [ae (.node kd s c a ks),cx (.ptr 1 0 0) (.ref 5 3 0 (cu [114,111,119] [xi,xc]).length) 0,a7 1 0,ae (.node kd s c a ks),vM ⟨0,xi,xc⟩,dc (cu [114,111,119] [xi,xc]) 3]})] ?_
    dsimp only[a7,aw,go_sem];try dsimp only[a7,aw,go_sem]
    refine⟨(by simp[vb]<;>omega),?_,?_⟩
    ·exact⟨h6,trivial⟩
    refine fK [0,1,5,2,3] rfl ?_;dsimp only[iz,gI,j0,dB,idxOf,ae,cx,dc,a7,vM,go_sem];simp only[pz];refine aZ ?_;dsimp only[a7,aw,go_sem];try dsimp only[a7,aw,go_sem]
    refine⟨(by simp[vb]<;>omega),(by simp[vb]<;>omega),?_⟩;exact⟨1,by omega,by omega,by unfold Hc At;(repeat' (first|exact trivial|refine And.intro (by first|rfl|(simp[get,Nat.beq]<;>omega)|(dsimp only[get];congr 1<;>first|rfl|omega|(simp<;>omega))) ?_)),[],by rw[B9,Nat.zero_add,e3,hr];rfl⟩
   ·have h6:=hl1 [103,114,97,112,104] (by simp) (by simp);replace hr:mi ⟨1,xi,xc⟩=cu [103,114,97,112,104] [xi,xc]:=hr;refine aZ ?_;dsimp only[go_sem];try dsimp only[go_sem]
    refine⟨(by simp[vb]<;>omega),(by simp[vb]<;>omega),?_⟩;refine aZ ?_;dsimp only[go_sem];refine⟨fun _=>?_,fun h=>by simp at h;subst h;simp at hlt⟩;iterate 5 first
     |refine⟨by simp[vb,e,hle,hlt,aw]<;>omega,by simp[vb,e,hle,hlt,aw]<;>omega,?_⟩
     |(refine br [ξ 16 (.agg (aw ⟨1,xi,xc⟩))] ?_;iterate 2 (try dsimp only[a7,aw,ae,gM,cx,Tree.kind,Tree.steps,Tree.cell,Tree.pos,Tree.kids,go_sem]))
    refine br [(33,{val:=some (.pv (.tup [])),mem:=some [ae (.node kd s c a ks),cx (.ptr 1 0 0) (.ref 5 3 0 (cu [103,114,97,112,104] [xi,xc]).length) 0,a7 1 0,ae (.node kd s c a ks),vM ⟨1,xi,xc⟩,dc (cu [103,114,97,112,104] [xi,xc]) 3]})] ?_;dsimp only[a7,aw,go_sem];refine⟨fun h=>by simp at h<;>omega,fun _=>?_⟩;refine br [(33,{val:=some (.pv (.tup [])),mem:=some [ae (.node kd s c a ks),cx (.ptr 1 0 0) (.ref 5 3 0 (cu [103,114,97,112,104] [xi,xc]).length) 0,a7 1 0,ae (.node kd s c a ks),vM ⟨1,xi,xc⟩,dc (cu [103,114,97,112,104] [xi,xc]) 3]})] ?_
    dsimp only[a7,aw,go_sem];try dsimp only[a7,aw,go_sem]
    refine⟨(by simp[vb]<;>omega),?_,?_⟩
    ·exact⟨h6,trivial⟩
    refine fK [0,1,5,2,3] rfl ?_;dsimp only[iz,gI,j0,dB,idxOf,ae,cx,dc,a7,vM,go_sem];simp only[pz];refine aZ ?_;dsimp only[a7,aw,go_sem];try dsimp only[a7,aw,go_sem]
    refine⟨(by simp[vb]<;>omega),(by simp[vb]<;>omega),?_⟩;exact⟨1,by omega,by omega,by unfold Hc At;(repeat' (first|exact trivial|refine And.intro (by first|rfl|(simp[get,Nat.beq]<;>omega)|(dsimp only[get];congr 1<;>first|rfl|omega|(simp<;>omega))) ?_)),[],by rw[B9,Nat.zero_add,e3,hr];rfl⟩
 ·obtain rfl:k=s.length:=by omega
  have hst:ew s=(s.map mi).flatten:=rfl;have hkt:lE ks=(ks.map eG).flatten:=rfl;have hkw:jR ks=(ks.map eh).sum:=rfl;rw[List.take_length]at hsk;have htw:2≤jE kd:=by unfold jE;split<;>(try split)<;>omega
  rw[←hst,←hkt,←hkw];cases s with
  |cons x s' =>
   have htl:=fun f hf=>sS h (m:=2) (by simp) ih (o:=ew (x::s')) (j:=4*(x::s').length-1) (by omega) (f:=f) hf
   have e4:4*(x::s').length-1+jE kd+jR ks=4*(x::s').length+jE kd+jR ks-1:=by simp only[List.length_cons];omega
   rw[e4]at htl;have e5:B9 (.node kd (x::s') c a ks) (x::s') (x::s').length=ey (jS [ae (.node kd (x::s') c a ks),gM,dc [] 0] 1 0 (.node kd (x::s') c a ks)) 1 0 2 (ew (x::s')) (4*(x::s').length-1):=by
    simp only[List.length_cons,B9];rw[show(x::s').take (s'.length+1)=x::s' from List.take_length (l:=x::s')]
   rw[e5];have e6:Hc (x::s') (x::s').length=At 3 (x::s') (x::s').length:=rfl;rw[e6];unfold At;generalize hM:ey (jS [ae (.node kd (x::s') c a ks),gM,dc [] 0] 1 0 (.node kd (x::s') c a ks)) 1 0 2 (ew (x::s')) (4*(x::s').length-1)=MM at *;iterate 5 first
    |refine⟨fun h=>by simp at h<;>omega,fun _=>?_⟩
    |refine⟨by simp[vb]<;>omega,by simp[vb]<;>omega,?_⟩
    |(refine aZ ?_;iterate 2 (try dsimp only[go_sem]))
   exact htl _ (by (repeat' (first|exact trivial|refine And.intro (by first|rfl|(simp[get,Nat.beq]<;>omega)|(dsimp only[get];congr 1<;>first|rfl|omega|(simp<;>omega))) ?_)))
  |nil =>
   have a1:Hc [] 0=[(2,.ptr 2 0 0),(3,.ptr 3 0 0),(4,.fn 82 [.ptr 2 0 0]),(11,.pv (.sl 0 [])),(12,.pv (.int .i64 0)),(13,.pv (.int .i64 0))]:=rfl;have a2:B9 (.node kd [] c a ks) [] 0=[ae (.node kd [] c a ks),gM,a7 1 0,ae (.node kd [] c a ks)]:=rfl;rw[List.length_nil,a1,a2];have hb:=nw hft.1.2;obtain⟨b1,b2⟩:=hb;have hwl:=dR ks;have htl:=qh hft.1.2 (by omega);have hkk:=fun f hf=>sQ h (m:=2) (by simp) ih (o:=jD kd c a ks.length) (j:=jE kd-1) (by omega) (f:=f) hf
   have hln:=fun w ns hn hns hw0 hw=>Gl (μ:=[ae (.node kd [] c a ks),gM,a7 1 0,ae (.node kd [] c a ks)]) rfl (b:=1) (g:=0) (c:=2) rfl (by simp) rfl w ns hn hns hw0 hw
   have e4:jE kd-1+jR ks=4*0+jE kd+jR ks-1:=by omega
   rw[e4]at hkk;rw[show ew []=[] from rfl,List.nil_append];rw[sO]at hkk ⊢;rcases sR hft.1.2 with⟨rfl,h0⟩|rfl|⟨rfl,h2⟩
   ·have h1:=(hln [99,108,111,115,101,100] [] (by simp) (by simp) (by simp) (by simp)).AY (al':=[.pv (.str [99,108,111,115,101,100]),.pv .nilsl,.ptr 2 0 0]) ⟨rfl,fun i x y hx hy=>by
     match i,hx,hy with
     |0,hx,hy=>injection hx with hx;injection hy with hy;subst hx hy;exact .refl _
     |1,hx,hy=>injection hx with hx;injection hy with hy;subst hx hy;exact CW.nil
     |2,hx,hy=>injection hx with hx;injection hy with hy;subst hx hy;exact .refl _
     |_+3,hx,_=>simp at hx⟩
    iterate 9 first
     |refine⟨fun h=>by simp at h<;>omega,fun _=>?_⟩
     |refine⟨by simp[vb]<;>omega,by simp[vb]<;>omega,?_⟩
     |(refine aZ ?_;iterate 2 (try dsimp only[ae,gM,cx,a7,Tree.kind,Tree.steps,Tree.cell,Tree.pos,Tree.kids,go_sem]))
    refine br [(46,{val:=some (.pv (.tup [])),mem:=some [ae (.node 0 [] c a ks),cx (.ptr 1 0 0) (.ref 4 1 0 (cu [99,108,111,115,101,100] []).length) 0,a7 1 0,ae (.node 0 [] c a ks),dc (cu [99,108,111,115,101,100] []) 1]})] ?_;dsimp only[ae,gM,cx,a7,Tree.kind,Tree.steps,Tree.cell,Tree.pos,Tree.kids,go_sem];refine⟨fun _=>?_,fun h=>by simp at h<;>omega⟩
    refine br [(46,{val:=some (.pv (.tup [])),mem:=some [ae (.node 0 [] c a ks),cx (.ptr 1 0 0) (.ref 4 1 0 (cu [99,108,111,115,101,100] []).length) 0,a7 1 0,ae (.node 0 [] c a ks),dc (cu [99,108,111,115,101,100] []) 1]})] ?_;dsimp only[ae,gM,cx,a7,Tree.kind,Tree.steps,Tree.cell,Tree.pos,Tree.kids,go_sem];try dsimp only[ae,gM,cx,a7,Tree.kind,Tree.steps,Tree.cell,Tree.pos,Tree.kids,go_sem]
    refine⟨(by simp[vb]<;>omega),?_,?_⟩
    ·exact⟨h1,trivial⟩
    refine fK [0,1,4,2,3] rfl ?_;dsimp only[iz,gI,j0,dB,idxOf,ae,cx,dc,a7,vM,go_sem];simp only[pz];exact hkk _ (by (repeat' (first|exact trivial|refine And.intro (by first|rfl|(simp[get,Nat.beq]<;>omega)|(dsimp only[get];congr 1<;>first|rfl|omega|(simp<;>omega))) ?_)))
   ·have h1:=hln [115,112,108,105,116] [c,a] (by simp) (by intro n hn;simp only[List.mem_cons,List.not_mem_nil,or_false]at hn;rcases hn with rfl|rfl<;>omega) (by simp) (by simp);iterate 9 first
     |refine⟨fun h=>by simp at h<;>omega,fun _=>?_⟩
     |refine⟨by simp[vb]<;>omega,by simp[vb]<;>omega,?_⟩
     |(refine aZ ?_;iterate 2 (try dsimp only[ae,gM,cx,a7,Tree.kind,Tree.steps,Tree.cell,Tree.pos,Tree.kids,go_sem]))
    refine aZ ?_;dsimp only[ae,Tree.kind,Tree.steps,Tree.cell,Tree.pos,Tree.kids,go_sem];refine⟨fun h=>by simp at h<;>omega,fun _=>?_⟩;refine aZ ?_;dsimp only[ae,Tree.kind,Tree.steps,Tree.cell,Tree.pos,Tree.kids,go_sem];try dsimp only[ae,Tree.kind,Tree.steps,Tree.cell,Tree.pos,Tree.kids,go_sem]
    refine⟨(by simp[vb]<;>omega),(by simp[vb]<;>omega),?_⟩;refine br [(55,{val:=some (.pv (.tup [])),mem:=some [ae (.node 1 [] c a ks),cx (.ptr 1 0 0) (.ref 4 3 0 (cu [115,112,108,105,116] [c,a]).length) 0,a7 1 0,ae (.node 1 [] c a ks),dc (cu [115,112,108,105,116] [c,a]) 3]})] ?_;dsimp only[ae,gM,cx,a7,Tree.kind,Tree.steps,Tree.cell,Tree.pos,Tree.kids,go_sem];refine⟨fun _=>?_,fun h=>by simp at h<;>omega⟩
    refine br [(55,{val:=some (.pv (.tup [])),mem:=some [ae (.node 1 [] c a ks),cx (.ptr 1 0 0) (.ref 4 3 0 (cu [115,112,108,105,116] [c,a]).length) 0,a7 1 0,ae (.node 1 [] c a ks),dc (cu [115,112,108,105,116] [c,a]) 3]})] ?_;dsimp only[ae,gM,cx,a7,Tree.kind,Tree.steps,Tree.cell,Tree.pos,Tree.kids,go_sem];try dsimp only[ae,gM,cx,a7,Tree.kind,Tree.steps,Tree.cell,Tree.pos,Tree.kids,go_sem]
    refine⟨(by simp[vb]<;>omega),?_,?_⟩
    ·exact⟨h1,trivial⟩
    refine fK [0,1,4,2,3] rfl ?_;dsimp only[iz,gI,j0,dB,idxOf,ae,cx,dc,a7,vM,go_sem];simp only[pz];exact hkk _ (by (repeat' (first|exact trivial|refine And.intro (by first|rfl|(simp[get,Nat.beq]<;>omega)|(dsimp only[get];congr 1<;>first|rfl|omega|(simp<;>omega))) ?_)))
   ·have h1:=hln [99,97,115,101,115] [(ks.length:Int)] (by simp) (by intro n hn;simp only[List.mem_cons,List.not_mem_nil,or_false]at hn;subst hn;omega) (by simp) (by simp);iterate 9 first
     |refine⟨fun h=>by simp at h<;>omega,fun _=>?_⟩
     |refine⟨by simp[vb]<;>omega,by simp[vb]<;>omega,?_⟩
     |(refine aZ ?_;iterate 2 (try dsimp only[ae,gM,cx,a7,Tree.kind,Tree.steps,Tree.cell,Tree.pos,Tree.kids,ah,go_sem]))
    refine aZ ?_;dsimp only[ae,Tree.kind,Tree.steps,Tree.cell,Tree.pos,Tree.kids,ah,go_sem];refine⟨fun h=>by simp at h<;>omega,fun _=>?_⟩;refine aZ ?_;dsimp only[ae,Tree.kind,Tree.steps,Tree.cell,Tree.pos,Tree.kids,ah,go_sem];try dsimp only[ae,Tree.kind,Tree.steps,Tree.cell,Tree.pos,Tree.kids,ah,go_sem]
    refine⟨(by simp[vb]<;>omega),(by simp[vb]<;>omega),?_⟩;refine br [(42,{val:=some (.pv (.tup [])),mem:=some [ae (.node 2 [] c a ks),cx (.ptr 1 0 0) (.ref 4 2 0 (cu [99,97,115,101,115] [(ks.length:Int)]).length) 0,a7 1 0,ae (.node 2 [] c a ks),dc (cu [99,97,115,101,115] [(ks.length:Int)]) 2]})] ?_;dsimp only[ae,gM,cx,a7,Tree.kind,Tree.steps,Tree.cell,Tree.pos,Tree.kids,ah,go_sem];refine⟨fun h=>by simp at h<;>omega,fun _=>?_⟩
    refine br [(42,{val:=some (.pv (.tup [])),mem:=some [ae (.node 2 [] c a ks),cx (.ptr 1 0 0) (.ref 4 2 0 (cu [99,97,115,101,115] [(ks.length:Int)]).length) 0,a7 1 0,ae (.node 2 [] c a ks),dc (cu [99,97,115,101,115] [(ks.length:Int)]) 2]})] ?_;dsimp only[ae,gM,cx,a7,Tree.kind,Tree.steps,Tree.cell,Tree.pos,Tree.kids,ah,go_sem];try dsimp only[ae,gM,cx,a7,Tree.kind,Tree.steps,Tree.cell,Tree.pos,Tree.kids,ah,go_sem]
    refine⟨(by simp[vb]<;>omega),?_,?_⟩
    ·exact⟨h1,trivial⟩
    refine fK [0,1,4,2,3] rfl ?_;dsimp only[iz,gI,j0,dB,idxOf,ae,cx,dc,a7,vM,go_sem];simp only[pz];exact hkk _ (by (repeat' (first|exact trivial|refine And.intro (by first|rfl|(simp[get,Nat.beq]<;>omega)|(dsimp only[get];congr 1<;>first|rfl|omega|(simp<;>omega))) ?_)))
theorem DD (t:Tree):eG t≠[]:=by
 obtain⟨k,s,c,a,l⟩:=t;rw[iR];have:jD k c a l.length≠[]:=by
  unfold jD;split
  ·simp
  ·split<;>simp
 simp[this]
def Jk:ay:=(⟨_,by conv=>(lhs;reduce;try simp only[cJ,Int.cast_ofNat_Int,Int.reduceNegSucc,UInt8.reduceOfNat])⟩:{x // codeOf Tryz.prog 26 (fun _=>false)=some x}).1
theorem Jl:bp Tryz.prog 26 (fun _=>false)=some (Jk,[.t 2,.t 3],13,true):=by kernel_rfl
theorem uB (t:Tree) (hw:wt t≤1000000000):aj ctx 26 [aA t] (.tup [.str (jn t).1,.int .i64 (jn t).2]):=by
 have hv:=sK t hw;unfold jn;refine af (C:=ctx) (Fn.of Jl rfl) rfl ?_;unfold Jk;cases hb:eV t with
 |false =>
  rw[hb]at hv;repeat' (first|((with_reducible first|show aG _|show aM _);simp[vb]<;>omega)|exact(rfl:some _=_)|((fail_if_success refine aT ?_);refine fu [(13,fun _=>some (.bool false))] ?_;(repeat1' dsimp only[Jk,aA,go_sem]);first|refine aU ?_ ?_ rfl ?_|apply aV|apply aW|(refine aX (fun hc=>?_) fun hc=>?_<;>first|(cases hc;done)|(exfalso;simp at hc<;>omega)|(try simp only[bn]at hc;try contradiction))|skip))
  exact⟨hv,trivial⟩
 |true =>
  obtain⟨hf,hw2⟩:=vD hb;have hwr:=BP t hf (by omega);have hne:=DD t;rw[hb]at hv;generalize eG t=T at *;generalize hj:eh t-1=j at *;have hlen:=EN (μ:=ey [ae t,gM,dc [] 0] 1 0 2 T j) (by rw[bT];exact k9 (by rfl) (by simp) (by simp)) (b:=1) (g:=0) (r:=2) (j:=j) (n:=T.length) (x:=.ptr 1 0 0) rfl;have hstr:=y5 (μ:=ey [ae t,gM,dc [] 0] 1 0 2 T j) (b:=1) (g:=0) (r:=2) (j:=j) (x:=.ptr 1 0 0) hne rfl rfl;refine fu [(13,fun _=>some (.bool true))] ?_;dsimp only[aA,go_sem];try dsimp only[aA,go_sem]
  refine⟨(by simp[vb]<;>omega),(by simp[vb]<;>omega),?_⟩;refine fu [(13,fun _=>some (.bool true))] ?_;dsimp only[aA,go_sem];try dsimp only[aA,go_sem]
  refine⟨(by simp[vb]<;>omega),?_,?_⟩
  ·exact⟨hv,trivial⟩
  iterate 5 first
   |refine⟨fun h=>by simp at h<;>omega,fun _=>?_⟩
   |refine⟨by simp[vb]<;>omega,by simp[vb]<;>omega,?_⟩
   |(refine br [(9,{val:=some (.pv (.tup [])),mem:=some [ae t,cx (.ptr 1 0 0) (.ref 2 j 0 T.length) 0,dc T j]})] ?_;iterate 2 (try dsimp only[ae,go_sem]))
  refine br [(9,{val:=some (.pv (.tup [])),mem:=some [ae t,cx (.ptr 1 0 0) (.ref 2 j 0 T.length) 0,dc T j]})] ?_;dsimp only[ae,go_sem];try dsimp only[ae,go_sem]
  refine⟨(by simp[vb]<;>omega),?_,?_⟩
  ·exact⟨hwr,trivial⟩
  refine br [(10,{val:=some (.pv (.int .i64 T.length)),ro:=true})] ?_;dsimp only[ae,go_sem];try dsimp only[ae,go_sem]
  refine⟨(by simp[vb]<;>omega),?_,?_⟩
  ·exact⟨hlen,trivial⟩
  refine aZ ?_;dsimp only[go_sem];refine⟨fun hc=>?_,fun hc=>?_⟩
  ·rw[if_pos rfl,if_pos (by simp at hc;omega)];refine aZ ?_;dsimp only[go_sem];try dsimp only[go_sem]
   refine⟨(by simp[vb]<;>omega),(by simp[vb]<;>omega),?_⟩;refine aZ ?_;dsimp only[go_sem];exact⟨trivial,rfl⟩
  ·rw[if_pos rfl,if_neg (by simp at hc;omega)];refine br [(12,{val:=some (.pv (.str T)),mem:=some ([ae t,cx (.ptr 1 0 0) (.ref 2 j 0 T.length) 0,dc T j].set 2 {dc T j with frozen:=true})})] ?_;dsimp only[go_sem];refine br [(12,{val:=some (.pv (.str T)),mem:=some ([ae t,cx (.ptr 1 0 0) (.ref 2 j 0 T.length) 0,dc T j].set 2 {dc T j with frozen:=true})})] ?_;dsimp only[go_sem];try dsimp only[go_sem]
   refine⟨(by simp[vb]<;>omega),?_,?_⟩
   ·exact⟨hstr,trivial⟩
   refine aZ ?_;dsimp only[go_sem];exact⟨trivial,rfl⟩
end
end Pur
end
section
namespace Rf
open Pur (aL)
theorem kU:∀(n:Int) (l:List Tm) (last:Int),-1≤last→dF n last l=true→(l.length:Int)+last+1≤max n (last+1)∧∀t∈l,0≤t.cell∧last<t.cell∧t.cell<n∧t.fac≠0∧ -1000≤t.fac∧t.fac≤1000
 |n,[],last,h,_=>⟨by simp;omega,fun t ht=>by cases ht⟩
 |n,x::l,last,h,e=>by
  simp only[dF,aL,Bool.and_eq_true,decide_eq_true_eq]at e;obtain⟨⟨⟨⟨e1,e2⟩,e3⟩,e4,e5⟩,e6⟩:=e;obtain⟨g1,g2⟩:=kU n l x.cell (by omega) e6;refine⟨by simp;omega,fun t ht=>?_⟩;rcases List.mem_cons.mp ht with rfl|ht
  ·exact⟨by omega,e1,e2,e3,e4,e5⟩
  ·obtain⟨q1,q2,q3⟩:=g2 t ht;exact⟨q1,by omega,q3⟩
theorem vE {f v:Int} (h1: -1000≤f) (h2:f≤1000) (h3: -1000000≤v) (h4:v≤1000000): -1000000000≤f*v∧f*v≤1000000000:=by
 have a1:(f.natAbs:Int)≤1000:=by omega
 have a2:(v.natAbs:Int)≤1000000:=by omega
 have a3:f.natAbs*v.natAbs≤1000*1000000:=Nat.mul_le_mul (by omega) (by omega);have a4:(f*v).natAbs=f.natAbs*v.natAbs:=Int.natAbs_mul f v;omega
theorem kV {r:Rg} (h:mc r=true): -1000000≤r.lo∧r.lo≤1000000∧ -1000000≤r.hi∧r.hi≤1000000:=by
 simp only[mc,aL,Bool.and_eq_true,decide_eq_true_eq]at h;omega
theorem gC {b:List Rg} (h:cz b=true) (k:Nat):mc (b.getD k zr)=true:=by
 simp only[cz,Bool.and_eq_true]at h;by_cases hk:k<b.length
 ·exact List.all_eq_true.mp h.1 _ (Pur.aO hk)
 ·rw[List.getD,List.getElem?_eq_none (by omega)];rfl
theorem vF {b:List Rg} {t:Tm} (hb:cz b=true) (h1: -1000≤t.fac) (h2:t.fac≤1000): -1000000000≤y6 b t∧y6 b t≤1000000000:=by
 have:=kV (gC hb t.cell.toNat);unfold y6;split
 ·exact vE h1 h2 (by omega) (by omega)
 ·exact vE h1 h2 (by omega) (by omega)
theorem nB {b:List Rg} (hb:cz b=true) (c:Int):∀(l:List Tm),(∀t∈l,-1000≤t.fac∧t.fac≤1000)→ -(1000000000*(l.length:Int))≤eF b c l∧eF b c l≤1000000000*(l.length:Int)
 |[],_=>by simp[eF]
 |t::r,h=>by
  obtain⟨g1,g2⟩:=nB hb c r fun x hx=>h x (by simp[hx])
  obtain⟨q1,q2⟩:=h t (by simp);have:=vF (t:=t) hb q1 q2;simp only[eF,List.length_cons,Int.natCast_add,Int.natCast_one];split<;>omega
theorem mn (b:List Rg) (c:Int):∀(l m:List Tm),eF b c (l++m)=eF b c l+eF b c m
 |[],m=>by simp[eF]
 |t::r,m=>by rw[List.cons_append,eF,eF,mn b c r m];omega
theorem ql (c:Int):∀(l:List Tm),(jL (fun t=>decide (t.cell=c)) l<0∧∀t∈l,t.cell≠c)∨(∃k:Nat,jL (fun t=>decide (t.cell=c)) l=k∧k<l.length∧kP c l=(l.getD k zm).fac)
 |[]=>.inl ⟨by simp[jL],fun t ht=>by cases ht⟩
 |t::r=>by
  by_cases h:t.cell=c
  ·exact .inr ⟨0,by simp[jL,List.findIdx?_cons,h],by simp,by simp[kP,h]⟩
  ·have e:jL (fun t=>decide (t.cell=c)) (t::r)=match r.findIdx? (fun t=>decide (t.cell=c)) with|some i=>(i:Int)+1|none=> -1:=by
    rw[jL,List.findIdx?_cons];simp only[h,decide_false,Bool.false_eq_true,if_false];cases r.findIdx? (fun t=>decide (t.cell=c))<;>simp
   rcases ql c r with⟨h1,h2⟩|⟨k,h1,h2,h3⟩
   ·refine .inl ⟨?_,fun x hx=>?_⟩
    ·rw[e];unfold jL at h1;cases hq:r.findIdx? (fun t=>decide (t.cell=c)) with
     |none=>simp
     |some i=>rw[hq]at h1;simp only at h1;omega
    ·rcases List.mem_cons.mp hx with rfl|hx
     ·exact h
     ·exact h2 x hx
   ·refine .inr ⟨k+1,?_,by simp;omega,?_⟩
    ·rw[e];unfold jL at h1;cases hq:r.findIdx? (fun t=>decide (t.cell=c)) with
     |none=>rw[hq]at h1;simp only at h1;omega
     |some i=>rw[hq]at h1;simp only at h1 ⊢;omega
    ·rw[kP,if_neg h,h3];simp
theorem oI (c:Int):∀(l:List Tm),(∀t∈l,t.cell≠c)→kP c l=0
 |[],_=>rfl
 |t::r,h=>by rw[kP,if_neg (h t (by simp)),oI c r fun x hx=>h x (by simp[hx])]
theorem sV {b:List Rg} {r:Rw} (h:eA b [r]=true):cz b=true∧b.length≤128∧r.terms.length≤128∧ -1000000000≤r.bound∧r.bound≤1000000000∧∀t∈r.terms,0≤t.cell∧t.cell<b.length∧t.fac≠0∧ -1000≤t.fac∧t.fac≤1000:=by
 simp only[eA,List.all_cons,List.all_nil,Bool.and_true,Bool.and_eq_true,gA,aL,decide_eq_true_eq]at h;obtain⟨h1,h2,h3,h4⟩:=h;obtain⟨g1,g2⟩:=kU _ _ _ (by omega) h2;have hb:=h1;simp only[cz,Bool.and_eq_true,decide_eq_true_eq]at hb;refine⟨h1,hb.2,by omega,h3,h4,fun t ht=>?_⟩;obtain⟨q1,q2,q3⟩:=g2 t ht;exact⟨q1,q3⟩
theorem Av (a f:Int) (hf:0<f):a / f=if Int.tmod a f<0 then Int.tdiv a f-1 else Int.tdiv a f:=by
 rw[Int.tdiv_eq_ediv,Int.tmod_eq_emod];have h1:=Int.emod_nonneg a (show f≠0 by omega);have h2:=Int.emod_lt_of_pos a hf;have h3:f.sign=1:=Int.sign_eq_one_of_pos hf;have h4:(f.natAbs:Int)=f:=by omega
 by_cases h:0≤a∨f ∣ a
 ·simp[h];omega
 ·simp[h,h3,h4];omega
end Rf
namespace Pur
open Go.RowKit
open Rf
theorem iw (a b:Int):(if a<b then b else a)=max a b:=by split<;>omega
theorem ei (a b:Int):(if b<a then b else a)=min a b:=by split<;>omega
theorem Ax (x y:Rg):aj ctx 79 [.agg [.int .i64 x.lo,.int .i64 x.hi],.agg [.int .i64 y.lo,.int .i64 y.hi]] (.agg [.int .i64 (max x.lo y.lo),.int .i64 (min x.hi y.hi)]):=by
 refine af (C:=ctx) (Fn.of HV rfl) rfl ?_;unfold IA;repeat' (first|((with_reducible first|show aG _|show aM _);simp[vb]<;>omega)|exact(rfl:some _=_)|((fail_if_success refine aT ?_);refine aZ ?_;(repeat1' dsimp only[IA,go_sem]);first|refine aU ?_ ?_ rfl ?_|apply aV|apply aW|(refine aX (fun hc=>?_) fun hc=>?_<;>first|(cases hc;done)|(exfalso;simp at hc<;>omega)|(try simp only[bn]at hc;try contradiction))|skip))
 rw[iw,ei]
theorem xE (a f:Int) (hf:0<f) (h1: -1000000000000≤a) (h2:a≤1000000000000) (h3:f≤1000000000000):aj ctx 150 [.int .i64 a,.int .i64 f] (.int .i64 (a / f)):=by
 have hd:(a.tmod f<0∧a / f=a.tdiv f-1)∨(0≤a.tmod f∧a / f=a.tdiv f):=by
  rw[Av a f hf];split<;>omega
 have g2:=Int.tmod_lt_of_pos a hf;have g3:=Int.lt_tmod_of_pos a hf;have g4:(a.tdiv f).natAbs≤a.natAbs:=Int.natAbs_tdiv_le_natAbs a f;have g5:a<0→a.tmod f≤0:=fun h=>by
  have:=Int.tmod_nonneg f (show 0≤ -a by omega);rw[Int.neg_tmod]at this;omega
 have g6:0≤a→0≤a.tmod f:=fun h=>Int.tmod_nonneg f h
 have hw:IntKind.i64.wrap (a.tdiv f)=a.tdiv f:=gP (by unfold lI;omega) (by unfold fX;omega);generalize a / f=q at *;refine af (C:=ctx) (Fn.of Gi rfl) rfl ?_;unfold E6;repeat' (first|((with_reducible show aG _);first|exact True.intro|(simp[vb]<;>omega))|((with_reducible show aM _);first|exact True.intro|((try dsimp only[go_sem]);(simp[vb]<;>omega)))|exact(rfl:some _=_)|((fail_if_success refine aT ?_);refine br [(8,{mode:=1}),(11,{mode:=1})] ?_;(repeat1' dsimp only[E6,go_sem]);first|refine aU ?_ ?_ rfl ?_|apply aV|apply aW|(refine aX (fun hc=>?_) fun hc=>?_<;>first|(cases hc;done)|(try simp only[bn]at hc;try contradiction))|skip))
 all_goals
  refine congrArg (fun x=>some (PV.int .i64 x)) ?_;simp only[show decide (f<0)=false from by simp;omega,decide_eq_false_iff_not]at hc;omega
theorem kA (b:List Rg) (c:Int) (h1:0≤c) (h2:c<b.length):((b.flatMap fW).drop (c.toNat*2)).take 2=[.int .i64 (b.getD c.toNat zr).lo,.int .i64 (b.getD c.toNat zr).hi] :=
 bM iq b c.toNat zr (by omega)
theorem DE (b:List Rg) (r:Rw) (c:Int) (hv:eA b [r]=true):aj ctx 149 [.agg [av r.terms,.int .i64 r.bound],ai b,.int .i64 c,.int .i64 1] (.int .i64 (eF b c r.terms)):=by
 obtain⟨v1,v2,v3,v4,v5,v6⟩:=sV hv;obtain⟨ts,bd⟩:=r;simp only at v3 v4 v5 v6 ⊢;clear hv;have f1:=gX ts;have f2:=bN b;refine af (C:=ctx) (Fn.of Gg rfl) rfl ?_;unfold xw;repeat' (first|((with_reducible first|show aG _|show aM _);simp[vb]<;>omega)|exact(rfl:some _=_)|((fail_if_success refine aT ?_);refine aZ ?_;(repeat1' dsimp only[xw,av,ai,go_sem]);first|refine aU ?_ ?_ rfl ?_|apply aV|apply aW|(refine aX (fun hc=>?_) fun hc=>?_<;>first|(cases hc;done)|(exfalso;simp at hc<;>omega)|(try simp only[bn]at hc;try contradiction))|skip))
 refine bg ts.length (fun _=>True) (fun k=>[(1,.pv (ai b)),(2,.pv (.int .i64 c)),(3,.pv (.int .i64 1)),(9,.pv (.int .i64 (eF b c (ts.take k)))),(14,.pv (av ts)),(15,.pv (.int .i64 ts.length)),(16,.pv (.int .i64 k))]) (fun _=>[]) trivial (by (repeat' (first|exact trivial|refine And.intro (by first|rfl|(simp[get,Nat.beq,eF]<;>omega)|(dsimp only[get];congr 1<;>first|rfl|omega|(simp<;>omega))) ?_))) ⟨_,rfl⟩ (fun _=>⟨Nat.zero_le _,rfl,rfl⟩) fun k hk _=>?_
 by_cases hlt:k<ts.length
 ·have e:=bM me ts k zm hlt;have h1:=mn b c (ts.take k) [ts.getD k zm];rw[←aJ ts k zm hlt,eF,eF]at h1;have h2:=nB v1 c (ts.take k) fun t ht=>by have:=v6 t (List.mem_of_mem_take ht);omega
  rw[List.length_take]at h2;obtain⟨q1,q2,q3,q4,q5⟩:=v6 _ (aO (d:=zm) hlt);have h3:=vF (t:=ts.getD k zm) v1 q4 q5;unfold y6 at h1 h3;rw[h1];clear h1 v6;generalize ts.getD k zm=x at *;have e2:=kA b x.cell q1 q2;generalize b.getD x.cell.toNat zr=y at *;generalize eF b c (ts.take k)=sm at *;by_cases hc:x.cell=c
  ·repeat' (first|((with_reducible show aG _);first|exact True.intro|(simp only[vb,lb,e,e2,f1,f2,hlt,q1,q2,j5,hc];and_intros<;>first|omega|(simp<;>omega)))|((with_reducible show aM _);first|exact True.intro|((try dsimp only[go_sem]);(simp[vb,e,e2,f1,f2,hlt,q1,q2,j5,hc]<;>omega)))|exact(rfl:some _=_)|((fail_if_success refine aT ?_);refine br [ξ 19 (.agg [.int .i64 x.cell,.int .i64 x.fac]),ξ 24 (.agg [.int .i64 y.lo,.int .i64 y.hi]),ξ 36 (.bool true)] ?_;(repeat1' dsimp only[xw,av,ai,go_sem]);first|refine aU ?_ ?_ rfl ?_|apply aV|apply aW|(refine aX (fun hc=>?_) fun hc=>?_<;>first|(cases hc;done)|(exfalso;(simp at hc<;>omega))|(try simp only[bn]at hc;try contradiction))|skip))
   refine⟨hlt,trivial,by simp[hc];(repeat' (first|exact trivial|refine And.intro (by first|rfl|(simp[get,Nat.beq]<;>omega)|(dsimp only[get];congr 1<;>first|rfl|omega|(simp<;>omega))) ?_)),_,rfl⟩
  ·by_cases hf:0<x.fac
   ·simp only[hf,if_true]at h3;repeat' (first|((with_reducible show aG _);first|exact True.intro|(simp only[vb,lb,e,e2,f1,f2,hlt,q1,q2,j5,hc,hf];and_intros<;>first|omega|(simp<;>omega)))|((with_reducible show aM _);first|exact True.intro|((try dsimp only[go_sem]);(simp[vb,e,e2,f1,f2,hlt,q1,q2,j5,hc,hf]<;>omega)))|exact(rfl:some _=_)|((fail_if_success refine aT ?_);refine br [ξ 19 (.agg [.int .i64 x.cell,.int .i64 x.fac]),ξ 24 (.agg [.int .i64 y.lo,.int .i64 y.hi]),ξ 36 (.bool false),ξ 42 (.bool true)] ?_;(repeat1' dsimp only[xw,av,ai,go_sem]);first|refine aU ?_ ?_ rfl ?_|apply aV|apply aW|(refine aX (fun hc=>?_) fun hc=>?_<;>first|(cases hc;done)|(exfalso;(simp at hc<;>omega))|(try simp only[bn]at hc;try contradiction))|skip))
    refine⟨hlt,trivial,by simp[hc,hf];(repeat' (first|exact trivial|refine And.intro (by first|rfl|(simp[get,Nat.beq]<;>omega)|(dsimp only[get];congr 1<;>first|rfl|omega|(simp<;>omega))) ?_)),_,rfl⟩
   ·simp only[hf,if_false]at h3;repeat' (first|((with_reducible show aG _);first|exact True.intro|(simp only[vb,lb,e,e2,f1,f2,hlt,q1,q2,j5,hc,hf];and_intros<;>first|omega|(simp<;>omega)))|((with_reducible show aM _);first|exact True.intro|((try dsimp only[go_sem]);(simp[vb,e,e2,f1,f2,hlt,q1,q2,j5,hc,hf]<;>omega)))|exact(rfl:some _=_)|((fail_if_success refine aT ?_);refine br [ξ 19 (.agg [.int .i64 x.cell,.int .i64 x.fac]),ξ 24 (.agg [.int .i64 y.lo,.int .i64 y.hi]),ξ 36 (.bool false),ξ 42 (.bool false)] ?_;(repeat1' dsimp only[xw,av,ai,go_sem]);first|refine aU ?_ ?_ rfl ?_|apply aV|apply aW|(refine aX (fun hc=>?_) fun hc=>?_<;>first|(cases hc;done)|(exfalso;(simp at hc<;>omega))|(try simp only[bn]at hc;try contradiction))|skip))
    refine⟨hlt,trivial,by simp[hc,hf];(repeat' (first|exact trivial|refine And.intro (by first|rfl|(simp[get,Nat.beq]<;>omega)|(dsimp only[get];congr 1<;>first|rfl|omega|(simp<;>omega))) ?_)),_,rfl⟩
 ·obtain rfl:k=ts.length:=by omega
  rw[List.take_length];repeat' (first|((with_reducible first|show aG _|show aM _);simp[vb,hlt]<;>omega)|exact(rfl:some _=_)|((fail_if_success refine aT ?_);refine aZ ?_;(repeat1' dsimp only[xw,av,ai,go_sem]);first|refine aU ?_ ?_ rfl ?_|apply aV|apply aW|(refine aX (fun hc=>?_) fun hc=>?_<;>first|(cases hc;done)|(exfalso;simp[hlt]at hc<;>omega)|(try simp only[bn]at hc;try contradiction))|skip))
end Pur
end
section
namespace Rf
def iy (s:List UInt8):Tree×Int :=
 if s.length>65536 then (zt,8) else match kx ((mF 10 s).length+1) 1 (mF 10 s) with
  |some (t,_)=>if Pur.jn t=(s,0) then (t,0) else (zt,3)
  |none=>(zt,3)
theorem xF {tf:List Ln→Option (Tree×List Ln)} (h:∀ls t r,tf ls=some (t,r)→wt t+r.length≤ls.length):∀(n:Nat) (ls:List Ln) (ts:List Tree) (r:List Ln),ir tf n ls=some (ts,r)→fg ts+r.length≤ls.length
 |0,ls,ts,r,e=>by injection e with e;injection e with e1 e;subst e e1;simp[fg]
 |n+1,ls,ts,r,e=>by
  rw[ir]at e;split at e
  ·rename_i t r1 h1;split at e
   ·rename_i ts' r2 h2;injection e with e
    injection e with e1 e
    subst e e1;have:=xF h n r1 ts' r2 h2;have:=h _ _ _ h1;rw[fg];omega
   ·cases e
  ·cases e
theorem sW:∀(f:Nat) (lev:Int) (S:List aS) (ls:List Ln) (t:Tree) (r:List Ln),fG f lev S ls=some (t,r)→wt t+r.length≤S.length+ls.length
 |0,_,_,_,_,_,e=>by cases e
 |f+1,lev,S,ls,t,r,e=>by
  have ih:∀(S:List aS) (ls:List Ln) (t:Tree) (r:List Ln),fG f lev S ls=some (t,r)→wt t+r.length≤S.length+ls.length:=fun S ls t r=>sW f lev S ls t r
  have ihk:∀(ls:List Ln) (t:Tree) (r:List Ln),(if lev+1≤4096 then fG f (lev+1) [] ls else none)=some (t,r)→wt t+r.length≤ls.length:=fun ls t r h=>by
   split at h
   ·simpa using sW f (lev+1) [] ls t r h
   ·cases h
  have one:∀(n:Nat) (x:Ln) (l:List Ln) (k c a:Int),(match ir (fun l=>if lev+1≤4096 then fG f (lev+1) [] l else none) n l with|some (ks,r')=>some (Tree.node k S c a ks,r')|none=>none)=some (t,r)→wt t+r.length≤S.length+(x::l).length:=fun n x l k c a h=>by
   split at h
   ·rename_i ks r' hk;injection h with h
    injection h with h1 h
    subst h h1;have:=xF ihk _ _ _ _ hk;rw[bE,List.length_cons];omega
   ·cases h
  cases ls with
  |nil=>cases e
  |cons x l =>
   rw[fG]at e;split at e
   ·cases e
   ·rename_i w ns hl;split at e
    ·have:=ih _ _ _ _ e;simp at this ⊢;omega
    ·split at e
     ·have:=ih _ _ _ _ e;simp at this ⊢;omega
     ·split at e
      ·injection e with e
       injection e with e1 e
       subst e e1;rw[bE];simp[fg];omega
      ·split at e
       ·exact one _ _ _ _ _ _ e
       ·split at e
        ·exact one _ _ _ _ _ _ e
        ·cases e
end Rf
namespace Pur
open Go.RowKit
open Rf
noncomputable def Hy (path:List Nat):Code:=vA (ze Tryz.prog 28) path
def Hd:ay:=(⟨_,by conv=>(lhs;reduce;try simp only[cJ,Int.cast_ofNat_Int,Int.reduceNegSucc,UInt8.reduceOfNat])⟩:{x // comp Tryz.prog no 35 (Hy [0])=some x}).1
def He:ay:=(⟨_,by conv=>(lhs;reduce;try simp only[cJ,Int.cast_ofNat_Int,Int.reduceNegSucc,UInt8.reduceOfNat])⟩:{x // comp Tryz.prog no 35 (Hy [1,0])=some x}).1
def Hf:ay:=(⟨_,by conv=>(lhs;reduce;try simp only[cJ,Int.cast_ofNat_Int,Int.reduceNegSucc,UInt8.reduceOfNat])⟩:{x // comp Tryz.prog no 35 (Hy [1,1,1])=some x}).1
theorem Fm:comp Tryz.prog no 35 (Hy [0])=some Hd:=by kernel_rfl
theorem Fp:comp Tryz.prog no 35 (Hy [1,0])=some He:=by kernel_rfl
theorem Fq:comp Tryz.prog no 35 (Hy [1,1,1])=some Hf:=by kernel_rfl
theorem aj.ED {C:Ctx} {g:FuncId} {ps:List PV} {r:PV} (h:aj C g ps r) (D:List Deferred):aj {C with D:=D} g ps r:=h
theorem eQ.ED {C:Ctx} {g:FuncId} {al:List AV} {μ:AM} {c:List PanicEntry} {Q:AM→Prop} (h:eQ C g al μ c Q) (D:List Deferred):eQ {C with D:=D} g al μ c Q :=
 ⟨h.1,fun w0 S γ w vs hW hp=>(h.2 w0 S γ w vs ⟨hW.mem,hW.below,hW.live,hW.env⟩ hp).mono fun e w' ⟨S',γ',μ',h1,h2,h3,h4⟩=>⟨S',γ',μ',h1,h2,⟨h3.mem,h3.below,h3.live,h3.env⟩,h4⟩⟩
def jT:AF:=[(2,.ptr 0 0 0),(3,.ptr 1 0 0)]
def Ia (s:List UInt8):Exit→AF→AM→Prop:=fun e f μ=>match e with
 | .ret=>Sub jT f∧(iy s).2=0∧∃junk,μ=[ae (iy s).1,fV 0]++junk
 | .panic c=>c=cw∧iy s=(zt,3)∧Sub jT f∧∃a b c d e n junk,μ=[Hx a b c d e,fV n]++junk
 |_=>False
theorem Fs (D:List Deferred) (s:List UInt8) (hs:s.length≤65536):Aw {ctx with D:=D} no 35 2 Hf (Ia s) [(0,.pv (.str s)),(2,.ptr 0 0 0),(3,.ptr 1 0 0)] [aE,fV 0]:=by
 have hsp:=aj.ED (w9 10 s (by omega)) D;obtain⟨hb1,hb2⟩:=lB 10 s;have hct:=EV ((mF 10 s).length+1) 1 (mF 10 s) [] (by omega) (by omega) (by omega) (by omega) fun x hx=>by have:=hb2 x hx;omega
 have hwt:=fun t r h=>sW ((mF 10 s).length+1) 1 [] (mF 10 s) t r h
 have hP:iy s=match kx ((mF 10 s).length+1) 1 (mF 10 s) with
  |some (t,_)=>if jn t=(s,0) then (t,0) else (zt,3)
  |none=>(zt,3):=by unfold iy;rw[if_neg (by omega)]
 unfold Hf;refine fu [(55,fun _=>some (fU (mF 10 s)))] ?_;dsimp only[aE,fV,fU,go_sem];try dsimp only[aE,fV,fU,go_sem]
 refine⟨(by simp[vb]<;>omega),?_,?_⟩
 ·exact⟨hsp,trivial⟩
 generalize hls:mF 10 s=ls at *;cases ht:kx (ls.length+1) 1 ls with
 |none =>
  rw[ht]at hct hP;simp only at hP;have hp:=(eQ.frame hct [2] [aE,fV 0,aF ls] (by simp) (by simp) ⟨rfl,trivial⟩ rfl (by simp[ck,Nat.blt]) (by rintro _ ⟨r,rfl⟩;simp)).ED D;refine bJ ?_;refine fT 3 true [] ?_;simp only[iF,List.take_succ_cons,List.take_zero,List.getElem?_cons_succ,List.getElem?_cons_zero,go_sem,jz];refine⟨by simp[aG],by simp[aG,aM],cw,_,hp,?_⟩;rintro μ1 ⟨_,⟨r,rfl⟩,rfl⟩
  exact⟨rfl,hP,by (repeat' (first|exact trivial|refine And.intro (by first|rfl|(simp[get,Nat.beq,jT]<;>omega)|(dsimp only[get];congr 1<;>first|rfl|omega|(simp<;>omega))) ?_)),_,_,_,_,_,_,[aF r],rfl⟩
 |some p =>
  obtain⟨t,r⟩:=p;rw[ht]at hct hP;simp only at hP;have hw:wt t≤1000000000:=by
   have:fG (ls.length+1) 1 [] ls=some (t,r):=by
    rw[kx,if_pos (by omega)]at ht;exact ht
   have:=hwt t r this;simp at this;omega
  have hp:=(aN.frame hct [2] [aE,fV 0,aF ls] (by simp) (by simp) ⟨rfl,trivial⟩ rfl (by simp[ck,Nat.blt]) (by simp)).ED D;have hfo:=(uB t hw).ED D;generalize hF:jn t=F at *;obtain⟨F,n⟩:=F;simp only at hfo;refine br [(19,{val:=some (.pv (aA t)),mem:=some [aE,fV 0,aF r]})] ?_;dsimp only[aE,fV,aA,go_sem];try dsimp only[aE,fV,aA,go_sem]
  refine⟨(by simp[vb]<;>omega),?_,?_⟩
  ·exact⟨hp,trivial⟩
  refine fu [(26,fun _=>some (.tup [.str F,.int .i64 n]))] ?_;dsimp only[aE,fV,aA,go_sem];try dsimp only[aE,fV,aA,go_sem]
  refine⟨(by simp[vb]<;>omega),?_,?_⟩
  ·exact⟨hfo,trivial⟩
  refine aZ ?_;dsimp only[go_sem];try dsimp only[go_sem]
  refine⟨(by simp[vb]<;>omega),(by simp[vb]<;>omega),?_⟩;refine aZ ?_;dsimp only[go_sem];refine⟨fun hc=>?_,fun hc=>?_⟩
  ·have hne:¬((F,n)=(s,(0:Int))):=by
    rintro h;injection h with h1 h2
    subst h1 h2;simp at hc
   rw[if_neg hne]at hP;refine fT 2 true [] ?_;simp only[iF,List.take_succ_cons,List.take_zero,List.getElem?_cons_succ,List.getElem?_cons_zero,go_sem,jz];exact⟨trivial,trivial,rfl,hP,by (repeat' (first|exact trivial|refine And.intro (by first|rfl|(simp[get,Nat.beq,jT]<;>omega)|(dsimp only[get];congr 1<;>first|rfl|omega|(simp<;>omega))) ?_)),_,_,_,_,_,_,[aF r],rfl⟩
  ·have hq:(F,n)=(s,(0:Int)):=by
    by_cases hn:n=0
    ·subst hn;simp at hc;rw[hc]
    ·simp[hn]at hc
   rw[if_pos hq]at hP;refine aZ ?_;dsimp only[go_sem];refine aZ ?_;dsimp only[go_sem];try dsimp only[go_sem]
   refine⟨(by simp[vb]<;>omega),(by simp[vb]<;>omega),?_⟩;refine aZ ?_;dsimp only[go_sem];refine⟨by (repeat' (first|exact trivial|refine And.intro (by first|rfl|(simp[get,Nat.beq,jT]<;>omega)|(dsimp only[get];congr 1<;>first|rfl|omega|(simp<;>omega))) ?_)),by rw[hP],[aF r],?_⟩;rw[hP];rfl
theorem Ft (s:List UInt8):Aw ctx no 35 0 Hd (fun e f μ=>e= .normal∧Sub ((0,.pv (.str s))::jT) f∧μ=[aE,fV 0]) [(0,.pv (.str s))] []:=by
 unfold Hd;refine aZ ?_;dsimp only[go_sem];try dsimp only[go_sem]
 refine⟨(by simp[vb]<;>omega),(by simp[vb]<;>omega),?_⟩;exact⟨rfl,by (repeat' (first|exact trivial|refine And.intro (by first|rfl|(simp[get,Nat.beq,jT]<;>omega)|(dsimp only[get];congr 1<;>first|rfl|omega|(simp<;>omega))) ?_)),rfl⟩
theorem Hg (s:List UInt8) (hs:s.length≤4000000000):Aw ctx no 35 2 He (fun e f μ=>(e= .normal∧s.length≤65536∧Sub ((0,.pv (.str s))::jT) f∧μ=[aE,fV 0])∨(e= .ret∧65536<s.length∧Sub jT f∧μ=[aE,fV 8])) ((0,.pv (.str s))::jT) [aE,fV 0]:=by
 unfold He jT;refine aZ ?_;dsimp only[aE,fV,go_sem];try dsimp only[aE,fV,go_sem]
 refine⟨(by simp[vb]<;>omega),(by simp[vb]<;>omega),?_⟩;refine aZ ?_;dsimp only[aE,fV,go_sem];refine⟨fun hc=>?_,fun hc=>?_⟩
 ·simp at hc;refine aZ ?_;dsimp only[aE,fV,go_sem];try dsimp only[aE,fV,go_sem]
  refine⟨(by simp[vb]<;>omega),(by simp[vb]<;>omega),?_⟩;refine aZ ?_;dsimp only[aE,fV,go_sem];exact .inr ⟨rfl,by omega,by (repeat' (first|exact trivial|refine And.intro (by first|rfl|(simp[get,Nat.beq,jT]<;>omega)|(dsimp only[get];congr 1<;>first|rfl|omega|(simp<;>omega))) ?_)),rfl⟩
 ·simp at hc;refine aZ ?_;dsimp only[aE,fV,go_sem];exact .inl ⟨rfl,by omega,by (repeat' (first|exact trivial|refine And.intro (by first|rfl|(simp[get,Nat.beq,jT]<;>omega)|(dsimp only[get];congr 1<;>first|rfl|omega|(simp<;>omega))) ?_)),rfl⟩
theorem fZ.lower {m:Nat} {w w':World} {S S':Nat→Prop} {γ γ':Gh} (h:fZ m w S γ w' S' γ'):fZ 0 w S γ w' S' γ':=⟨h.stay,fun b e hb=>absurd hb (by omega),h.more,h.cbs,h.size,h.frame⟩
theorem fZ.low {w w':World} {S S':Nat→Prop} {γ γ' γ'':Gh} (h:fZ 0 w S γ w' S' γ') (hs:∀b e,γ'' b=some e→γ' b=some e):fZ 0 w S γ w' S' γ'':=⟨h.stay,fun b e hb=>absurd hb (by omega),h.more,fun b e hb=>h.cbs b e (hs b e hb),h.size,h.frame⟩
theorem uC (tl:AM):MW (aE::tl) (ae zt::tl) :=
 PW.cons ⟨PW.cons (CW.refl _) (PW.cons CW.nil (PW.cons (CW.refl _) (PW.cons (CW.refl _) (PW.cons CW.nil PW.nil)))),rfl,rfl,rfl,rfl⟩ (MW.refl tl)
theorem qm {w w':World} {S S':Nat→Prop} {γ':Gh} {a':Act} {μ:AM} {f:AF} (t:Tree) (n:Int) (hE:fZ 0 w S (fun _=>none) w' S' γ') (hW:Wd ctx w S' γ' μ w') (hF:FR [] 35 w' S' γ' f a') (hs:Sub jT f) (hm:∃junk,μ=[ae t,fV n]++junk) :
  ∃u,(results Tryz.f28 a'.tmps).run Tryz.prog w'= .ok u w'∧∃v,Ending.returned u= .returned v∧Below w.heap.size w w'∧Is w' (fun g=>S g∨(w.heap.size≤g∧g<w'.heap.size)) (.tup [aA t,.int .i64 n]) v:=by
 obtain⟨h2,h3,-⟩:=hs;obtain⟨junk,rfl⟩:=hm;have he:l5 (.pv (.tup [aA t,.int .i64 n])) (bw f ([ae t,fV n]++junk) [.cell 2 5 true,.cell 3 1 false]):=by
  simp only[l5,bw,go_sem,h2,h3,ae,fV,List.cons_append,List.nil_append];exact⟨by simp[aG],rfl⟩
 unfold l5 at he;split at he
 ·rename_i vc v e1;obtain⟨e2,rfl⟩:=he;obtain⟨u,hu,hv⟩:=ko (fn:=Tryz.f28) hW (hF:FR ctx.D 35 w' S' γ' f a') (by kernel_rfl) e1 e2;refine⟨u,hu,u,rfl,hW.below,(u0 hW depth (p:=.tup [aA t,.int .i64 n]) rfl hv).stay ⟨fun g hg=>?_,fun _ _=>rfl⟩⟩;rcases hg with hg|⟨b,e,he,rfl⟩
  ·rcases hE.more g hg with h|⟨b,e,h,-⟩|h
   ·exact .inl h
   ·cases h
   ·exact .inr ⟨h,hW.live g hg⟩
  ·rcases hE.cbs b e he with⟨b0,e0,h,-⟩|h
   ·cases h
   ·exact .inr ⟨h,hW.jw he⟩
 ·exact he.elim
theorem xG (s:List UInt8) (hs:s.length≤4000000000):aj ctx 28 [.str s] (.tup [aA (iy s).1,.int .i64 (iy s).2]):=by
 refine⟨by kernel_rfl,fun w S us hE hS hp=>?_⟩;have hW:Wd ctx w S (fun _=>none) [] w:=⟨⟨fun b k hk=>by simp at hk,fun b k hk=>by simp at hk,fun _ _=>rfl,fun b b' e e' h=>by cases h⟩,Below.refl _ _,hS,hE⟩
 have hpv:PW (VR w S (fun _=>none)) ([PV.str s].map .pv) us:=PW.jI hp;have hus:us.length≤35:=by rw[←hp.len];simp
 refine calls_of_wp_defers Tryz.func28 rfl (wp_seq ?_);refine wp_mono (Ft s _ Fm w S (fun _=>none) w _ hW (lq (fn:=Tryz.f28) hpv hus)) fun e1 a1 w1 hh=>?_
 obtain⟨S1,γ1,f1,μ1,x1,x2,x3,rfl,hs1,rfl⟩:=hh;refine wp_seq ?_;refine wp_mono (bz _ hs1 (Hg s hs) _ Fp w S1 γ1 w1 a1 x2 x3) fun e2 a2 w2 hh=>?_
 obtain⟨S2,γ2,f2,μ2,y1,y2,y3,hy⟩:=hh;rcases hy with⟨rfl,hlen,hs2,rfl⟩|⟨rfl,hlen,hs2,rfl⟩
 ·show Code.wp Tryz.prog _ _ _ _;have hmf:∀(fn:Go.Fn) (first cap:Array Value) (w:World),(Instr.makeFunc fn first cap).run Tryz.prog w= .ok (.func fn first cap) w:=fun _ _ _ _=>rfl
  obtain⟨tm,df⟩:=a2;have hsz:tm.size=35:=y3.size;obtain rfl:df=[]:=y3.defers;iterate 9 (go_step<;>try go_simp)
  obtain⟨h0,h2,h3,-⟩:=hs2;have v0:=y3.val 0;have v2:=y3.val 2;have v3:=y3.val 3;rw[h0]at v0;rw[h2]at v2;rw[h3]at v3;have hE12:=x1.trans y1.lower;have hc54:ep ctx.P 54=true:=by kernel_rfl
  generalize hD:([{target:=Target.fn (Go.Fn.func 54) #[tm[2],tm[3]],args:=#[]}]:List Deferred)=D;refine wp_mono (Fs D s hlen _ Fq w S2 γ2 w2 _ ⟨y2.mem,y2.below,y2.live,y2.env⟩ ⟨by simp[hsz],rfl,fun t=>?_⟩) fun e3 a3 w3 hh=>?_
  ·match t with
   |0=>simpa [Act.eval,get,Nat.beq]using v0
   |1=>exact .any _
   |2=>simpa [Act.eval,get,Nat.beq]using v2
   |3=>simpa [Act.eval,get,Nat.beq]using v3
   |t+4=>exact .any _
  obtain⟨S3,γ3,f3,μ3,z1,z2,z3,z4⟩:=hh;have w2':VR w2 S2 γ2 (.ptr 0 0 0) tm[2]:=by simpa [Act.eval,hsz]using v2
  have w3':VR w2 S2 γ2 (.ptr 1 0 0) tm[3]:=by simpa [Act.eval,hsz]using v3
  have hE3:Ext w2 S2 γ2 w3 S3 γ3:=⟨z1.stay,fun b e hb=>z1.gh b e (Nat.lt_of_not_le fun h=>by rw[y2.mem.none b (by simpa using h)]at hb;cases hb) hb,z1.more,z1.cbs,z1.size,z1.frame⟩
  cases e3 with
  |ret =>
   obtain⟨k1,k2,k3⟩:=z4;show Leaves _ _ _ _ a3.defers _ _;rw[show a3.defers=D from z3.defers,←hD];refine leaves_cons (f:=54) (args:=#[tm[2],tm[3]]) (by simp) (by simp[go_sem];exact hZ hc54 _) ?_;refine(zd _ _ w3).mono ?_;rintro e u' w'' ⟨rfl,rfl,rfl⟩;have:=qm (a':={a3 with defers:=[]}) (iy s).1 0 (hE12.trans z1.lower) ⟨z2.mem,z2.below,z2.live,z2.env⟩ ⟨z3.size,rfl,z3.val⟩ k1 k3;rw[k2];exact this
  |panic c =>
   obtain⟨rfl,k1,k2,a,b,c,d,e,n,junk,rfl⟩:=z4;show Leaves _ _ _ _ a3.defers _ _;rw[show a3.defers=D from z3.defers,←hD];refine leaves_cons (f:=54) (args:=#[tm[2],tm[3]]) (by simp[cw]) (by simp[go_sem];exact hZ hc54 _) ?_;have hγ:∀b,b<2→b7 γ3 2 b=γ3 b:=fun b h=>by simp[b7,h]
   have hW3:Wd ctx w S3 γ3 ([Hx a b c d e,fV n]++junk) w3:=⟨z2.mem,z2.below,z2.live,z2.env⟩
   refine(xx _ _ a b c d e n (hW3.drop (by rfl)) (lZ hγ 3 rfl (w2'.ext hE3)) (lZ hγ 3 rfl (w3'.ext hE3))).mono ?_;rintro e u' w4 ⟨rfl,rfl,S4,γ4,junk4,j1,j2⟩;have:=qm (a':={a3 with defers:=[]}) (f:=jT) zt 3 (((hE12.trans z1.lower).low fun b e h=>?_).trans (j1.toM 0)) (j2.AY (uC _)) ⟨z3.size,rfl,fun t=>?_⟩ (by (repeat' (first|exact trivial|refine And.intro (by first|rfl|(simp[get,Nat.beq,jT]<;>omega)|(dsimp only[get];congr 1<;>first|rfl|omega|(simp<;>omega))) ?_))) ⟨_,rfl⟩
   ·rw[k1];exact this
   ·unfold b7 at h;split at h
    ·exact h
    ·cases h
   ·obtain⟨q2,q3,-⟩:=k2;have u2:=z3.val 2;have u3:=z3.val 3;rw[q2]at u2;rw[q3]at u3;match t with
    |0=>exact .any _
    |1=>exact .any _
    |2=>exact(lZ hγ 3 rfl u2).ext j1
    |3=>exact(lZ hγ 3 rfl u3).ext j1
    |t+4=>exact .any _
  |_=>exact z4.elim
 ·show Leaves _ _ _ _ _ _ _;rw[show a2.defers=[] from y3.defers];obtain⟨u,hu,hR⟩:=qm (w:=w) (S:=S) (a':={a2 with defers:=[]}) zt 8 (x1.trans (fZ.lower y1)) (y2.AY (uC _)) ⟨y3.size,rfl,y3.val⟩ hs2 ⟨[],rfl⟩;refine⟨u,hu,?_⟩;have e:iy s=(zt,8):=by unfold iy;rw[if_pos (by omega)]
  rw[e];exact hR
end Pur
end
section
namespace Pur
open Go.RowKit
section
open Rf
theorem BQ (x:Tm) (c:Int):aN ctx 148 [.pv (.agg [.int .i64 x.cell,.int .i64 x.fac]),.ptr 0 0 0] [⟨[.pv (.int .i64 c)],0,1,3,false⟩] (.pv (.bool (decide (x.cell=c)))) [⟨[.pv (.int .i64 c)],0,1,3,false⟩]:=by
 refine bo (C:=ctx) (Fn.of Gf rfl) rfl (by simp) rfl rfl ?_;unfold c148;repeat' (first|((with_reducible first|show aG _|show aM _);simp[vb]<;>omega)|exact(rfl:some _=_)|((fail_if_success refine aT ?_);refine aZ ?_;(repeat1' dsimp only[c148,go_sem]);first|refine aU ?_ ?_ rfl ?_|apply aV|apply aW|(refine aX (fun hc=>?_) fun hc=>?_<;>first|(cases hc;done)|(exfalso;simp at hc<;>omega)|(try simp only[bn]at hc;try contradiction))|skip))
 exact⟨⟨trivial,rfl⟩,_,rfl⟩
theorem DF (ts:List Tm) (k:Nat) (hk:k<ts.length):(ts.flatMap j5)[k*2+1]?.getD default= .int .i64 (ts.getD k zm).fac:=by
 rw[cX me ts k zm 1 hk (by omega)];rfl
theorem xH (b:List Rg) (r:Rw) (c:Int) (hv:eA b [r]=true) (hc0:0≤c) (hc1:c<b.length):aj ctx 129 [.agg [av r.terms,.int .i64 r.bound],ai b,.int .i64 c] (.agg [.int .i64 (fF r b c).lo,.int .i64 (fF r b c).hi]):=by
 obtain⟨v1,v2,v3,v4,v5,v6⟩:=sV hv;have hbd:=DE b r c hv;have hsm:=nB v1 c r.terms fun t ht=>by have:=v6 t ht;omega
 have e:=kA b c hc0 hc1;have hx:=kV (gC v1 c.toNat);have f1:=gX r.terms;have f2:=bN b;have hidx:=ql c r.terms;have hI:=fun (μ:AM) (hμ:aP μ μ.length=true) (h1:1<μ.length) (hj:μ[1]?=some ⟨[.pv (.int .i64 c)],0,1,3,false⟩)=>BK 148 μ hμ 1 h1 r.terms (by omega) (fun t=>decide (t.cell=c)) fun x _=>(BQ x c).JQ (ps:=[.int .i64 c]) rfl hj
 unfold fF;obtain⟨ts,bd⟩:=r;simp only at *;generalize b.getD c.toNat zr=x at *;generalize eF b c ts=sm at *;clear hv;rcases hidx with⟨h1,h2⟩|⟨k,h1,h2,h3⟩
 ·rw[oI c ts h2];simp only[if_true];generalize jL (fun t=>decide (t.cell=c)) ts=q at *;have hI:=hI [⟨[.pv (av ts),.pv (.int .i64 bd)],0,2,62,false⟩,⟨[.pv (.int .i64 c)],0,1,3,false⟩,⟨[.pv (.int .i64 0),.pv (.int .i64 0)],0,2,57,false⟩,⟨[.pv (.int .i64 x.lo),.pv (.int .i64 x.hi)],0,2,57,false⟩] rfl (by simp) rfl;refine af (C:=ctx) (Fn.of Al rfl) rfl ?_;unfold xu;repeat' (first|((with_reducible show aG _);first|exact True.intro|(simp only[vb,lb,e,f1,f2,hc0,hc1,hI,h1];and_intros<;>first|omega|(simp<;>omega)))|((with_reducible show aM _);first|exact True.intro|((try dsimp only[go_sem]);first|(simp[vb,e,f1,f2,hc0,hc1,hI,h1]<;>omega)|(simp only[vb,and_true,true_implies];(repeat' (first|(with_reducible assumption)|(with_reducible apply And.intro)|intro _|((fail_if_success (with_reducible show(_:Int)≤_));assumption))))))|exact(rfl:some _=_)|((fail_if_success refine aT ?_);refine br [ξ 14 (.agg [.int .i64 x.lo,.int .i64 x.hi]),(18,{val:=some (.pv (.int .i64 q)),ro:=true})] ?_;(repeat1' dsimp only[xu,av,ai,go_sem]);first|refine aU ?_ ?_ rfl ?_|apply aV|apply aW|(refine aX (fun hc=>?_) fun hc=>?_<;>first|(cases hc;done)|(exfalso;(simp at hc<;>omega))|(try simp only[bn]at hc;try contradiction))|skip))
 ·have g:=v6 _ (aO (d:=zm) h2);have hg:=DF ts k h2;rw[h3];rw[h1]at hI;clear h1 h3;generalize ts.getD k zm=y at *;simp only[g.2.2.1,if_false];have hI:=hI [⟨[.pv (av ts),.pv (.int .i64 bd)],0,2,62,false⟩,⟨[.pv (.int .i64 c)],0,1,3,false⟩,⟨[.pv (.int .i64 0),.pv (.int .i64 0)],0,2,57,false⟩,⟨[.pv (.int .i64 x.lo),.pv (.int .i64 x.hi)],0,2,57,false⟩] rfl (by simp) rfl;by_cases hf:0<y.fac
  ·have hfl:=xE (bd-sm) y.fac hf (by omega) (by omega) (by omega);simp only[hf,if_true];generalize (bd-sm) / y.fac=q at *;have hem:=sT ⟨x.lo,if q<x.hi then q else x.hi⟩;simp only[dX]at hem;refine af (C:=ctx) (Fn.of Al rfl) rfl ?_;unfold xu;unfold av at hI hbd;unfold ai at hbd;refine bX [(149,fun _=>some (.int .i64 sm)),(150,fun _=>some (.int .i64 q))] [ξ 14 (.agg [.int .i64 x.lo,.int .i64 x.hi]),(18,{val:=some (.pv (.int .i64 k)),ro:=true}),ξ 27 (.int .i64 y.fac)] ?_;dsimp only[av,ai,go_sem]
   try dsimp only[av,ai,go_sem]
   refine⟨(by simp[vb,e,f1,f2,hc0,hc1,hI,hg,h2,hbd,hfl,hf]<;>omega),(by simp[vb,e,f1,f2,hc0,hc1,hI,hg,h2,hbd,hfl,hf]<;>omega),?_⟩;refine bX [(149,fun _=>some (.int .i64 sm)),(150,fun _=>some (.int .i64 q))] [ξ 14 (.agg [.int .i64 x.lo,.int .i64 x.hi]),(18,{val:=some (.pv (.int .i64 k)),ro:=true}),ξ 27 (.int .i64 y.fac)] ?_;dsimp only[av,ai,go_sem];try dsimp only[av,ai,go_sem]
   refine⟨(by first|exact True.intro|(simp only[vb,lb];omega)|(simp only[vb,lb,e,f1,f2,hc0,hc1,hI,hg,h2,hbd,hfl,hf];and_intros<;>first|omega|(simp<;>omega))|(simp[vb,e,f1,f2,hc0,hc1,hI,hg,h2,hbd,hfl,hf]<;>omega)),(by first|exact True.intro|((try dsimp only[go_sem]);first|(simp[vb,e,f1,f2,hc0,hc1,hI,hg,h2,hbd,hfl,hf]<;>omega)|(simp only[vb,and_true,true_implies];(repeat' (first|(with_reducible assumption)|(with_reducible apply And.intro)|intro _|((fail_if_success (with_reducible show(_:Int)≤_));assumption)))<;>first|omega|rfl|(simp only[ab,e,f1,f2,hc0,hc1,hI,hg,h2,hbd,hfl,hf];done)|(simp[Nat.mul_one,e,f1,f2,hc0,hc1,hI,hg,h2,hbd,hfl,hf]<;>omega)|(simp_all;done)))),?_⟩
   refine bX [(149,fun _=>some (.int .i64 sm)),(150,fun _=>some (.int .i64 q))] [ξ 14 (.agg [.int .i64 x.lo,.int .i64 x.hi]),(18,{val:=some (.pv (.int .i64 k)),ro:=true}),ξ 27 (.int .i64 y.fac)] ?_;dsimp only[av,ai,go_sem];try dsimp only[av,ai,go_sem]
   refine⟨(by first|exact True.intro|(simp only[vb,lb];omega)|(simp only[vb,lb,e,f1,f2,hc0,hc1,hI,hg,h2,hbd,hfl,hf];and_intros<;>first|omega|(simp<;>omega))|(simp[vb,e,f1,f2,hc0,hc1,hI,hg,h2,hbd,hfl,hf]<;>omega)),(by first|exact True.intro|((try dsimp only[go_sem]);first|(simp[vb,e,f1,f2,hc0,hc1,hI,hg,h2,hbd,hfl,hf]<;>omega)|(simp only[vb,and_true,true_implies];(repeat' (first|(with_reducible assumption)|(with_reducible apply And.intro)|intro _|((fail_if_success (with_reducible show(_:Int)≤_));assumption)))<;>first|omega|rfl|(simp only[ab,e,f1,f2,hc0,hc1,hI,hg,h2,hbd,hfl,hf];done)|(simp[Nat.mul_one,e,f1,f2,hc0,hc1,hI,hg,h2,hbd,hfl,hf]<;>omega)|(simp_all;done)))),?_⟩
   iterate 5 first
    |refine⟨fun h=>by simp at h<;>omega,fun _=>?_⟩
    |refine⟨by simp[vb,e,f1,f2,hc0,hc1,hI,hg,h2,hbd,hfl,hf]<;>omega,by simp[vb,e,f1,f2,hc0,hc1,hI,hg,h2,hbd,hfl,hf]<;>omega,?_⟩
    |(refine bX [(149,fun _=>some (.int .i64 sm)),(150,fun _=>some (.int .i64 q))] [ξ 14 (.agg [.int .i64 x.lo,.int .i64 x.hi]),(18,{val:=some (.pv (.int .i64 k)),ro:=true}),ξ 27 (.int .i64 y.fac)] ?_;iterate 2 (try dsimp only[av,ai,go_sem]))
   refine bX [(149,fun _=>some (.int .i64 sm)),(150,fun _=>some (.int .i64 q))] [ξ 14 (.agg [.int .i64 x.lo,.int .i64 x.hi]),(18,{val:=some (.pv (.int .i64 k)),ro:=true}),ξ 27 (.int .i64 y.fac)] ?_;dsimp only[av,ai,go_sem];try dsimp only[av,ai,go_sem]
   refine⟨(by first|exact True.intro|(simp only[vb,lb];omega)|(simp only[vb,lb,e,f1,f2,hc0,hc1,hI,hg,h2,hbd,hfl,hf];and_intros<;>first|omega|(simp<;>omega))|(simp[vb,e,f1,f2,hc0,hc1,hI,hg,h2,hbd,hfl,hf]<;>omega)),(by first|exact True.intro|((try dsimp only[go_sem]);first|(simp[vb,e,f1,f2,hc0,hc1,hI,hg,h2,hbd,hfl,hf]<;>omega)|(simp only[vb,and_true,true_implies];(repeat' (first|(with_reducible assumption)|(with_reducible apply And.intro)|intro _|((fail_if_success (with_reducible show(_:Int)≤_));assumption)))<;>first|omega|rfl|(simp only[ab,e,f1,f2,hc0,hc1,hI,hg,h2,hbd,hfl,hf];done)|(simp[Nat.mul_one,e,f1,f2,hc0,hc1,hI,hg,h2,hbd,hfl,hf]<;>omega)|(simp_all;done)))),?_⟩
   refine bX [(149,fun _=>some (.int .i64 sm)),(150,fun _=>some (.int .i64 q))] [ξ 14 (.agg [.int .i64 x.lo,.int .i64 x.hi]),(18,{val:=some (.pv (.int .i64 k)),ro:=true}),ξ 27 (.int .i64 y.fac)] ?_;dsimp only[av,ai,go_sem];try dsimp only[av,ai,go_sem]
   refine⟨(by simp[vb,e,f1,f2,hc0,hc1,hI,hg,h2,hbd,hfl,hf]<;>omega),(by simp[vb,e,f1,f2,hc0,hc1,hI,hg,h2,hbd,hfl,hf]<;>omega),?_⟩;refine bX [(149,fun _=>some (.int .i64 sm)),(150,fun _=>some (.int .i64 q))] [ξ 14 (.agg [.int .i64 x.lo,.int .i64 x.hi]),(18,{val:=some (.pv (.int .i64 k)),ro:=true}),ξ 27 (.int .i64 y.fac)] ?_;dsimp only[av,ai,go_sem];refine⟨fun _=>?_,fun h=>by simp at h<;>omega⟩
   refine kN (T:=[(149,fun _=>some (.int .i64 sm)),(150,fun _=>some (.int .i64 q))]) (H:=[ξ 14 (.agg [.int .i64 x.lo,.int .i64 x.hi]),(18,{val:=some (.pv (.int .i64 k)),ro:=true}),ξ 27 (.int .i64 y.fac)]) (by rfl) ?_;dsimp only[c6,av,ai,go_sem];try dsimp only[av,ai,go_sem]
   refine⟨(by simp[vb,e,f1,f2,hc0,hc1,hI,hg,h2,hbd,hfl,hf]<;>omega),(by simp[vb,e,f1,f2,hc0,hc1,hI,hg,h2,hbd,hfl,hf]<;>omega),?_⟩;repeat' (first|((with_reducible show aG _);(simp only[vb,lb,hem,dX];and_intros<;>first|omega|(simp<;>omega)))|((with_reducible show aM _);first|exact True.intro|((try dsimp only[go_sem]);(simp[vb,hem,dX]<;>omega)))|exact(rfl:some _=_)|((fail_if_success refine aT ?_);refine fu [(102,fun ps=>match ps with|[.agg [.int _ l,.int _ h]]=>some (.bool (decide (h<l)))|_=>none)] ?_;(repeat1' dsimp only[xu,av,ai,go_sem]);first|refine aU ?_ ?_ rfl ?_|apply aV|apply aW|(refine aX (fun hc=>?_) fun hc=>?_<;>first|(cases hc;done)|(try simp only[bn]at hc;try contradiction))|skip))
   ·rw[ei]at hc;rw[if_pos hc]
   ·rw[ei]at hc ⊢;rw[if_neg hc]
  ·have hfl:=xE (bd-sm) (-y.fac) (by omega) (by omega) (by omega) (by omega);have hq:((bd-sm) / -y.fac).natAbs≤(bd-sm).natAbs:=Int.natAbs_ediv_le_natAbs _ _;simp only[hf,if_false];generalize (bd-sm) / -y.fac=q at *;have hem:=sT ⟨if x.lo< -q then -q else x.lo,x.hi⟩;simp only[dX]at hem;refine af (C:=ctx) (Fn.of Al rfl) rfl ?_;unfold xu;unfold av at hI hbd;unfold ai at hbd
   refine bX [(149,fun _=>some (.int .i64 sm)),(150,fun _=>some (.int .i64 q))] [ξ 14 (.agg [.int .i64 x.lo,.int .i64 x.hi]),(18,{val:=some (.pv (.int .i64 k)),ro:=true}),ξ 27 (.int .i64 y.fac)] ?_;dsimp only[av,ai,go_sem];try dsimp only[av,ai,go_sem]
   refine⟨(by simp[vb,e,f1,f2,hc0,hc1,hI,hg,h2,hbd,hfl,hf]<;>omega),(by simp[vb,e,f1,f2,hc0,hc1,hI,hg,h2,hbd,hfl,hf]<;>omega),?_⟩;refine bX [(149,fun _=>some (.int .i64 sm)),(150,fun _=>some (.int .i64 q))] [ξ 14 (.agg [.int .i64 x.lo,.int .i64 x.hi]),(18,{val:=some (.pv (.int .i64 k)),ro:=true}),ξ 27 (.int .i64 y.fac)] ?_;dsimp only[av,ai,go_sem];try dsimp only[av,ai,go_sem]
   refine⟨(by first|exact True.intro|(simp only[vb,lb];omega)|(simp only[vb,lb,e,f1,f2,hc0,hc1,hI,hg,h2,hbd,hfl,hf];and_intros<;>first|omega|(simp<;>omega))|(simp[vb,e,f1,f2,hc0,hc1,hI,hg,h2,hbd,hfl,hf]<;>omega)),(by first|exact True.intro|((try dsimp only[go_sem]);first|(simp[vb,e,f1,f2,hc0,hc1,hI,hg,h2,hbd,hfl,hf]<;>omega)|(simp only[vb,and_true,true_implies];(repeat' (first|(with_reducible assumption)|(with_reducible apply And.intro)|intro _|((fail_if_success (with_reducible show(_:Int)≤_));assumption)))<;>first|omega|rfl|(simp only[ab,e,f1,f2,hc0,hc1,hI,hg,h2,hbd,hfl,hf];done)|(simp[Nat.mul_one,e,f1,f2,hc0,hc1,hI,hg,h2,hbd,hfl,hf]<;>omega)|(simp_all;done)))),?_⟩
   refine bX [(149,fun _=>some (.int .i64 sm)),(150,fun _=>some (.int .i64 q))] [ξ 14 (.agg [.int .i64 x.lo,.int .i64 x.hi]),(18,{val:=some (.pv (.int .i64 k)),ro:=true}),ξ 27 (.int .i64 y.fac)] ?_;dsimp only[av,ai,go_sem];try dsimp only[av,ai,go_sem]
   refine⟨(by first|exact True.intro|(simp only[vb,lb];omega)|(simp only[vb,lb,e,f1,f2,hc0,hc1,hI,hg,h2,hbd,hfl,hf];and_intros<;>first|omega|(simp<;>omega))|(simp[vb,e,f1,f2,hc0,hc1,hI,hg,h2,hbd,hfl,hf]<;>omega)),(by first|exact True.intro|((try dsimp only[go_sem]);first|(simp[vb,e,f1,f2,hc0,hc1,hI,hg,h2,hbd,hfl,hf]<;>omega)|(simp only[vb,and_true,true_implies];(repeat' (first|(with_reducible assumption)|(with_reducible apply And.intro)|intro _|((fail_if_success (with_reducible show(_:Int)≤_));assumption)))<;>first|omega|rfl|(simp only[ab,e,f1,f2,hc0,hc1,hI,hg,h2,hbd,hfl,hf];done)|(simp[Nat.mul_one,e,f1,f2,hc0,hc1,hI,hg,h2,hbd,hfl,hf]<;>omega)|(simp_all;done)))),?_⟩
   iterate 5 first
    |refine⟨fun h=>by simp at h<;>omega,fun _=>?_⟩
    |refine⟨by simp[vb,e,f1,f2,hc0,hc1,hI,hg,h2,hbd,hfl,hf]<;>omega,by simp[vb,e,f1,f2,hc0,hc1,hI,hg,h2,hbd,hfl,hf]<;>omega,?_⟩
    |(refine bX [(149,fun _=>some (.int .i64 sm)),(150,fun _=>some (.int .i64 q))] [ξ 14 (.agg [.int .i64 x.lo,.int .i64 x.hi]),(18,{val:=some (.pv (.int .i64 k)),ro:=true}),ξ 27 (.int .i64 y.fac)] ?_;iterate 2 (try dsimp only[av,ai,go_sem]))
   refine bX [(149,fun _=>some (.int .i64 sm)),(150,fun _=>some (.int .i64 q))] [ξ 14 (.agg [.int .i64 x.lo,.int .i64 x.hi]),(18,{val:=some (.pv (.int .i64 k)),ro:=true}),ξ 27 (.int .i64 y.fac)] ?_;dsimp only[av,ai,go_sem];try dsimp only[av,ai,go_sem]
   refine⟨(by first|exact True.intro|(simp only[vb,lb];omega)|(simp only[vb,lb,e,f1,f2,hc0,hc1,hI,hg,h2,hbd,hfl,hf];and_intros<;>first|omega|(simp<;>omega))|(simp[vb,e,f1,f2,hc0,hc1,hI,hg,h2,hbd,hfl,hf]<;>omega)),(by first|exact True.intro|((try dsimp only[go_sem]);first|(simp[vb,e,f1,f2,hc0,hc1,hI,hg,h2,hbd,hfl,hf]<;>omega)|(simp only[vb,and_true,true_implies];(repeat' (first|(with_reducible assumption)|(with_reducible apply And.intro)|intro _|((fail_if_success (with_reducible show(_:Int)≤_));assumption)))<;>first|omega|rfl|(simp only[ab,e,f1,f2,hc0,hc1,hI,hg,h2,hbd,hfl,hf];done)|(simp[Nat.mul_one,e,f1,f2,hc0,hc1,hI,hg,h2,hbd,hfl,hf]<;>omega)|(simp_all;done)))),?_⟩
   refine bX [(149,fun _=>some (.int .i64 sm)),(150,fun _=>some (.int .i64 q))] [ξ 14 (.agg [.int .i64 x.lo,.int .i64 x.hi]),(18,{val:=some (.pv (.int .i64 k)),ro:=true}),ξ 27 (.int .i64 y.fac)] ?_;dsimp only[av,ai,go_sem];try dsimp only[av,ai,go_sem]
   refine⟨(by simp[vb,e,f1,f2,hc0,hc1,hI,hg,h2,hbd,hfl,hf]<;>omega),(by simp[vb,e,f1,f2,hc0,hc1,hI,hg,h2,hbd,hfl,hf]<;>omega),?_⟩;refine bX [(149,fun _=>some (.int .i64 sm)),(150,fun _=>some (.int .i64 q))] [ξ 14 (.agg [.int .i64 x.lo,.int .i64 x.hi]),(18,{val:=some (.pv (.int .i64 k)),ro:=true}),ξ 27 (.int .i64 y.fac)] ?_;dsimp only[av,ai,go_sem];refine⟨fun h=>by simp at h<;>omega,fun _=>?_⟩
   refine kN (T:=[(149,fun _=>some (.int .i64 sm)),(150,fun _=>some (.int .i64 q))]) (H:=[ξ 14 (.agg [.int .i64 x.lo,.int .i64 x.hi]),(18,{val:=some (.pv (.int .i64 k)),ro:=true}),ξ 27 (.int .i64 y.fac)]) (by rfl) ?_;dsimp only[c6,av,ai,go_sem];try dsimp only[av,ai,go_sem]
   refine⟨(by simp[vb,e,f1,f2,hc0,hc1,hI,hg,h2,hbd,hfl,hf]<;>omega),(by simp[vb,e,f1,f2,hc0,hc1,hI,hg,h2,hbd,hfl,hf]<;>omega),?_⟩;repeat' (first|((with_reducible show aG _);(simp only[vb,lb,hem,dX];and_intros<;>first|omega|(simp<;>omega)))|((with_reducible show aM _);first|exact True.intro|((try dsimp only[go_sem]);(simp[vb,hem,dX]<;>omega)))|exact(rfl:some _=_)|((fail_if_success refine aT ?_);refine fu [(102,fun ps=>match ps with|[.agg [.int _ l,.int _ h]]=>some (.bool (decide (h<l)))|_=>none)] ?_;(repeat1' dsimp only[xu,av,ai,go_sem]);first|refine aU ?_ ?_ rfl ?_|apply aV|apply aW|(refine aX (fun hc=>?_) fun hc=>?_<;>first|(cases hc;done)|(try simp only[bn]at hc;try contradiction))|skip))
   ·rw[iw]at hc;rw[if_pos hc]
   ·rw[iw]at hc ⊢;rw[if_neg hc]
theorem zk (b:List Rg) (r:Rw) (c:Int) (hb:b.length≤1000000000) (hr:r.terms.length≤1000000000):aj ctx 107 [.agg [av r.terms,.int .i64 r.bound],ai b,.int .i64 c] (.agg [.int .i64 (dS r b c).lo,.int .i64 (dS r b c).hi]):=by
 have hv:aj ctx 71 [.sl b.length (b.flatMap fW),.sl 1 [.sl r.terms.length (r.terms.flatMap j5),.int .i64 r.bound]] (.bool (eA b [r])):=sU b [r] hb (by simp) fun x hx=>by simp at hx;subst hx;exact hr
 by_cases hc:eA b [r]=true∧0≤c∧c<b.length
 ·have ht:=xH b r c hc.1 hc.2.1 hc.2.2;rw[show dS r b c=fF r b c by rw[dS,if_pos hc]];rw[hc.1]at hv;obtain⟨-,c1,c2⟩:=hc;generalize fF r b c=x at *;unfold av ai at ht;refine af (C:=ctx) (Fn.of Ak rfl) rfl ?_;unfold c107;repeat' (first|((with_reducible show aG _);first|exact True.intro|(simp only[vb,lb,hv,ht,c1,c2];and_intros<;>first|omega|(simp<;>omega)))|((with_reducible show aM _);first|exact True.intro|((try dsimp only[go_sem]);(simp[vb,hv,ht,c1,c2]<;>omega)))|exact(rfl:some _=_)|((fail_if_success refine aT ?_);refine fu [(71,fun _=>some (.bool true)),(129,fun _=>some (.agg [.int .i64 x.lo,.int .i64 x.hi]))] ?_;(repeat1' dsimp only[c107,av,ai,go_sem]);first|refine aU ?_ ?_ rfl ?_|apply aV|apply aW|(refine aX (fun hc=>?_) fun hc=>?_<;>first|(cases hc;done)|(exfalso;(simp at hc<;>omega))|(try simp only[bn]at hc;try contradiction))|skip))
 ·rw[show dS r b c=zr by rw[dS,if_neg hc]];generalize eA b [r]=q at *;cases q with
  |false =>
   refine af (C:=ctx) (Fn.of Ak rfl) rfl ?_;unfold c107;repeat' (first|((with_reducible show aG _);first|exact True.intro|(simp only[vb,lb,hv];and_intros<;>first|omega|(simp<;>omega)))|((with_reducible show aM _);first|exact True.intro|((try dsimp only[go_sem]);(simp[vb,hv]<;>omega)))|exact(rfl:some _=_)|((fail_if_success refine aT ?_);refine fu [(71,fun _=>some (.bool false))] ?_;(repeat1' dsimp only[c107,av,ai,go_sem]);first|refine aU ?_ ?_ rfl ?_|apply aV|apply aW|(refine aX (fun hc=>?_) fun hc=>?_<;>first|(cases hc;done)|(try simp only[bn]at hc;try contradiction))|skip))
  |true =>
   have hn:¬(0≤c∧c<b.length):=fun h=>hc ⟨rfl,h⟩
   clear hc;refine af (C:=ctx) (Fn.of Ak rfl) rfl ?_;unfold c107;repeat' (first|((with_reducible show aG _);first|exact True.intro|(simp only[vb,lb,hv];and_intros<;>first|omega|(simp<;>omega)))|((with_reducible show aM _);first|exact True.intro|((try dsimp only[go_sem]);(simp[vb,hv]<;>omega)))|exact(rfl:some _=_)|((fail_if_success refine aT ?_);refine fu [(71,fun _=>some (.bool true))] ?_;(repeat1' dsimp only[c107,av,ai,go_sem]);first|refine aU ?_ ?_ rfl ?_|apply aV|apply aW|(refine aX (fun hc=>?_) fun hc=>?_<;>first|(cases hc;done)|(exfalso;(simp at hc<;>omega))|(try simp only[bn]at hc;try contradiction))|skip))
end
section
open Rf
def ri:List PV→Option (List aS)
 |[]=>some []
 | .int .i64 a::.int .i64 b::.int .i64 c::r=>match ri r with
  |some l=>some (⟨a,b,c⟩::l)
  |none=>none
 |_=>none
structure nC where
 k:Int
 s:List aS
 c:Int
 a:Int
 deriving DecidableEq
def zl:PV→Option nC
 | .agg [.int .i64 k,.sl n cs,.int .i64 c,.int .i64 a,.sl 0 []]=>match ri cs with
  |some s=>bif Nat.beq n s.length&&Nat.ble n 1000 then some ⟨k,s,c,a⟩ else none
  |none=>none
 |_=>none
def nC.t (x:nC):Tree:=.node x.k x.s x.c x.a []
theorem sX:∀(cs:List PV) (s:List aS),ri cs=some s→cs=s.flatMap aw
 |[],s,h=>by injection h with h;subst h;rfl
 |[.int .i64 _],_,h=>by cases h
 |[.int .i64 _,.int .i64 _],_,h=>by cases h
 | .int .i64 a::.int .i64 b::.int .i64 c::r,s,h=>by
  rw[ri]at h;split at h
  ·rename_i l hl;injection h with h
   subst h;rw[sX r l hl];rfl
  ·cases h
theorem BR {p:PV} {x:nC} (h:zl p=some x):p=aA x.t∧wt x.t≤1000000000:=by
 unfold zl at h;split at h
 ·split at h
  ·rename_i s hs;rename_i k n cs c a _;cases hb:(Nat.beq n s.length&&Nat.ble n 1000) with
   |false=>rw[hb]at h;cases h
   |true =>
    rw[hb,cond_true]at h;injection h with h
    subst h;rw[Bool.and_eq_true]at hb;have h1:=Nat.eq_of_beq_eq_true hb.1;have h2:=Nat.le_of_ble_eq_true hb.2;subst h1;rw[sX cs s hs];refine⟨rfl,?_⟩;rw[nC.t,bE];simp[fg];omega
  ·cases h
 ·cases h
def qn (f:nC→Option PV):List PV→Option PV:=fun ps=>match ps.map (canon 3) with
 |[p]=>match zl p with
  |some x=>f x
  |none=>none
 |_=>none
theorem nP {g:FuncId} {f:nC→Option PV} (h:∀x r,wt x.t≤1000000000→f x=some r→aj ctx g [aA x.t] r) (ps:List PV) (r:PV) (hr:qn f ps=some r):aj ctx g ps r:=by
 unfold qn at hr;split at hr
 ·rename_i p hp;split at hr
  ·rename_i x hx;obtain⟨h1,h2⟩:=BR hx;refine aj.oA 3 ?_;rw[hp,h1];exact h x r h2 hr
  ·cases hr
 ·cases hr
def Hh:nC:=⟨0,[⟨0,1,0⟩,⟨0,2,1⟩,⟨0,0,0⟩],0,0⟩
def Gn:List UInt8:=[114,111,119,32,49,32,48,10,114,111,119,32,50,32,49,10,114,111,119,32,48,32,48,10,99,108,111,115,101,100,10]
def Hz:List UInt8:=[114,111,119,32,48,49,32,48,10,99,108,111,115,101,100,10]
def zn (x:nC):Bool:=x.s.all bk&&Rf.bQ x.k x.c x.a 0
theorem DG (x:nC):db x.t=1:=by rw[nC.t,jA];rfl
theorem Hi (x:nC):bU x.t=x.s.length:=by rw[nC.t,fv];rfl
theorem uD (x:nC) (h:x.s.length≤1000):eV x.t=zn x:=by
 have hw:wt x.t=1+x.s.length:=by rw[nC.t,bE];rfl
 have d1:decide (db x.t≤4096)=true:=by rw[DG];rfl
 have d2:decide (wt x.t≤65536)=true:=by rw[hw];simp;omega
 unfold eV;rw[d1,d2,nC.t,cD];simp[zn]
theorem DH:jn Hh.t=(Gn,0):=by
 have h1:eG Hh.t=Gn:=by
  rw[nC.t,iR];kernel_rfl
 unfold jn;rw[uD Hh (by decide),h1];rfl
def Fu:Tree:=.node 0 [⟨0,1,0⟩] 0 0 []
theorem Hj:iy Hz=(zt,3):=by
 have h1:kx ((mF 10 Hz).length+1) 1 (mF 10 Hz)=some (Fu,[[]]):=by kernel_rfl
 have h2:jn Fu≠(Hz,0):=by
  have h3:eG Fu=[114,111,119,32,49,32,48,10,99,108,111,115,101,100,10]:=by
   rw[Fu,iR];kernel_rfl
  unfold jn;rw[h3];intro h;split at h
  ·split at h
   ·cases h
   ·injection h with h _
    cases h
  ·cases h
 unfold iy;rw[if_neg (by decide),h1];simp only;rw[if_neg h2]
theorem Hk:iy Gn=(Hh.t,0):=by
 have h1:kx ((mF 10 Gn).length+1) 1 (mF 10 Gn)=some (Hh.t,[[]]):=by kernel_rfl
 unfold iy;rw[if_neg (by decide),h1];simp only;rw[if_pos DH]
def Jm:oo where
 fns:=Am
 pure:=[(13,qn fun x=>bif Nat.ble x.s.length 1000 then some (.bool (zn x)) else none),(15,qn fun x=>some (.int .i64 x.s.length)),(17,qn fun _=>some (.int .i64 1)),
  (26,qn fun x=>if x=Hh then some (.tup [.str Gn,.int .i64 0]) else none),
  (28,fun ps=>match ps with
   |[.str s]=>if s=Hz then some (.tup [.agg [.int .i64 0,.sl 0 [],.int .i64 0,.int .i64 0,.sl 0 []],.int .i64 3]) else
    if s=Gn then some (.tup [.agg [.int .i64 0,.sl 3 [.int .i64 0,.int .i64 1,.int .i64 0,.int .i64 0,.int .i64 2,.int .i64 1,.int .i64 0,.int .i64 0,.int .i64 0],.int .i64 0,.int .i64 0,.sl 0 []],.int .i64 0]) else none
   |_=>none)]
 ref:=[]
 mem:=[77]
theorem DI:lr ctx Jm where
 dz:=rfl
 fns g e h:=by
  have key:∀(l:List (Nat×Iv)),(∀p∈l,∃own,bp Tryz.prog p.1 own=some (p.2.x,p.2.rs,p.2.n,true))→kL l g=some e→∃own,bp Tryz.prog g own=some (e.x,e.rs,e.n,true):=by
   intro l;induction l with
   |nil=>intro _ h;cases h
   |cons p r ih =>
    obtain⟨k,y⟩:=p;intro hl h;rw[kL]at h;cases hk:Nat.beq k g with
    |true =>
     rw[hk,cond_true]at h;injection h with h
     subst h;have:=Nat.eq_of_beq_eq_true hk;subst this;exact hl (k,y) (by simp)
    |false =>
     rw[hk,cond_false]at h;exact ih (fun p hp=>hl p (by simp[hp])) h
  exact key Am Dp h
 pure g s h ps r hr:=by
  have look:∀{k:Nat} {x:List PV→Option PV} {l:List (Nat×(List PV→Option PV))},kL ((k,x)::l) g=some s→(k=g∧x=s)∨kL l g=some s:=fun {k x l} h=>by
   rw[kL]at h;cases hk:Nat.beq k g with
   |true =>
    rw[hk,cond_true]at h;injection h with h
    exact .inl ⟨Nat.eq_of_beq_eq_true hk,h⟩
   |false =>
    rw[hk,cond_false]at h;exact .inr h
  rcases look h with⟨rfl,rfl⟩|h
  ·refine nP (fun x r hw h=>?_) ps r hr;cases hb:Nat.ble x.s.length 1000 with
   |false=>rw[hb]at h;cases h
   |true =>
    rw[hb,cond_true]at h;injection h with h
    subst h;rw[←uD x (Nat.le_of_ble_eq_true hb)];exact sK x.t hw
  rcases look h with⟨rfl,rfl⟩|h
  ·refine nP (fun x r hw h=>?_) ps r hr;injection h with h
   subst h;have:=Dt x.t hw;rw[Hi]at this;exact this
  rcases look h with⟨rfl,rfl⟩|h
  ·refine nP (fun x r hw h=>?_) ps r hr;injection h with h
   subst h;have:=Du x.t hw;rw[DG]at this;exact this
  rcases look h with⟨rfl,rfl⟩|h
  ·refine nP (fun x r hw h=>?_) ps r hr;split at h
   ·rename_i he;subst he;injection h with h
    subst h;have:=uB Hh.t hw;rw[DH]at this;exact this
   ·cases h
  rcases look h with⟨rfl,rfl⟩|h
  ·dsimp only at hr;split at hr
   ·split at hr
    ·rename_i he;subst he;injection hr with hr
     subst hr;have:=xG Hz (by decide);rw[Hj]at this;exact this
    ·split at hr
     ·rename_i he;subst he;injection hr with hr
      subst hr;have:=xG Gn (by decide);rw[Hk]at this;exact this
     ·cases hr
   ·cases hr
  ·cases h
 ref g s h:=by cases h
end
section
open Rf
set_option maxRecDepth 100000 in
theorem BS:zU Jm (run Jm 2000) 11 []=some (.bool true):=by kernel_rfl
theorem DJ:aj ctx 11 [] (.bool true):=wF DI (Cz DI 2000) BS
end
end Pur
end
section
namespace Rf
structure Ca (s:Sy):Prop where
 b:s.box.length≤1000000000
 r:s.rows.length≤1000000000
 g:s.graphs.length≤1000000000
 c:s.cases.length≤1000000000
 rt:∀x∈s.rows,x.terms.length≤1000000000
 gl:∀x∈s.graphs,x.least.length≤1000000000
 cl:∀l∈s.cases,l.length≤1000000000
 ct:∀l∈s.cases,∀x∈l,x.terms.length≤1000000000
theorem n3 {n:Int} (h1:1≤n) (h2:n≤6):1≤n*n∧n*n≤36:=by
 have:n=1∨n=2∨n=3∨n=4∨n=5∨n=6:=by omega
 rcases this with rfl|rfl|rfl|rfl|rfl|rfl<;>decide
end Rf
namespace Pur
open Go.RowKit
open Rf
def DK (s:Sy):dT:=⟨[.pv (ai s.box),.pv (ax s.rows),.pv (aI s.graphs),.pv (aC s.cases)],0,4,36,false⟩
theorem BU (k:Int):aj ctx 104 [.int .i64 k] (.bool (!eO k)):=by
 refine af (C:=ctx) (Fn.of F5 rfl) rfl ?_;unfold E4;repeat' (first|((with_reducible show aG _);exact True.intro)|((with_reducible show aM _);first|exact True.intro|((try dsimp only[go_sem]);(simp[vb]<;>omega)))|exact(rfl:some _=_)|((fail_if_success refine aT ?_);refine aZ ?_;(repeat1' dsimp only[E4,go_sem]);first|refine aU ?_ ?_ rfl ?_|apply aV|apply aW|(refine aX (fun hc=>?_) fun hc=>?_<;>first|(cases hc;done)|(try simp only[bn]at hc;try contradiction))|skip))
 simp[eO,aL,zO];rw[←decide_not,←decide_not];congr 1<;>exact decide_eq_decide.mpr (by omega)
theorem DL (n:Int) (g:Gr) (hn:0≤n) (hn2:n≤1000000000) (hg:g.least.length≤1000000000):aj ctx 74 [.int .i64 n,.agg [.int .i64 g.first,.int .i64 g.size,an g.least]] (.bool (bH n g)):=by
 have hl:=BH 104 g.least hg (fun k=>!eO k) fun k _=>BU k
 have e:g.least.all eO= !(g.least.any fun k=>!eO k):=by simp[List.any_eq_not_all_not]
 unfold bH;rw[e];clear e;generalize (g.least.any fun k=>!eO k)=q at *;obtain⟨fi,sz,le⟩:=g;simp only at *;unfold an at hl;by_cases h:1≤sz∧sz≤6
 ·obtain⟨q1,q2⟩:=n3 h.1 h.2;rw[show aL sz 1 6=true by simp[aL,h],Bool.true_and];by_cases h2:0≤fi∧fi≤n-sz*sz∧(le.length:Int)=sz*sz
  ·rw[decide_eq_true h2.1,decide_eq_true h2.2.1,decide_eq_true h2.2.2];refine af (C:=ctx) (Fn.of EZ rfl) rfl ?_;unfold FZ;repeat' (first|((with_reducible show aG _);first|exact True.intro|(simp only[vb,lb,hl,h,h2,q1,q2];and_intros<;>first|omega|(simp<;>omega)))|((with_reducible show aM _);first|exact True.intro|((try dsimp only[go_sem]);(simp[vb,hl,h,h2,q1,q2]<;>omega)))|exact(rfl:some _=_)|((fail_if_success refine aT ?_);refine fu [(103,fun _=>some (.bool q))] ?_;(repeat1' dsimp only[FZ,an,go_sem]);first|refine aU ?_ ?_ rfl ?_|apply aV|apply aW|(refine aX (fun hc=>?_) fun hc=>?_<;>first|(cases hc;done)|(exfalso;(simp at hc<;>omega))|(try simp only[bn]at hc;try contradiction))|skip))
  ·have hr:(decide (0≤fi)&&decide (fi≤n-sz*sz)&&decide ((le.length:Int)=sz*sz))=false:=by
    rw[Bool.eq_false_iff];simp only[ne_eq,Bool.and_eq_true,decide_eq_true_eq];omega
   rw[hr];refine af (C:=ctx) (Fn.of EZ rfl) rfl ?_;unfold FZ;repeat' (first|((with_reducible show aG _);first|exact True.intro|(simp only[vb,lb,hl,h,h2,q1,q2];and_intros<;>first|omega|(simp<;>omega)))|((with_reducible show aM _);first|exact True.intro|((try dsimp only[go_sem]);(simp[vb,hl,h,h2,q1,q2]<;>omega)))|exact(rfl:some _=_)|((fail_if_success refine aT ?_);refine fu [(103,fun _=>some (.bool q))] ?_;(repeat1' dsimp only[FZ,an,go_sem]);first|refine aU ?_ ?_ rfl ?_|apply aV|apply aW|(refine aX (fun hc=>?_) fun hc=>?_<;>first|(cases hc;done)|(exfalso;(simp at hc<;>omega))|(try simp only[bn]at hc;try contradiction))|skip))
 ·rw[show aL sz 1 6=false by simp[aL];omega];refine af (C:=ctx) (Fn.of EZ rfl) rfl ?_;unfold FZ;repeat' (first|((with_reducible show aG _);first|exact True.intro|(simp only[vb,lb,hl,h];and_intros<;>first|omega|(simp<;>omega)))|((with_reducible show aM _);first|exact True.intro|((try dsimp only[go_sem]);(simp[vb,hl,h]<;>omega)))|exact(rfl:some _=_)|((fail_if_success refine aT ?_);refine fu [(103,fun _=>some (.bool q))] ?_;(repeat1' dsimp only[FZ,an,go_sem]);first|refine aU ?_ ?_ rfl ?_|apply aV|apply aW|(refine aX (fun hc=>?_) fun hc=>?_<;>first|(cases hc;done)|(exfalso;(simp at hc<;>omega))|(try simp only[bn]at hc;try contradiction))|skip))
theorem Ay (s:Sy) (l:List Rw) (most:Int) (hb:s.box.length≤1000000000) (hl:l.length≤1000000000) (ht:∀x∈l,x.terms.length≤1000000000) :
  aj ctx 73 [.agg [ai s.box,ax s.rows,aI s.graphs,aC s.cases],ax l,.int .i64 most] (.bool (decide ((l.length:Int)≤most)&&eA s.box l)):=by
 have hv:=sU s.box l hb hl ht;generalize eA s.box l=q at *;unfold ai ax at hv;refine af (C:=ctx) (Fn.of HR rfl) rfl ?_;unfold Iz;repeat' (first|((with_reducible show aG _);exact True.intro)|((with_reducible show aM _);first|exact True.intro|((try dsimp only[go_sem]);(simp[vb,hv]<;>omega)))|exact(rfl:some _=_)|((fail_if_success refine aT ?_);refine fu [(71,fun _=>some (.bool q))] ?_;(repeat1' dsimp only[Iz,ai,ax,aI,aC,go_sem]);first|refine aU ?_ ?_ rfl ?_|apply aV|apply aW|(refine aX (fun hc=>?_) fun hc=>?_<;>first|(cases hc;done)|(try simp only[bn]at hc;try contradiction))|skip))
 rw[ie]
theorem zo (s:Sy) (hs:Ca s) (l:List Rw) (hl:l.length≤1000000000) (ht:∀x∈l,x.terms.length≤1000000000) :
  aN ctx 76 [.pv (ax l),.ptr 0 0 0] [DK s] (.pv (.bool (!fD s.box l))) [DK s]:=by
 have hr:=Ay s l 64 hs.b hl ht;have e:fD s.box l=(decide ((l.length:Int)≤64)&&eA s.box l):=by
  unfold fD;congr 1;exact decide_eq_decide.mpr (by omega)
 rw[e];generalize (decide ((l.length:Int)≤64)&&eA s.box l)=q at *;unfold ai ax aI aC at hr;refine bo (C:=ctx) (Fn.of HT rfl) rfl (by simp) rfl rfl ?_;unfold c76 DK;repeat' (first|((with_reducible show aG _);first|exact True.intro|(simp only[vb,lb,hr];and_intros<;>first|omega|(simp<;>omega)))|((with_reducible show aM _);first|exact True.intro|((try dsimp only[go_sem]);(simp[vb,hr]<;>omega)))|exact(rfl:some _=_)|((fail_if_success refine aT ?_);refine fu [(73,fun _=>some (.bool q))] ?_;(repeat1' dsimp only[c76,ai,ax,aI,aC,go_sem]);first|refine aU ?_ ?_ rfl ?_|apply aV|apply aW|(refine aX (fun hc=>?_) fun hc=>?_<;>first|(cases hc;done)|(try simp only[bn]at hc;try contradiction))|skip))
 all_goals exact⟨⟨trivial,rfl⟩,_,rfl⟩
theorem xI (s:Sy) (hs:Ca s):aj ctx 46 [.agg [ai s.box,ax s.rows,aI s.graphs,aC s.cases]] (.bool (im s)):=by
 have h1:=BN s.box hs.b;have h2:=xC s.box hs.b;have h3:=Ay s s.rows 1024 hs.b hs.r hs.rt;have h4:=Dr 76 [DK s] rfl 0 (by simp) s.cases hs.c (fun l=>!fD s.box l) fun l hl=>zo s hs l (hs.cl l hl) (hs.ct l hl)
 have e:s.cases.all (fD s.box)= !(s.cases.any fun l=>!fD s.box l):=by simp[List.any_eq_not_all_not]
 have f1:=ra s.graphs;have hgr:=fun g hg=>DL s.box.length g (by omega) (by have:=hs.b;omega) (hs.gl g hg)
 have hsg:=hs.g;have hsc:=hs.c;have hsb:=hs.b;have e2:im s=(cz s.box&& !dt s.box&&(decide ((s.rows.length:Int)≤1024)&&eA s.box s.rows)&&decide (s.graphs.length≤64)&&decide (s.cases.length≤1024)&&s.graphs.all (bH s.box.length)&&s.cases.all (fD s.box)):=by
  have:eA s.box s.rows=(cz s.box&&eA s.box s.rows):=by unfold eA;cases cz s.box<;>simp
  rw[im,this];have:decide ((s.rows.length:Int)≤1024)=decide (s.rows.length≤1024):=decide_eq_decide.mpr (by omega);rw[this];cases cz s.box<;>cases eA s.box s.rows<;>cases dt s.box<;>cases decide (s.rows.length≤1024)<;>rfl
 rw[e2,e];clear e e2;generalize (s.cases.any fun l=>!fD s.box l)=q4 at *;generalize (decide ((s.rows.length:Int)≤1024)&&eA s.box s.rows)=q3 at *;generalize dt s.box=q2 at *;generalize cz s.box=q1 at *;obtain⟨b,rs,gs,cs⟩:=s;simp only at *;clear hs;unfold DK ai ax aI aC at h4;unfold ai at h1 h2;unfold ai ax aI aC at h3;refine af (C:=ctx) (Fn.of HP rfl) rfl ?_;unfold c46;repeat' (first|((with_reducible show aG _);first|exact True.intro|(simp only[vb,lb,h1,h2,h3];and_intros<;>first|omega|(simp<;>omega)))|((with_reducible show aM _);first|exact True.intro|((try dsimp only[go_sem]);(simp[vb,h1,h2,h3]<;>omega)))|exact(rfl:some _=_)|((fail_if_success refine aT ?_);refine fu [(71,fun _=>some (.bool q1)),(72,fun _=>some (.bool q2)),(73,fun _=>some (.bool q3))] ?_;(repeat1' dsimp only[c46,ai,ax,aI,aC,go_sem]);first|refine aU ?_ ?_ rfl ?_|apply aV|apply aW|(refine aX (fun hc=>?_) fun hc=>?_<;>first|(cases hc;done)|(try simp only[bn]at hc;try contradiction))|skip))
 ·have hr:(q1&& !q2&&q3&&decide (gs.length≤64)&&decide (cs.length≤1024))=false:=by
   rw[Bool.eq_false_iff];simp only[ne_eq,Bool.and_eq_true,decide_eq_true_eq,Bool.not_eq_true'];rintro⟨⟨⟨⟨a,b⟩,c⟩,d⟩,e⟩;subst a b c;simp at hc;omega
  rw[hr];rfl
 ·have hr:(q1&& !q2&&q3&&decide (gs.length≤64)&&decide (cs.length≤1024))=true:=by
   simp only[Bool.and_eq_true,decide_eq_true_eq,Bool.not_eq_true'];obtain⟨⟨⟨⟨a,b⟩,c⟩,d⟩,e⟩:=hc;exact⟨⟨⟨⟨a,b⟩,c⟩,by omega⟩,by omega⟩
  rw[hr,Bool.true_and];clear h1 h2 h3 hc hr;refine bg gs.length (fun k=>(gs.take k).all (bH b.length)=true) (fun k=>[(1,.ptr 0 0 0),(34,.pv (aI gs)),(35,.pv (.int .i64 gs.length)),(36,.pv (.int .i64 k))]) (fun _=>[⟨[.pv (ai b),.pv (ax rs),.pv (aI gs),.pv (aC cs)],0,4,36,false⟩]) rfl (by (repeat' (first|exact trivial|refine And.intro (by first|rfl|(simp[get,Nat.beq]<;>omega)|(dsimp only[get];congr 1<;>first|rfl|omega|(simp<;>omega))) ?_))) ⟨_,rfl⟩ (fun _=>⟨Nat.zero_le _,rfl,rfl⟩) fun k hk hP=>?_
  by_cases hlt:k<gs.length
  ·have e:=bM ph gs k zg hlt;have i1:=dh (bH b.length) gs k zg hlt;have i2:=kq (bH b.length) gs k zg hlt;have hx:=hgr _ (aO (d:=zg) hlt);rw[i1,hP,Bool.true_and];clear i1 hgr;generalize gs.getD k zg=x at *;generalize bH b.length x=qx at *;unfold an at hx;repeat' (first|((with_reducible show aG _);first|exact True.intro|(simp only[vb,lb,e,f1,hlt,hx,dx,an];and_intros<;>first|omega|(simp<;>omega)))|((with_reducible show aM _);first|exact True.intro|((try dsimp only[go_sem]);(simp[vb,e,f1,hlt,hx,dx,an]<;>omega)))|exact(rfl:some _=_)|((fail_if_success refine aT ?_);refine bX [(74,fun _=>some (.bool qx))] [ξ 39 (.agg [.int .i64 x.first,.int .i64 x.size,.sl x.least.length (x.least.flatMap bO)])] ?_;(repeat1' dsimp only[c46,ai,ax,aI,aC,go_sem]);first|refine aU ?_ ?_ rfl ?_|apply aV|apply aW|(refine aX (fun hc=>?_) fun hc=>?_<;>first|(cases hc;done)|(exfalso;(simp at hc<;>omega))|(try simp only[bn]at hc;try contradiction))|skip))
   ·rw[i2 hc];rfl
   ·exact⟨hlt,hc,by (repeat' (first|exact trivial|refine And.intro (by first|rfl|(simp[get,Nat.beq]<;>omega)|(dsimp only[get];congr 1<;>first|rfl|omega|(simp<;>omega))) ?_)),_,rfl⟩
  ·obtain rfl:k=gs.length:=by omega
   rw[List.take_length]at hP;rw[hP,Bool.true_and];repeat' (first|((with_reducible show aG _);first|exact True.intro|(simp only[vb,lb,hlt,h4];and_intros<;>first|omega|(simp<;>omega)))|((with_reducible show aM _);first|exact True.intro|((try dsimp only[go_sem]);(simp[vb,hlt,h4]<;>omega)))|exact(rfl:some _=_)|((fail_if_success refine aT ?_);refine br [(50,{val:=some (.pv (.bool q4)),ro:=true})] ?_;(repeat1' dsimp only[c46,ai,ax,aI,aC,go_sem]);first|refine aU ?_ ?_ rfl ?_|apply aV|apply aW|(refine aX (fun hc=>?_) fun hc=>?_<;>first|(cases hc;done)|(exfalso;(simp at hc<;>omega))|(try simp only[bn]at hc;try contradiction))|skip))
end Pur
end
section
namespace Rf
theorem mo (g:Gr) (b:List Rg):(di g b).length=g.least.length:=by simp[di]
theorem qG (g:Gr) (b:List Rg) (j:Nat) (h:j<g.least.length):(di g b).getD j false=decide (g.least.getD j 0≤(b.getD (g.first.toNat+j) zr).lo):=by
 simp[di,List.getD,h]
open Classical in
theorem sY (n:Nat) (l:List Bool) (u v:Nat):y7 n l u v=true↔Reach n (bL n l) u v:=by
 unfold y7;rw[decide_eq_true_eq]
def nD (l:List Bool) (k:Nat):List Bool:=l.take k++List.replicate (l.length-k) false
theorem BV (l:List Bool) (k:Nat) (h:k≤l.length):(nD l k).length=l.length:=by simp[nD];omega
theorem BX (l:List Bool) (k:Nat) (h:k<l.length):(nD l k).set k (l.getD k false)=nD l (k+1):=by
 have h1:(l.take k).length=k:=by simp;omega
 have h2:l.length-k=(l.length-(k+1))+1:=by omega
 unfold nD;rw[h2,List.replicate_succ,List.set_append_right _ _ (by omega),h1,Nat.sub_self,List.set_cons_zero,Pur.aJ l k false h,List.append_assoc];rfl
theorem BY (l:List Bool):nD l l.length=l:=by simp[nD]
theorem zp (l:List Bool):nD l 0=List.replicate l.length false:=by simp[nD]
end Rf
namespace Pur
open Go.RowKit
open Rf
theorem Fv (n:Nat) (es:List Bool) (hn:1≤n) (hn2:n≤6) (hlen:es.length=n*n):aj ctx 145 [.int .i64 n,bF es] (.tup [.agg [.int .i64 n,bF es],.bool true]):=by
 have hs:=n3 (n:=(n:Int)) (by omega) (by omega);have hl:(es.length:Int)=(n:Int)*n:=by rw[hlen];simp
 refine af (C:=ctx) (Fn.of Gd rfl) rfl ?_;unfold c145;repeat' (first|((with_reducible show aG _);first|exact True.intro|(simp only[vb,lb,hs,hl,hn,hn2];and_intros<;>first|omega|(simp<;>omega)))|((with_reducible show aM _);first|exact True.intro|((try dsimp only[go_sem]);(simp[vb,hs,hl,hn,hn2]<;>omega)))|exact(rfl:some _=_)|((fail_if_success refine aT ?_);refine aZ ?_;(repeat1' dsimp only[c145,bF,go_sem]);first|refine aU ?_ ?_ rfl ?_|apply aV|apply aW|(refine aX (fun hc=>?_) fun hc=>?_<;>first|(cases hc;done)|(try simp only[bn]at hc;try contradiction))|skip))
 simp;omega
theorem DM (n:Nat) (es:List Bool) (fr tg:Nat) (hn:1≤n) (hn2:n≤6) (hlen:es.length=n*n) (hf:fr<n) (ht:tg<n) :
  aj ctx 128 [.int .i64 n,bF es,.int .i64 fr,.int .i64 tg] (zj (pj n (bL n es) tg (n+2) [[(fr:Int)]] (jB n fr))):=by
 have h1:=Fv n es hn hn2 hlen;have h2:=DB n es fr tg hlen hn2 hf ht;generalize hr:zj (pj n (bL n es) tg (n+2) [[(fr:Int)]] (jB n fr))=r at *;unfold bF at h1 h2;refine af (C:=ctx) (Fn.of Gc rfl) rfl ?_;unfold E5;repeat' (first|((with_reducible show aG _);first|exact True.intro|(simp only[vb,lb,h1,h2,hf,ht];and_intros<;>first|omega|(simp<;>omega)))|((with_reducible show aM _);first|exact True.intro|((try dsimp only[go_sem]);(simp[vb,h1,h2,hf,ht]<;>omega)))|exact(rfl:some _=_)|((fail_if_success refine aT ?_);refine fu [(145,fun _=>some (.tup [.agg [.int .i64 n,.sl es.length (es.flatMap dG)],.bool true])),(146,fun _=>some r)] ?_;(repeat1' dsimp only[E5,bF,go_sem]);first|refine aU ?_ ?_ rfl ?_|apply aV|apply aW|(refine aX (fun hc=>?_) fun hc=>?_<;>first|(cases hc;done)|(exfalso;(simp at hc<;>omega))|(try simp only[bn]at hc;try contradiction))|skip))
def jF (s:Sy) (rows:List Rw) (b:List Rg) (ch:Bool):List PV:=[ai s.box,ax s.rows,aI s.graphs,aC s.cases,ax rows,ai b,.bool ch]
theorem sZ (b:List Rg) (i:Nat) (h:i<b.length):(b.flatMap fW)[i*2]?.getD default= .int .i64 (b.getD i zr).lo:=by
 have:=cX iq b i zr 0 h (by omega);rw[Nat.add_zero]at this;rw[this];rfl
theorem Fw (l:List Bool) (k:Nat) (v:Bool):((l.flatMap dG).map AV.pv).set k (.pv (.bool v))=((l.set k v).flatMap dG).map AV.pv:=by
 rw[nA,nA,List.map_set,List.map_set]
theorem DN (l:List Int):∃q:Bool,(q=true↔l≠[])∧((l=[]∧zj l= .nilsl∧q=false)∨(∃n c,zj l= .sl (n+1) c∧q=true)):=by
 cases l with
 |nil=>exact⟨false,by simp,.inl ⟨rfl,rfl,rfl⟩⟩
 |cons x r=>exact⟨true,by simp,.inr ⟨r.length,_,rfl,rfl⟩⟩
theorem BZ (s : Sy) (rows : List Rw) (b : List Rg) (ch : Bool) (g : Gr) (k : Nat) (hg : bH b.length g = true) (hb : b.length ≤ 1000000000) (hk : k < g.least.length) :
    aj ctx 106 [.agg (jF s rows b ch), .agg [.int .i64 g.first, .int .i64 g.size, an g.least], .int .i64 k] (.bool (jm g b k)) := by
  simp only [bH, aL, Bool.and_eq_true, decide_eq_true_eq] at hg
  obtain ⟨⟨⟨⟨⟨g1, g2⟩, g3⟩, g4⟩, g5⟩, g6⟩ := hg
  have hsq := n3 g1 g2
  obtain ⟨n, hn⟩ : ∃ n : Nat, g.size = n := ⟨g.size.toNat, by omega⟩
  obtain ⟨fi, hfi⟩ : ∃ fi : Nat, g.first = fi := ⟨g.first.toNat, by omega⟩
  have hlen : g.least.length = n * n := by rw [hn] at g5; have : (n : Int) * n = ((n * n : Nat) : Int) := by simp
                                           omega
  have hpl := mo g b
  have hn1 : 0 < n := by omega
  have hpa := DM n (di g b) (k % n) (k / n) (by omega) (by omega) (by omega) (Nat.mod_lt _ hn1) (by rw [Nat.div_lt_iff_lt_mul hn1]; omega)
  have hcl : jm g b k = true ↔ pj n (bL n (di g b)) (k / n) (n + 2) [[((k % n : Nat) : Int)]] (jB n (k % n)) ≠ [] := by
    unfold jm
    rw [hn, sY, GV (Nat.mod_lt _ hn1)]
    rfl
  generalize hrs : pj n (bL n (di g b)) (k / n) (n + 2) [[((k % n : Nat) : Int)]] (jB n (k % n)) = res at *
  generalize jm g b k = q at *
  have hat := qG g b
  have f1 := dj g.least
  have f2 := bN b
  have f4 := oH g.least.length
  have f5 : (eC [.bool false] g.least.length).length = g.least.length := by rw [f4, eT]; simp
  obtain ⟨_, _, le⟩ := g
  simp only at *
  subst hn hfi
  generalize di ⟨fi, n, le⟩ b = ps at *
  simp only [jF]
  refine af (C := ctx) (Fn.of F7 rfl) rfl ?_
  unfold zc
  repeat' (first
    | ((with_reducible show aG _); first | exact True.intro | (simp only [vb, lb, f5]; and_intros <;> first | omega | (simp <;> omega)))
    | ((with_reducible show aM _); exact True.intro)
    | exact (rfl : some _ = _)
    | (
      fail_if_success refine aT ?_
      refine aZ ?_
      repeat1' dsimp only [zc, an, ai, ax, aI, aC, go_sem]
      first
      | refine aU ?_ ?_ rfl ?_
      | apply aV
      | apply aW
      | (refine aX (fun hc => ?_) fun hc => ?_ <;> first | (cases hc; done) | (try simp only [bn] at hc; try contradiction))
      | skip))
  refine bg le.length (fun _ => True) (fun j => [(2, .pv (.int .i64 k)), (3, .ptr 0 0 0), (4, .ptr 1 0 0), (7, .ref 2 0 0 le.length), (15, .pv (an le)), (16, .pv (.int .i64 le.length)), (17, .pv (.int .i64 j))])
    (fun j => [⟨[.pv (ai s.box), .pv (ax s.rows), .pv (aI s.graphs), .pv (aC s.cases), .pv (ax rows), .pv (ai b), .pv (.bool ch)], 0, 7, 73, false⟩, ⟨[.pv (.int .i64 fi), .pv (.int .i64 n), .pv (an le)], 0, 3, 99, false⟩, ⟨((nD ps j).flatMap dG).map .pv, 0, 1, 4, false⟩]) trivial (by (repeat' (first | exact trivial | refine And.intro (by first | rfl | (simp [get, Nat.beq]; done) | (simp [get, Nat.beq]; omega) | (dsimp only [get]; congr 1 <;> first | rfl | omega | (simp; done) | (simp; omega))) ?_))) ⟨[], ?_⟩ (fun j => ⟨Nat.zero_le _, rfl, by simp [aP, ck]⟩) fun j hj _ => ?_
  · rw [zp, hpl, ← f4]
    simp [ai, ax, aI, aC, an]
  by_cases hlt : j < le.length
  · have e1 := iv (g := bO) (fun _ => rfl) le j 0 default hlt
    have e2 := sZ b (fi + j) (by omega)
    have e3 := hat j hlt
    have e4 := BX ps j (by omega)
    have e5 := BV ps j (by omega)
    have e6 : ((fi : Int) + (j : Int)) = ((fi + j : Nat) : Int) := by simp
    have e7 := eT (nD ps j)
    have hlt2 : fi + j < b.length := by omega
    rw [Int.toNat_natCast] at e3
    rw [e3] at e4
    generalize le.getD j 0 = lj at *
    generalize (b.getD (fi + j) zr).lo = lo at *
    repeat' (first
      | ((with_reducible show aG _); first | exact True.intro | (simp only [vb, lb, e1, e2, e5, e7, hlt, hlt2, hpl, f1, f2]; and_intros <;> first | omega | (simp <;> omega)))
      | ((with_reducible show aM _); first | exact True.intro | ((try dsimp only [go_sem]); (simp only [vb, and_true, true_implies]; (repeat' (first | (with_reducible assumption) | (with_reducible apply And.intro) | intro _ | ((fail_if_success (with_reducible show (_ : Int) ≤ _)); assumption))) <;> first | rfl | (simp only [ab, e1, e2, e5, e7, hlt, hlt2, hpl, f1, f2]; done))))
      | exact (rfl : some _ = _)
      | (
        fail_if_success refine aT ?_
        refine br [ξ 21 (.int .i64 lj), ξ 29 (.int .i64 (fi + j : Nat)), ξ 32 (.int .i64 lo)] ?_
        repeat1' dsimp only [zc, an, ai, ax, aI, aC, go_sem]
        first
        | refine aU ?_ ?_ rfl ?_
        | apply aV
        | apply aW
        | (refine aX (fun hc => ?_) fun hc => ?_ <;> first | (cases hc; done) | (exfalso; (simp at hc <;> omega)) | (try simp only [bn] at hc; try contradiction))
        | skip))
    refine ⟨hlt, trivial, by (repeat' (first | exact trivial | refine And.intro (by first | rfl | (simp [get, Nat.beq]; done) | (simp [get, Nat.beq]; omega) | (dsimp only [get]; congr 1 <;> first | rfl | omega | (simp; done) | (simp; omega))) ?_)), [], ?_⟩
    rw [← e4, ← Fw]
    simp
  · obtain rfl : j = le.length := by omega
    rw [← hpl, BY]
    unfold bF at hpa
    have f3 := eT ps
    have hz1 : ¬ n = 0 := by omega
    obtain ⟨q', hq', hqq⟩ := DN res
    obtain rfl : q = q' := by rw [Bool.eq_iff_iff, hcl, hq']
    refine bz [(7, .ref 2 0 0 ps.length), (2, .pv (.int .i64 k)), (3, .ptr 0 0 0), (4, .ptr 1 0 0), (15, .pv (an le)), (16, .pv (.int .i64 ps.length)), (17, .pv (.int .i64 ps.length))] (by (repeat' (first | exact trivial | refine And.intro (by first | rfl | (simp [get, Nat.beq]; done) | (simp [get, Nat.beq]; omega) | (dsimp only [get]; congr 1 <;> first | rfl | omega | (simp; done) | (simp; omega))) ?_))) ?_
    refine (ma (μ := [_, _]) (ps := ps.flatMap dG) (n := ps.length) (g := 0) (t := 7) (sz := 1) (by simp [aP, ck]) (Nat.zero_le _) (by omega) f3 (fun _ => rfl) rfl ?_)
    rcases hqq with ⟨-, hr, rfl⟩ | ⟨m, c, hr, rfl⟩
    · rw [hr] at hpa
      repeat' (first
        | ((with_reducible show aG _); first | exact True.intro | (simp only [vb, lb, hn1, hpa, hz1]; and_intros <;> first | omega | (simp <;> omega)))
        | ((with_reducible show aM _); first | exact True.intro | ((try dsimp only [go_sem]); (simp only [vb, and_true, true_implies]; (repeat' (first | (with_reducible assumption) | (with_reducible apply And.intro) | intro _ | ((fail_if_success (with_reducible show (_ : Int) ≤ _)); assumption))) <;> rfl)))
        | exact (rfl : some _ = _)
        | (
          fail_if_success refine aT ?_
          refine bX [(128, fun _ => some .nilsl)] [ξ 43 (.int .i64 (k % n : Nat)), ξ 47 (.int .i64 (k / n : Nat))] ?_
          repeat1' dsimp only [zc, bF, go_sem]
          first
          | refine aU ?_ ?_ rfl ?_
          | apply aV
          | apply aW
          | (refine aX (fun hc => ?_) fun hc => ?_ <;> first | (cases hc; done) | (exfalso; (simp at hc <;> omega)) | (try simp only [bn] at hc; try contradiction))
          | skip))
    · rw [hr] at hpa
      repeat' (first
        | ((with_reducible show aG _); first | exact True.intro | (simp only [vb, lb, hn1, hpa, hz1]; and_intros <;> first | omega | (simp <;> omega)))
        | ((with_reducible show aM _); first | exact True.intro | ((try dsimp only [go_sem]); (simp only [vb, and_true, true_implies]; (repeat' (first | (with_reducible assumption) | (with_reducible apply And.intro) | intro _ | ((fail_if_success (with_reducible show (_ : Int) ≤ _)); assumption))) <;> rfl)))
        | exact (rfl : some _ = _)
        | (
          fail_if_success refine aT ?_
          refine bX [(128, fun _ => some (.sl (m + 1) c))] [ξ 43 (.int .i64 (k % n : Nat)), ξ 47 (.int .i64 (k / n : Nat))] ?_
          repeat1' dsimp only [zc, bF, go_sem]
          first
          | refine aU ?_ ?_ rfl ?_
          | apply aV
          | apply aW
          | (refine aX (fun hc => ?_) fun hc => ?_ <;> first | (cases hc; done) | (exfalso; (simp at hc <;> omega)) | (try simp only [bn] at hc; try contradiction))
          | skip))
      simp
end Pur
end
end Go.Proofs.YtaleoeblooeglaaGreatDoor